/- The walk of the document's Free (package ref03). -/
import Derived.Test.YtkgfepnkikcpiaaDoorN5
namespace Go.Proofs.YtkgfepnkikcpiaaDoor
open Go.RowKit
open PSet PMat PWay

set_option maxRecDepth 100000 in
/-- ref03.Free. -/
theorem rfree_any (m : List Nat) (w : World) (hm : Mat m) :
    Calls Tryd.prog 47 #[matV m] w fun e w' => e = .returned (.bool (freeB m)) ∧ Below w.heap.size w w' := by
  unfold matV
  have c1 := fun (k : Nat) W => rreach_any m (k : Int) W hm
  unfold matV at c1
  have C1 := Lib.hid c1
  have HM := Lib.hid hm
  clear hm c1
  go_enter Tryd.func47, Tryd.ntmps47
  go_wp2_with fail
  go_loopw [3] (fun i wr => ∃ k : Nat, k ≤ 32 ∧ i = .int .i64 k ∧ Hid (∀ j : Nat, j < k → hasB (reachN m (j : Int)) (j : Int) = false) ∧ Nums wr w.heap.size 41 m ∧ Below w.heap.size w wr) (fun i _ => 32 - (intOf i).toNat)
  case atStart => exact ⟨0, Nat.zero_le _, rfl, Lib.hid (fun j hj => absurd hj (Nat.not_lt_zero _)), nums_new41 m w, (Below.refl _ _).alloc (Nat.le_refl _) _⟩
  case round =>
    obtain ⟨k, hk, rfl, HA, hg, hB⟩ := hrel
    have HG := Lib.hid hg
    have HB := Lib.hid hB
    clear hg hB
    by_cases hlt : k < 32
    · have hki : ((k : Int) < 32) := by omega
      have hr := reachN_lt m (k : Int)
      have HR := Lib.hid hr
      clear hr
      cases hb : hasB (reachN m (k : Int)) (k : Int)
      · have hfree := Lib.hid hb
        clear hb
        go_wp2_with (refine wpList_load_row rfl 41 _ rfl w.heap.size rfl 41 _ (0, 0) _ HG.out Tryd.underlying41 rfl (size_rmat HM.out.1) ?_)
        refine (C1.out k _).mono ?_
        rintro e w1 ⟨rfl, hB1⟩
        have G1 := Lib.hid (HG.out.below hB1 HG.out.lt)
        have B1 := Lib.hid (HB.out.trans (hB1.mono HB.out.size))
        clear hB1
        go_wp2_with fail
        refine (rhas_any _ _ _ HR.out).mono ?_
        rintro e w2 ⟨rfl, rfl⟩
        rw [hfree.out]
        go_wp2_with fail
        refine ⟨⟨k + 1, by omega, by go_num, Lib.hid ?_, G1.out, B1.out⟩, by simp [intOf]; omega⟩
        intro j hj
        by_cases e : j = k
        · rw [e]; exact hfree.out
        · exact HA.out j (by omega)
      · have hf := Lib.hid (freeB_not hlt hb)
        have HH := Lib.hid hb
        clear hb
        go_wp2_with (refine wpList_load_row rfl 41 _ rfl w.heap.size rfl 41 _ (0, 0) _ HG.out Tryd.underlying41 rfl (size_rmat HM.out.1) ?_)
        refine (C1.out k _).mono ?_
        rintro e w1 ⟨rfl, hB1⟩
        have B1 := Lib.hid (HB.out.trans (hB1.mono HB.out.size))
        clear hB1
        go_wp2_with fail
        refine (rhas_any _ _ _ HR.out).mono ?_
        rintro e w2 ⟨rfl, rfl⟩
        rw [HH.out]
        go_wp2_with fail
        go_ret
        exact ⟨by rw [hf.out]; rfl, B1.out⟩
    · have e : k = 32 := by omega
      subst e
      have hf := Lib.hid (freeB_true.2 HA.out)
      go_wp2_with fail
      go_ret
      exact ⟨by rw [hf.out]; rfl, HB.out⟩
theorem rreach_v (m : List Nat) (a : Int) (W : World) (hm : Mat m) : Calls Tryd.prog 44 #[.agg (valsV m).toArray, .int .i64 a] W fun e w' => e = .returned (.int .u64 (reachN m a : Nat)) ∧ Below W.heap.size W w' := rreach_any m a W hm
theorem rfree_v (m : List Nat) (W : World) (hm : Mat m) : Calls Tryd.prog 47 #[.agg (valsV m).toArray] W fun e w' => e = .returned (.bool (freeB m)) ∧ Below W.heap.size W w' := rfree_any m W hm
end Go.Proofs.YtkgfepnkikcpiaaDoor
