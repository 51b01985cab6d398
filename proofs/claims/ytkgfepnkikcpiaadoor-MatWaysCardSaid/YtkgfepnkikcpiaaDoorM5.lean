/- The walks of mat.Free, and of the statements' Theirs and Ours (the same graph, in the other's type). -/
import Derived.Test.YtkgfepnkikcpiaaDoorM4
import Derived.Test.YtkgfepnkikcpiaaDoorArrEq
namespace Go.Proofs.YtkgfepnkikcpiaaDoor
open Go.RowKit
open PSet PMat PWay

/-- Whether there is no way round. -/
noncomputable def freeB (m : List Nat) : Bool := (List.range 32).all fun i => !hasB (reachN m (i : Int)) (i : Int)
theorem freeB_true {m : List Nat} : freeB m = true ↔ ∀ i : Nat, i < 32 → hasB (reachN m (i : Int)) (i : Int) = false := by
  unfold freeB
  rw [List.all_eq_true]
  simp
theorem freeB_not {m : List Nat} {i : Nat} (hi : i < 32) (h : hasB (reachN m (i : Int)) (i : Int) = true) : freeB m = false := by
  cases hf : freeB m
  · rfl
  · have := freeB_true.1 hf i hi
    rw [this] at h; cases h

set_option maxRecDepth 100000 in
/-- mat.Free. -/
theorem free_any (m : List Nat) (w : World) (hm : Mat m) (hT : Tab w) :
    Calls Tryd.prog 46 #[matV m] w fun e w' => e = .returned (.bool (freeB m)) ∧ Below w.heap.size w w' := by
  unfold matV
  have HM := Lib.hid hm
  have HT := Lib.hid hT
  clear hm hT
  go_enter Tryd.func46, Tryd.ntmps46
  go_wp2_with fail
  go_loopw [4, 3] (fun i _ wr => ∃ k : Nat, k ≤ 32 ∧ i = .int .i64 k ∧ (∀ j : Nat, j < k → hasB (reachN m (j : Int)) (j : Int) = false) ∧ Nums wr w.heap.size 43 m ∧ Below w.heap.size w wr) (fun i _ _ => 32 - (intOf i).toNat)
  case atStart => exact ⟨0, Nat.zero_le _, rfl, fun j hj => absurd hj (Nat.not_lt_zero _), nums_new m w, (Below.refl _ _).alloc (Nat.le_refl _) _⟩
  case round =>
    obtain ⟨k, hk, rfl, hall, hg, hB⟩ := hrel
    have HA := Lib.hid hall
    have HG := Lib.hid hg
    have HB := Lib.hid hB
    clear hall hg hB
    by_cases hlt : k < 32
    · have c1 := reach_any m (k : Int) wr HM.out (Tab.below HT.out HT.out.pos HB.out)
      unfold matV at c1
      have C1 := Lib.hid c1
      have hr := reachN_lt m (k : Int)
      have HR := Lib.hid hr
      clear c1 hr
      cases hb : hasB (reachN m (k : Int)) (k : Int)
      · have hfree := Lib.hid hb
        clear hb
        go_wp2_with (refine wpList_load_row rfl 43 _ rfl w.heap.size rfl 43 _ (0, 0) _ HG.out Tryd.underlying43 rfl (size_mat HM.out.1) ?_)
        refine (C1.out).mono ?_
        rintro e w1 ⟨rfl, hB1⟩
        have G1 := Lib.hid (HG.out.below hB1 HG.out.lt)
        have B1 := Lib.hid (HB.out.trans (hB1.mono HB.out.size))
        clear hB1
        go_wp2_with fail
        refine (has_any _ _ _ HR.out).mono ?_
        rintro e w2 ⟨rfl, rfl⟩
        rw [hfree.out]
        go_wp2_with fail
        refine ⟨⟨k + 1, by omega, by go_num, ?_, G1.out, B1.out⟩, by simp [intOf]; omega⟩
        intro j hj
        by_cases e : j = k
        · rw [e]; exact hfree.out
        · exact HA.out j (by omega)
      · have hf := Lib.hid (freeB_not hlt hb)
        have HH := Lib.hid hb
        clear hb
        go_wp2_with (refine wpList_load_row rfl 43 _ rfl w.heap.size rfl 43 _ (0, 0) _ HG.out Tryd.underlying43 rfl (size_mat HM.out.1) ?_)
        refine (C1.out).mono ?_
        rintro e w1 ⟨rfl, hB1⟩
        have B1 := Lib.hid (HB.out.trans (hB1.mono HB.out.size))
        clear hB1
        go_wp2_with fail
        refine (has_any _ _ _ HR.out).mono ?_
        rintro e w2 ⟨rfl, rfl⟩
        rw [HH.out]
        go_wp2_with fail
        go_ret
        exact ⟨by rw [hf.out]; rfl, B1.out⟩
    · have e : k = 32 := by omega
      subst e
      have hf := Lib.hid (freeB_true.2 HA.out)
      go_wp2_with fail
      go_ret
      exact ⟨by rw [hf.out]; rfl, HB.out⟩

theorem size_rmat {m : List Nat} (h : m.length = 32) : (Tryd.prog.info? 41).map (·.size) = some (numsV m).size := by rw [size_numsV, h]; exact size41

/-- The first k numbers, and 0 behind them. -/
def firstTo (m : List Nat) (k : Nat) : List Nat := m.take k ++ List.replicate (32 - k) 0
theorem firstTo_length {m : List Nat} (h : m.length = 32) {k : Nat} (hk : k ≤ 32) : (firstTo m k).length = 32 := by
  simp [firstTo]
  omega
theorem firstTo_zero (m : List Nat) : firstTo m 0 = zeros := by simp [firstTo, zeros]
theorem firstTo_all {m : List Nat} (h : m.length = 32) : firstTo m 32 = m := by
  unfold firstTo
  rw [Nat.sub_self, List.replicate_zero, List.append_nil, List.take_of_length_le (by omega)]
theorem firstTo_succ {m : List Nat} (h : m.length = 32) {k : Nat} (hk : k < 32) : (firstTo m k).set k (m.getD k 0) = firstTo m (k + 1) := by
  have e1 : m.take (k + 1) = m.take k ++ [m.getD k 0] := by
    rw [List.take_succ_eq_append_getElem (by omega)]
    simp [List.getD, h, hk]
  have e2 : 32 - k = (32 - (k + 1)) + 1 := by omega
  have hl : (m.take k).length = k := by simp; omega
  unfold firstTo
  rw [e1, e2, List.replicate_succ, List.set_append_right _ _ (by omega), hl, Nat.sub_self, List.set_cons_zero, List.append_assoc]
  rfl
end Go.Proofs.YtkgfepnkikcpiaaDoor
