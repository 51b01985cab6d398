/- The walk of SetRises: the numbers of a set rise, the first one is the least, and each is in it. -/
import Derived.Test.YtkgfepnkikcpiaaDoorS6
import Derived.Deep.QuietTactic
import Derived.BigQuiet
namespace Go.Proofs.YtkgfepnkikcpiaaDoor
open Go.RowKit
open PSet

theorem itemsI_rises (s : Nat) : (itemsI s).Pairwise (· < ·) := by
  unfold itemsI itemsN
  rw [List.pairwise_map]
  refine List.Pairwise.imp (R := fun a b : Nat => a < b) (fun h => by omega) ?_
  exact List.Pairwise.filter _ List.pairwise_lt_range
theorem itemsI_step (s k : Nat) (h0 : 0 < k) (hk : k < (itemsI s).length) : (itemsI s).getD (k - 1) 0 < (itemsI s).getD k 0 := by
  have h := List.pairwise_iff_getElem.1 (itemsI_rises s) (k - 1) k (by omega) hk (by omega)
  have e1 : (itemsI s).getD (k - 1) 0 = (itemsI s)[k - 1]'(by omega) := by simp [List.getD, show k - 1 < (itemsI s).length by omega]
  have e2 : (itemsI s).getD k 0 = (itemsI s)[k] := by simp [List.getD, hk]
  rw [e1, e2]
  exact h
theorem itemsI_has (s k : Nat) (hk : k < (itemsI s).length) : hasB s ((itemsI s).getD k 0) = true := by
  have e2 : (itemsI s).getD k 0 = (itemsI s)[k] := by simp [List.getD, hk]
  obtain ⟨j, e, hj, hb⟩ := mem_itemsI.1 (List.getElem_mem hk)
  rw [e2, e, hasB_nat s j hj]
  exact hb
theorem itemsI_first {s : Nat} {x : Int} (h : (itemsI s).getD 0 0 = x) (hl : 0 < (itemsI s).length) : firstN s = x := by
  subst h
  unfold itemsI at hl ⊢
  unfold firstN
  cases e : itemsN s with
  | nil => rw [e] at hl; simp at hl
  | cons a t => simp
theorem itemsI_none {s : Nat} (hs : s < 2 ^ 64) (h : (itemsI s).length = 0) : s = 0 := by
  have : itemsI s = [] := List.eq_nil_of_length_eq_zero h
  unfold itemsI at this
  exact eq_zero_of_items hs (List.map_eq_nil_iff.1 this)

set_option maxHeartbeats 1000000 in
set_option maxRecDepth 100000 in
theorem rises_walk (s : Nat) (w : World) (hs : s < 2 ^ 64) (hT : Tab w) :
    Calls Tryd.prog 6 #[.int .u64 s] w fun e w' => e = .returned (.bool true) ∧ Below w.heap.size w w' := by
  have A := Lib.hid (alive1 w hT)
  have HS := Lib.hid hs
  have HT := Lib.hid hT
  clear hs hT
  go_enter Tryd.func6, Tryd.ntmps6
  go_wp2_with fail
  refine (A.out).mono ?_
  rintro e w1 ⟨rfl, hB⟩
  have HB := Lib.hid hB
  clear hB
  go_wp2_with fail
  refine (items_int s w1 HS.out (Tab.below HT.out HT.out.pos HB.out)).mono ?_
  rintro e w2 ⟨a, c, rfl, hI, hB2⟩
  have HI := Lib.hid hI
  have HB2 := Lib.hid (HB.out.trans (hB2.mono HB.out.size))
  have T2 := Lib.hid (Tab.below HT.out HT.out.pos HB2.out)
  have hstep := itemsI_step s
  have hhas := itemsI_has s
  have hfirst : ∀ x, (itemsI s).getD 0 0 = x → 0 < (itemsI s).length → firstN s = x := fun x h1 h2 => itemsI_first h1 h2
  have hnone := @itemsI_none s HS.out
  have hn5 := itemsI_length_le s
  clear hI hB2
  generalize hq : itemsI s = q at *
  generalize hr : q.length = r at *
  have HR := Lib.hid hr
  have HP := Lib.hid hstep
  have HH := Lib.hid hhas
  have HF := Lib.hid hfirst
  have HZ := Lib.hid hnone
  clear hq hr hstep hhas hfirst hnone
  go_wp2_with fail
  go_loop [12, 4, 5] (fun i _ _ => ∃ t : Nat, t ≤ r ∧ i = .int .i64 t) (fun i _ _ => r - (intOf i).toNat)
  case atStart => exact ⟨0, Nat.zero_le _, rfl⟩
  case round =>
    obtain ⟨t, ht, rfl⟩ := hrel
    by_cases hlt : t < r
    · obtain ⟨b, o, rfl⟩ := HI.out.some (by have := HR.out; omega)
      have hc : w2.cell? ⟨b, o + t, none⟩ = some (.int .i64 (q.getD t 0)) := HI.out.cell (by have := HR.out; omega)
      have f1 := Lib.hid (has_any s (q.getD t 0) w2 HS.out)
      rw [HH.out t hlt] at f1
      by_cases h0 : t = 0
      · subst h0
        generalize q.getD 0 0 = y at *
        simp only [Nat.add_zero] at hc
        go_wp2_with fail
        refine (f1.out).mono ?_
        rintro e w3 ⟨rfl, rfl⟩
        go_wp2_with fail
        go_round
        case rel => exact ⟨1, by omega, by go_num⟩
        case measure => simp [intOf]; omega
      · have hp : 0 < t := by omega
        have g0 : decide ((0 : Int) < (t : Int)) = true := by simp; omega
        have hc' : w2.cell? ⟨b, o + (t - 1), none⟩ = some (.int .i64 (q.getD (t - 1) 0)) := HI.out.cell (by have := HR.out; omega)
        have hlt2 := HP.out t hp hlt
        have hx : (t : Int) - 1 = ((t - 1 : Nat) : Int) := by omega
        have g1 : decide (q.getD t 0 ≤ q.getD (t - 1) 0) = false := by simp only [decide_eq_false_iff_not]; omega
        generalize q.getD t 0 = y at *
        generalize q.getD (t - 1) 0 = z at *
        have hx0 : (0 : Int) ≤ (t : Int) - 1 := by omega
        have hx1 : (t : Int) - 1 < (r : Int) := by omega
        go_wp2_with fail
        refine (f1.out).mono ?_
        rintro e w3 ⟨rfl, rfl⟩
        go_wp2_with fail
        exact ⟨⟨t + 1, by omega, by go_num⟩, by simp [intOf]; omega⟩
    · have e : t = r := by omega
      subst e
      by_cases h0 : t = 0
      · have hs0 := HZ.out h0
        subst h0
        subst hs0
        have f1 := Lib.hid (first_any 0 w2 (by decide) T2.out)
        rw [firstN_zero] at f1
        go_wp2_with fail
        refine (f1.out).mono ?_
        rintro e w3 ⟨rfl, rfl⟩
        go_wp2_with fail
        go_ret
        exact ⟨rfl, HB2.out⟩
      · obtain ⟨b, o, rfl⟩ := HI.out.some (by have := HR.out; omega)
        have hc : w2.cell? ⟨b, o + 0, none⟩ = some (.int .i64 (q.getD 0 0)) := HI.out.cell (by have := HR.out; omega)
        have hf := HF.out _ rfl (by omega)
        have f1 : ∀ n, Calls Tryd.prog 25 #[.int .u64 s] (w2.drewN n) fun e w' => e = .returned (.int .i64 (q.getD 0 0)) ∧ w' = w2.drewN n := fun n => by
          have h := first_any s (w2.drewN n) HS.out T2.out
          rw [hf] at h
          exact h.mono fun _ _ hh => ⟨hh.1, hh.2.symm⟩
        simp only [Nat.add_zero] at hc
        generalize q.getD 0 0 = y at *
        have F1 := Lib.hid f1
        clear hf f1
        have g0 : ((t : Int) == 0) = false := by simp; omega
        have g1 : (0 : Int) < (t : Int) := by omega
        go_wp2_with fail
        go_quiet ((go_at_call 25; exact Calls.quiet_of_same (F1.out _)))
        go_wp2_with fail
        go_ret
        exact ⟨by simp, below_drewN HB2.out _⟩
end Go.Proofs.YtkgfepnkikcpiaaDoor
