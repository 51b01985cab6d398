/- The walks of mat.node, Outs, Ins, Has: over whatever graph of 32 numbers. -/
import Derived.Test.YtkgfepnkikcpiaaDoorArr
import Derived.Test.YtkgfepnkikcpiaaDoorPMat
namespace Go.Proofs.YtkgfepnkikcpiaaDoor
open Go.RowKit
open PSet PMat

/-- A graph as a value. -/
def matV (m : List Nat) : Value := .agg (numsV m)

/-- mat.node. -/
theorem node_any (a : Int) (w : World) :
    Calls Tryd.prog 53 #[.int .i64 a] w fun e w' => e = .returned (.bool (nodeB a)) ∧ w = w' := by
  have c : Calls Tryd.prog 16 #[.int .u64 4294967295, .int .i64 a] w fun e w' => e = .returned (.bool (nodeB a)) ∧ w = w' := by
    have h := has_any 4294967295 a w (by decide)
    rw [hasB_all] at h
    exact h
  have C := Lib.hid c
  clear c
  go_enter Tryd.func53, Tryd.ntmps53
  go_wp2_with fail
  refine (C.out).mono ?_
  rintro e w' ⟨rfl, rfl⟩
  go_wp2_with fail
  go_ret
  exact ⟨rfl, rfl⟩

theorem low32 (s : Nat) (hs : s < 2 ^ 64) : bits .and .u64 (s : Int) 4294967295 = ((s % 4294967296 : Nat) : Int) := by
  have h := u64_and_nat s 4294967295 (by omega) (by decide)
  have e : s &&& 4294967295 = s % 4294967296 := Nat.and_two_pow_sub_one_eq_mod s 32
  rw [e] at h
  exact h
theorem nums_new (m : List Nat) (w : World) : Nums (w.alloc (.cells (numsV m) 43)) w.heap.size 43 m := heap_alloc_new _ _

/-- mat.Outs. -/
theorem outs_any (m : List Nat) (a : Int) (w : World) (hm : Mat m) :
    Calls Tryd.prog 39 #[matV m, .int .i64 a] w fun e w' => e = .returned (.int .u64 (outsN m a : Nat)) ∧ Below w.heap.size w w' := by
  unfold matV
  cases hn : nodeB a
  · have ho : outsN m a = 0 := by unfold outsN; rw [hn]; rfl
    have HO := Lib.hid ho
    have HN := Lib.hid hn
    clear ho hn hm
    go_enter Tryd.func39, Tryd.ntmps39
    go_wp2_with fail
    refine (node_any a _).mono ?_
    rintro e w' ⟨rfl, rfl⟩
    rw [HN.out]
    go_wp2_with fail
    go_ret
    exact ⟨by rw [HO.out]; rfl, (Below.refl _ _).alloc (Nat.le_refl _) _⟩
  · have ho : outsN m a = at_ m a % 4294967296 := by unfold outsN; rw [hn]; rfl
    have hr : 0 ≤ a ∧ a < 32 := by unfold nodeB at hn; simpa using hn
    obtain ⟨k, rfl⟩ := Int.eq_ofNat_of_zero_le hr.1
    have hk : k < 32 := by omega
    have hat : at_ m (k : Int) = m.getD k 0 := by unfold at_; rfl
    rw [hat] at ho
    have hc := (nums_new m w).cell (k := k) (by rw [hm.1]; exact hk)
    have hl := low32 (m.getD k 0) (hm.2 k)
    generalize m.getD k 0 = x at *
    have HL := Lib.hid hl
    have HO := Lib.hid ho
    have HN := Lib.hid hn
    clear hl ho hn hm hat
    go_enter Tryd.func39, Tryd.ntmps39
    go_wp2_with fail
    refine (node_any _ _).mono ?_
    rintro e w' ⟨rfl, rfl⟩
    rw [HN.out]
    go_wp2_with fail
    go_ret
    refine ⟨?_, (Below.refl _ _).alloc (Nat.le_refl _) _⟩
    rw [HO.out, ← HL.out]
    rfl

/-- mat.Has. -/
theorem mhas_any (m : List Nat) (a b : Int) (w : World) (hm : Mat m) :
    Calls Tryd.prog 37 #[matV m, .int .i64 a, .int .i64 b] w fun e w' => e = .returned (.bool (hasB (outsN m a) b)) ∧ Below w.heap.size w w' := by
  have hm' := hm
  unfold matV
  have c := outs_any m a
  unfold matV at c
  have C := Lib.hid (fun W => c W hm)
  have HL := Lib.hid hm.1
  clear c hm hm'
  go_enter Tryd.func37, Tryd.ntmps37
  go_wp2_with (refine wpList_load_row rfl 43 _ rfl w.heap.size rfl 43 _ (0, 0) _ (nums_new m w) Tryd.underlying43 rfl (by rw [size_numsV, HL.out]; exact size43) ?_)
  refine (C.out _).mono ?_
  rintro e w1 ⟨rfl, hB⟩
  have HB := Lib.hid (((Below.refl w.heap.size w).alloc (Nat.le_refl _) (.cells (numsV m) 43)).trans (hB.mono (by simp)))
  clear hB
  go_wp2_with fail
  refine (has_any (outsN m a) b _ (outsN_lt m a)).mono ?_
  rintro e w2 ⟨rfl, rfl⟩
  go_wp2_with fail
  go_ret
  exact ⟨rfl, HB.out⟩

theorem ins_no (m : List Nat) (a : Int) (w : World) (hn : nodeB a = false) :
    Calls Tryd.prog 41 #[matV m, .int .i64 a] w fun e w' => e = .returned (.int .u64 (insN m a : Nat)) ∧ Below w.heap.size w w' := by
  unfold matV
  have ho : insN m a = 0 := by unfold insN; rw [hn]; rfl
  have HO := Lib.hid ho
  have HN := Lib.hid hn
  clear ho hn
  go_enter Tryd.func41, Tryd.ntmps41
  go_wp2_with fail
  refine (node_any a _).mono ?_
  rintro e w' ⟨rfl, rfl⟩
  rw [HN.out]
  go_wp2_with fail
  go_ret
  exact ⟨by rw [HO.out]; rfl, (Below.refl _ _).alloc (Nat.le_refl _) _⟩

theorem ins_yes (m : List Nat) (a : Int) (w : World) (hm : Mat m) (hn : nodeB a = true) :
    Calls Tryd.prog 41 #[matV m, .int .i64 a] w fun e w' => e = .returned (.int .u64 (insN m a : Nat)) ∧ Below w.heap.size w w' := by
  unfold matV
  have ho : insN m a = insTo m a 32 := by unfold insN; rw [hn]; rfl
  have HO := Lib.hid ho
  have HN := Lib.hid hn
  have HM := Lib.hid hm
  clear ho hn hm
  go_enter Tryd.func41, Tryd.ntmps41
  go_wp2_with fail
  refine (node_any a _).mono ?_
  rintro e w' ⟨rfl, rfl⟩
  rw [HN.out]
  obtain ⟨W, hW⟩ : ∃ W, W = w.alloc (.cells (numsV m) 43) := ⟨_, rfl⟩
  rw [← hW]
  have hg : Nums W w.heap.size 43 m := by rw [hW]; exact nums_new m w
  have hB : Below w.heap.size w W := by rw [hW]; exact (Below.refl _ _).alloc (Nat.le_refl _) _
  have HG := Lib.hid hg
  have HB := Lib.hid hB
  clear hg hB hW
  go_wp2_with fail
  go_loop [4, 9, 5] (fun s i _ => ∃ k : Nat, k ≤ 32 ∧ i = .int .i64 k ∧ s = .int .u64 (insTo m a k : Nat)) (fun _ i _ => 32 - (intOf i).toNat)
  case atStart => exact ⟨0, Nat.zero_le _, rfl, rfl⟩
  case round =>
    obtain ⟨k, hk, rfl, rfl⟩ := hrel
    by_cases hlt : k < 32
    · have hc := HG.out.cell (k := k) (by rw [HM.out.1]; exact hlt)
      have hs := insTo_succ m a k
      have c1 := has_any (m.getD k 0) a W (HM.out.2 k)
      have hi := insTo_lt m a k
      generalize m.getD k 0 = x at *
      cases hb : hasB x a
      · rw [hb] at c1 hs
        rw [if_neg (by decide)] at hs
        have C1 := Lib.hid c1
        have H1 := Lib.hid hs
        clear c1 hs hb hi
        go_wp2_with fail
        refine (C1.out).mono ?_
        rintro e w2 ⟨rfl, rfl⟩
        go_wp2_with fail
        go_round
        case rel => exact ⟨k + 1, by omega, by go_num, by rw [H1.out]⟩
        case measure => simp [intOf]; omega
      · rw [hb] at c1 hs
        rw [if_pos rfl] at hs
        have C1 := Lib.hid c1
        have H1 := Lib.hid hs
        have H2 := Lib.hid hi
        clear c1 hs hb hi
        go_wp2_with fail
        refine (C1.out).mono ?_
        rintro e w2 ⟨rfl, rfl⟩
        go_wp2_with fail
        refine (with_any _ _ _ H2.out).mono ?_
        rintro e w2 ⟨rfl, rfl⟩
        go_wp2_with fail
        go_round
        case rel => exact ⟨k + 1, by omega, by go_num, by rw [H1.out]⟩
        case measure => simp [intOf]; omega
    · have e : k = 32 := by omega
      subst e
      rw [← HO.out]
      go_wp2_with fail
      go_ret
      exact ⟨rfl, HB.out⟩

/-- mat.Ins. -/
theorem ins_any (m : List Nat) (a : Int) (w : World) (hm : Mat m) :
    Calls Tryd.prog 41 #[matV m, .int .i64 a] w fun e w' => e = .returned (.int .u64 (insN m a : Nat)) ∧ Below w.heap.size w w' := by
  cases hn : nodeB a
  · exact ins_no m a w hn
  · exact ins_yes m a w hm hn
end Go.Proofs.YtkgfepnkikcpiaaDoor
