/- The walk of the document's Bits: of each number whether it is in. -/
import Derived.Test.YtkgfepnkikcpiaaDoorR1
namespace Go.Proofs.YtkgfepnkikcpiaaDoor
open Go.RowKit
open PSet

/-- Of each of the numbers 0 to 63 whether it is in a set. -/
def bitsL (s : Nat) : List Bool := (List.range 64).map fun j => s.testBit j
/-- .. and of those below k alone. -/
def bitsTo (s k : Nat) : List Bool := (List.range 64).map fun j => decide (j < k) && s.testBit j
theorem bitsL_length (s : Nat) : (bitsL s).length = 64 := by simp [bitsL]
theorem bitsTo_length (s k : Nat) : (bitsTo s k).length = 64 := by simp [bitsTo]
theorem bitsTo_zero (s : Nat) : bitsTo s 0 = List.replicate 64 false := by
  unfold bitsTo
  rw [List.eq_replicate_iff]
  simp
theorem bitsTo_all (s : Nat) : bitsTo s 64 = bitsL s := by
  unfold bitsTo bitsL
  apply List.map_congr_left
  intro j hj
  have : j < 64 := by simpa using hj
  rw [decide_eq_true this, Bool.true_and]
theorem bitsTo_succ (s k : Nat) : (bitsTo s k).set k (s.testBit k) = bitsTo s (k + 1) := by
  apply List.ext_getElem
  · simp [bitsTo]
  · intro j h1 h2
    rw [List.getElem_set]
    have hj : j < 64 := by simpa [bitsTo] using h2
    by_cases e : k = j
    · subst e
      simp [bitsTo]
    · rw [if_neg e]
      simp only [bitsTo, List.getElem_map, List.getElem_range]
      congr 1
      have : (j < k) ↔ (j < k + 1) := by omega
      simp only [this]
theorem bitsL_get (s k : Nat) (hk : k < 64) : (bitsL s).getD k false = s.testBit k := by
  simp [bitsL, List.getD, hk]
theorem bitsTo_get (s k : Nat) (hk : k < 64) : (bitsTo s k).getD k false = false := by
  simp [bitsTo, List.getD, hk]

theorem odd_bit (s k : Nat) : (((s / 2 ^ k : Nat) : Int) % 2 == 1) = s.testBit k := by
  rw [Bool.eq_iff_iff, beq_iff_eq, ← shr_bit]
  generalize s / 2 ^ k = q
  omega

set_option maxRecDepth 100000 in
/-- ref01.Bits. -/
theorem rbits_any (s : Nat) (w : World) (hs : s < 2 ^ 64) :
    Calls Tryd.prog 50 #[.int .u64 s] w fun e w' => e = .returned (.agg (boolsV (bitsL s))) ∧ Below w.heap.size w w' := by
  have HS := Lib.hid hs
  clear hs
  go_enter Tryd.func50, Tryd.ntmps50
  go_wp2_with fail
  go_loopw [0, 4] (fun t i wr => ∃ k : Nat, k ≤ 64 ∧ i = .int .i64 k ∧ t = .int .u64 ((s / 2 ^ k : Nat) : Int) ∧ Bools wr (w.heap.size + 1) 65 (bitsTo s k) ∧ Bools wr w.heap.size 65 (bitsTo s 0) ∧ Below w.heap.size w wr) (fun _ i _ => 64 - (intOf i).toNat)
  case atStart =>
    refine ⟨0, Nat.zero_le _, rfl, ?_, ?_, ?_, ?_⟩
    · simp
    · unfold Bools
      rw [heap_alloc2_new, bitsTo_zero]
      rfl
    · unfold Bools
      rw [heap_alloc2_old, bitsTo_zero]
      rfl
    · exact ((Below.refl _ _).alloc (Nat.le_refl _) _).alloc (by simp) _
  case round =>
    obtain ⟨k, hk, rfl, rfl, hB, hR, hW⟩ := hrel
    by_cases hlt : k < 64
    · have hc := hB.cell (k := k) (by rw [bitsTo_length]; exact hlt)
      have hf := hB.free k
      have ho := odd_bit s k
      have hd : s / 2 ^ (k + 1) = s / 2 ^ k / 2 := by rw [Nat.pow_succ, Nat.div_div_eq_div_mul]
      have hlt64 : s / 2 ^ k < 18446744073709551616 := Nat.lt_of_le_of_lt (Nat.div_le_self _ _) HS.out
      generalize s / 2 ^ k = q at *
      have H1 := Lib.hid hB
      have H2 := Lib.hid hR
      have H3 := Lib.hid hW
      have H4 := Lib.hid hd
      have HO := Lib.hid ho
      clear hB hR hW hd ho
      go_wp2_with fail
      refine ⟨⟨k + 1, by omega, by go_num, ?_, ?_, ?_, ?_⟩, by simp [intOf]; omega⟩
      · rw [H4.out]
        congr 1
      · have h := H1.out.set k (s.testBit k)
        rw [bitsTo_succ] at h
        rw [HO.out]
        exact h
      · exact H2.out.of_block (heap_setCell_other _ _ _ _ (by simp))
      · exact H3.out.setCell (by simp) _
    · have e : k = 64 := by omega
      subst e
      rw [bitsTo_all] at hB
      have H1 := Lib.hid hB
      have H2 := Lib.hid hR
      have H3 := Lib.hid hW
      clear hB hR hW
      go_wp2_with (first | (refine wpList_load_row rfl 65 _ rfl (w.heap.size + 1) rfl 65 _ (0, 0) _ H1.out Tryd.underlying65 rfl (by rw [size_boolsV, bitsL_length]; exact size65) ?_) | (refine wpList_store_row rfl 65 _ _ rfl w.heap.size _ rfl rfl 65 _ H2.out (by rw [size_boolsV, bitsL_length]; exact size65) (by rw [size_boolsV, size_boolsV, bitsL_length, bitsTo_length]) (one_boolsV _) ?_))
      refine bodyPost_ret (results_cell_row rfl _ _ w.heap.size 65 _ (0, 0) _ rfl (block_setRow_same H2.out) Tryd.underlying65 rfl (by rw [size_boolsV, bitsL_length]; exact size65)) rfl ⟨rfl, ?_⟩
      exact below_setRow' H3.out (Nat.le_refl _) _
end Go.Proofs.YtkgfepnkikcpiaaDoor
