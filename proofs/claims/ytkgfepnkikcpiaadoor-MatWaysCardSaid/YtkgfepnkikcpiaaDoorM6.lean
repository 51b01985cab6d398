/- The walks of the statements' Theirs and Ours: the same graph, in the other's type. -/
import Derived.Test.YtkgfepnkikcpiaaDoorM5
namespace Go.Proofs.YtkgfepnkikcpiaaDoor
open Go.RowKit
open PSet PMat PWay

theorem run_index_nums (t e : TypeId) (hu : Tryd.prog.underlying t = some (.array 32 e)) (he : Tryd.prog.plainKey e = true) (hc : Tryd.prog.cellsOf e = 1) (hs : (Tryd.prog.info? e).isSome = true) (m : List Nat) (hm : m.length = 32) (k : Nat) (hk : k < 32) (w : World) :
    (Instr.index t (.agg (numsV m)) (.int .i64 (k : Int))).run Tryd.prog w = .ok (.int .u64 ((m.getD k 0 : Nat) : Int)) w := by
  obtain ⟨i, hi⟩ := Option.isSome_iff_exists.1 hs
  have hp := run_part_plain (w := w) he (get_numsV m k (by omega))
  have h0 : (0 : Int) ≤ (k : Int) ∧ (k : Int) < ((32 : Nat) : Int) := by omega
  unfold Instr.index
  simp only [Sem.run_bind, asIntOf, Sem.run_pure, Result.andThen_ok, run_underlying hu, if_pos h0, run_sizeOf w hi, hc, Int.toNat_natCast, Nat.mul_one]
  exact hp

theorem heap_three (w : World) (A B C : Obj) : (((w.alloc A).alloc B).alloc C).heap[w.heap.size]? = some A := by
  rw [Below.heap_alloc _ _ _ (by simp; omega)]; exact heap_alloc2_old _ _ _
theorem heap_three' (w : World) (A B C : Obj) : (((w.alloc A).alloc B).alloc C).heap[w.heap.size + 1 + 1]? = some C := by
  have h := heap_alloc_new ((w.alloc A).alloc B) C
  simpa using h
theorem heap_three'' (w : World) (A B C : Obj) : (((w.alloc A).alloc B).alloc C).heap[w.heap.size + 1]? = some B := by
  rw [Below.heap_alloc _ _ _ (by simp)]; exact heap_alloc2_new _ _ _

set_option maxRecDepth 100000 in
/-- law03.Theirs. -/
theorem theirs_any (m : List Nat) (w : World) (hm : m.length = 32) :
    Calls Tryd.prog 31 #[matV m] w fun e w' => e = .returned (matV m) ∧ Below w.heap.size w w' := by
  unfold matV
  have HM := Lib.hid hm
  clear hm
  go_enter Tryd.func31, Tryd.ntmps31
  go_wp2_with (refine wpList_load_row rfl 41 _ rfl w.heap.size rfl 41 _ (0, 0) _ (by exact heap_three _ _ _ _) Tryd.underlying41 rfl (size_rmat HM.out) ?_)
  go_loopw [7, 4, 5] (fun i _ _ wr => ∃ k : Nat, k ≤ 32 ∧ i = .int .i64 k ∧ Nums wr (w.heap.size + 1 + 1) 43 (firstTo m k) ∧ Nums wr (w.heap.size + 1) 43 zeros ∧ Below w.heap.size w wr) (fun i _ _ _ => 32 - (intOf i).toNat)
  case atStart =>
    refine ⟨0, Nat.zero_le _, rfl, ?_, ?_, (((Below.refl _ _).alloc (Nat.le_refl _) _).alloc (by simp) _).alloc (by simp; omega) _⟩
    · rw [firstTo_zero]; exact heap_three' _ _ _ _
    · exact heap_three'' _ _ _ _
  case round =>
    obtain ⟨k, hk, rfl, hg, hz, hB⟩ := hrel
    by_cases hlt : k < 32
    · have hc := hg.cell (k := k) (by rw [firstTo_length HM.out hk]; exact hlt)
      have hf := hg.free k
      have hix := fun W => run_index_nums 41 22 Tryd.underlying41 plain22 cells22 some22 m HM.out k hlt W
      have hset := hg.set k (m.getD k 0)
      rw [firstTo_succ HM.out hlt] at hset
      have hzz : Nums (wr.setCell ⟨w.heap.size + 1 + 1, k, none⟩ (.int .u64 ((m.getD k 0 : Nat) : Int))) (w.heap.size + 1) 43 zeros := hz.of_block (heap_setCell_other _ _ _ _ (by simp))
      have hBB := hB.setCell (p := ⟨w.heap.size + 1 + 1, k, none⟩) (by simp; omega) (.int .u64 ((m.getD k 0 : Nat) : Int))
      generalize m.getD k 0 = x at *
      have K1 := Lib.hid hset
      have K2 := Lib.hid hzz
      have K3 := Lib.hid hBB
      clear hset hzz hBB hg hz hB
      go_wp2_with fail
      refine ⟨⟨k + 1, by omega, by go_num, K1.out, K2.out, K3.out⟩, by simp [intOf]; omega⟩
    · have e : k = 32 := by omega
      subst e
      rw [firstTo_all HM.out] at hg
      have K1 := Lib.hid hg
      have K2 := Lib.hid hz
      have K3 := Lib.hid hB
      clear hg hz hB
      go_wp2_with (first | (refine wpList_load_row rfl 43 _ rfl (w.heap.size + 1 + 1) rfl 43 _ (0, 0) _ K1.out Tryd.underlying43 rfl (size_mat HM.out) ?_) | (refine wpList_store_row rfl 43 _ _ rfl (w.heap.size + 1) _ rfl rfl 43 _ K2.out (size_mat HM.out) (by rw [size_numsV, size_numsV, HM.out]; rfl) (one_numsV _) ?_))
      refine bodyPost_ret (results_cell_row rfl _ _ (w.heap.size + 1) 43 _ (0, 0) _ rfl (block_setRow_same K2.out) Tryd.underlying43 rfl (size_mat HM.out)) rfl ⟨rfl, ?_⟩
      exact below_setRow' K3.out (by omega) _

set_option maxRecDepth 100000 in
/-- law03.Ours. -/
theorem ours_any (m : List Nat) (w : World) (hm : m.length = 32) :
    Calls Tryd.prog 34 #[matV m] w fun e w' => e = .returned (matV m) ∧ Below w.heap.size w w' := by
  unfold matV
  have HM := Lib.hid hm
  clear hm
  go_enter Tryd.func34, Tryd.ntmps34
  go_wp2_with (refine wpList_load_row rfl 43 _ rfl w.heap.size rfl 43 _ (0, 0) _ (by exact heap_three _ _ _ _) Tryd.underlying43 rfl (size_mat HM.out) ?_)
  go_loopw [7, 4, 5] (fun i _ _ wr => ∃ k : Nat, k ≤ 32 ∧ i = .int .i64 k ∧ Nums wr (w.heap.size + 1 + 1) 41 (firstTo m k) ∧ Nums wr (w.heap.size + 1) 41 zeros ∧ Below w.heap.size w wr) (fun i _ _ _ => 32 - (intOf i).toNat)
  case atStart =>
    refine ⟨0, Nat.zero_le _, rfl, ?_, ?_, (((Below.refl _ _).alloc (Nat.le_refl _) _).alloc (by simp) _).alloc (by simp; omega) _⟩
    · rw [firstTo_zero]; exact heap_three' _ _ _ _
    · exact heap_three'' _ _ _ _
  case round =>
    obtain ⟨k, hk, rfl, hg, hz, hB⟩ := hrel
    by_cases hlt : k < 32
    · have hc := hg.cell (k := k) (by rw [firstTo_length HM.out hk]; exact hlt)
      have hf := hg.free k
      have hix := fun W => run_index_nums 43 25 Tryd.underlying43 plain25 cells25 some25 m HM.out k hlt W
      have hset := hg.set k (m.getD k 0)
      rw [firstTo_succ HM.out hlt] at hset
      have hzz : Nums (wr.setCell ⟨w.heap.size + 1 + 1, k, none⟩ (.int .u64 ((m.getD k 0 : Nat) : Int))) (w.heap.size + 1) 41 zeros := hz.of_block (heap_setCell_other _ _ _ _ (by simp))
      have hBB := hB.setCell (p := ⟨w.heap.size + 1 + 1, k, none⟩) (by simp; omega) (.int .u64 ((m.getD k 0 : Nat) : Int))
      generalize m.getD k 0 = x at *
      have K1 := Lib.hid hset
      have K2 := Lib.hid hzz
      have K3 := Lib.hid hBB
      clear hset hzz hBB hg hz hB
      go_wp2_with fail
      refine ⟨⟨k + 1, by omega, by go_num, K1.out, K2.out, K3.out⟩, by simp [intOf]; omega⟩
    · have e : k = 32 := by omega
      subst e
      rw [firstTo_all HM.out] at hg
      have K1 := Lib.hid hg
      have K2 := Lib.hid hz
      have K3 := Lib.hid hB
      clear hg hz hB
      go_wp2_with (first | (refine wpList_load_row rfl 41 _ rfl (w.heap.size + 1 + 1) rfl 41 _ (0, 0) _ K1.out Tryd.underlying41 rfl (size_rmat HM.out) ?_) | (refine wpList_store_row rfl 41 _ _ rfl (w.heap.size + 1) _ rfl rfl 41 _ K2.out (size_rmat HM.out) (by rw [size_numsV, size_numsV, HM.out]; rfl) (one_numsV _) ?_))
      refine bodyPost_ret (results_cell_row rfl _ _ (w.heap.size + 1) 41 _ (0, 0) _ rfl (block_setRow_same K2.out) Tryd.underlying41 rfl (size_rmat HM.out)) rfl ⟨rfl, ?_⟩
      exact below_setRow' K3.out (by omega) _
end Go.Proofs.YtkgfepnkikcpiaaDoor
