/- The walks of mat.Put and mat.Cut. -/
import Derived.Test.YtkgfepnkikcpiaaDoorM1
namespace Go.Proofs.YtkgfepnkikcpiaaDoor
open Go.RowKit
open PSet PMat

/-- Two results: an array that lies in memory, and one that doesn't. -/
theorem results_cell_tmp {P : Program} {fn : Func} {p t : Tmp} {ty : TypeId} (h : fn.results = #[.cell p ty, .tmp t]) (tmps : Array Value) (w : World) (g : Nat) (tt : TypeId) (cs : Array Value) (fr : Nat × Nat) (d : TypeDesc)
    (hp : tmps.getD p undef = .pointer (some ⟨g, 0, none⟩)) (hg : w.heap[g]? = some (.cells cs tt fr))
    (hu : P.underlying ty = some d) (hd : (match d with | .struct _ | .array _ _ => true | _ => false) = true) (hi : (P.info? ty).map (·.size) = some cs.size) :
    (results fn tmps).run P w = .ok (.tuple #[.agg cs, tmps.getD t undef]) w := by
  have hp' : tmps[p]?.getD undef = .pointer (some ⟨g, 0, none⟩) := by simpa using hp
  simp [results, h, hp', asAddr, run_loadVar_row w g tt ty cs fr d hg hu hd hi]

theorem size_mat {m : List Nat} (h : m.length = 32) : (Tryd.prog.info? 43).map (·.size) = some (numsV m).size := by rw [size_numsV, h]; exact size43
theorem nums_new2 (m : List Nat) (z : Array Value) (w : World) : Nums ((w.alloc (.cells (numsV m) 43)).alloc (.cells z 43)) w.heap.size 43 m := heap_alloc2_old _ _ _

def zeros : List Nat := List.replicate 32 0

set_option maxRecDepth 100000 in
theorem put_no (m : List Nat) (a b : Int) (w : World) (hm : m.length = 32) (hp : putB a b = false) :
    Calls Tryd.prog 32 #[matV m, .int .i64 a, .int .i64 b] w fun e w' => e = .returned (.tuple #[matV m, .bool false]) ∧ Below w.heap.size w w' := by
  unfold matV
  have HM := Lib.hid hm
  clear hm
  have H0 : Nums ((w.alloc (.cells (numsV m) 43)).alloc (.cells (numsV zeros) 43)) (w.heap.size + 1) 43 zeros := heap_alloc2_new _ _ _
  have H1 : Nums ((w.alloc (.cells (numsV m) 43)).alloc (.cells (numsV zeros) 43)) w.heap.size 43 m := nums_new2 m _ w
  have HB : Below w.heap.size w ((w.alloc (.cells (numsV m) 43)).alloc (.cells (numsV zeros) 43)) := ((Below.refl _ _).alloc (Nat.le_refl _) _).alloc (by simp) _
  have hcases : (nodeB a = false) ∨ (nodeB a = true ∧ nodeB b = false) ∨ (nodeB a = true ∧ nodeB b = true ∧ (a == b) = true) := by
    unfold putB at hp
    cases h1 : nodeB a
    · exact .inl rfl
    · cases h2 : nodeB b
      · exact .inr (.inl ⟨rfl, rfl⟩)
      · rw [h1, h2] at hp
        refine .inr (.inr ⟨rfl, rfl, ?_⟩)
        by_cases h : a = b
        · simp [h]
        · simp [h] at hp
  clear hp
  have c1 := Lib.hid (node_any a)
  have c2 := Lib.hid (node_any b)
  generalize hW : ((w.alloc (.cells (numsV m) 43)).alloc (.cells (numsV zeros) 43)) = W at *
  have HW := Lib.hid hW
  have G0 := Lib.hid H0
  have G1 := Lib.hid H1
  have GB := Lib.hid HB
  clear hW H0 H1 HB
  rcases hcases with h1 | ⟨h1, h2⟩ | ⟨h1, h2, h3⟩
  · rw [h1] at c1
    clear h1 c2
    go_enter Tryd.func32, Tryd.ntmps32
    go_wp2_with fail
    change Calls Tryd.prog 53 _ ((w.alloc (.cells (numsV m) 43)).alloc (.cells (numsV zeros) 43)) _
    rw [HW.out]
    refine (c1.out _).mono ?_
    rintro e w1 ⟨rfl, rfl⟩
    go_wp2_with (first | (refine wpList_load_row rfl 43 _ rfl w.heap.size rfl 43 _ (0, 0) _ G1.out Tryd.underlying43 rfl (size_mat HM.out) ?_) | (refine wpList_store_row rfl 43 _ _ rfl (w.heap.size + 1) _ rfl rfl 43 _ G0.out (size_mat HM.out) (by rw [size_numsV, size_numsV, HM.out]; rfl) (one_numsV _) ?_))
    refine bodyPost_ret (results_cell_tmp rfl _ _ (w.heap.size + 1) 43 _ (0, 0) _ rfl (block_setRow_same G0.out) Tryd.underlying43 rfl (size_mat HM.out)) rfl ⟨rfl, ?_⟩
    exact below_setRow' GB.out (by omega) _
  · rw [h1] at c1
    rw [h2] at c2
    clear h1 h2
    go_enter Tryd.func32, Tryd.ntmps32
    go_wp2_with fail
    change Calls Tryd.prog 53 _ ((w.alloc (.cells (numsV m) 43)).alloc (.cells (numsV zeros) 43)) _
    rw [HW.out]
    refine (c1.out _).mono ?_
    rintro e w1 ⟨rfl, rfl⟩
    go_wp2_with fail
    refine (c2.out _).mono ?_
    rintro e w1 ⟨rfl, rfl⟩
    go_wp2_with (first | (refine wpList_load_row rfl 43 _ rfl w.heap.size rfl 43 _ (0, 0) _ G1.out Tryd.underlying43 rfl (size_mat HM.out) ?_) | (refine wpList_store_row rfl 43 _ _ rfl (w.heap.size + 1) _ rfl rfl 43 _ G0.out (size_mat HM.out) (by rw [size_numsV, size_numsV, HM.out]; rfl) (one_numsV _) ?_))
    refine bodyPost_ret (results_cell_tmp rfl _ _ (w.heap.size + 1) 43 _ (0, 0) _ rfl (block_setRow_same G0.out) Tryd.underlying43 rfl (size_mat HM.out)) rfl ⟨rfl, ?_⟩
    exact below_setRow' GB.out (by omega) _
  · rw [h1] at c1
    rw [h2] at c2
    clear h1 h2
    go_enter Tryd.func32, Tryd.ntmps32
    go_wp2_with fail
    change Calls Tryd.prog 53 _ ((w.alloc (.cells (numsV m) 43)).alloc (.cells (numsV zeros) 43)) _
    rw [HW.out]
    refine (c1.out _).mono ?_
    rintro e w1 ⟨rfl, rfl⟩
    go_wp2_with fail
    refine (c2.out _).mono ?_
    rintro e w1 ⟨rfl, rfl⟩
    go_wp2_with (first | (refine wpList_load_row rfl 43 _ rfl w.heap.size rfl 43 _ (0, 0) _ G1.out Tryd.underlying43 rfl (size_mat HM.out) ?_) | (refine wpList_store_row rfl 43 _ _ rfl (w.heap.size + 1) _ rfl rfl 43 _ G0.out (size_mat HM.out) (by rw [size_numsV, size_numsV, HM.out]; rfl) (one_numsV _) ?_))
    refine bodyPost_ret (results_cell_tmp rfl _ _ (w.heap.size + 1) 43 _ (0, 0) _ rfl (block_setRow_same G0.out) Tryd.underlying43 rfl (size_mat HM.out)) rfl ⟨rfl, ?_⟩
    exact below_setRow' GB.out (by omega) _

set_option maxRecDepth 100000 in
theorem put_yes (m : List Nat) (a b : Nat) (w : World) (hm : Mat m) (ha : a < 32) (hb : b < 32) (hne : a ≠ b) :
    Calls Tryd.prog 32 #[matV m, .int .i64 a, .int .i64 b] w fun e w' => e = .returned (.tuple #[matV (m.set a (withN (m.getD a 0) (b : Int))), .bool true]) ∧ Below w.heap.size w w' := by
  unfold matV
  have HM := Lib.hid hm
  clear hm
  have H0 : Nums ((w.alloc (.cells (numsV m) 43)).alloc (.cells (numsV zeros) 43)) (w.heap.size + 1) 43 zeros := heap_alloc2_new _ _ _
  have H1 : Nums ((w.alloc (.cells (numsV m) 43)).alloc (.cells (numsV zeros) 43)) w.heap.size 43 m := nums_new2 m _ w
  have HB : Below w.heap.size w ((w.alloc (.cells (numsV m) 43)).alloc (.cells (numsV zeros) 43)) := ((Below.refl _ _).alloc (Nat.le_refl _) _).alloc (by simp) _
  have h1 : nodeB (a : Int) = true := by unfold nodeB; simp; omega
  have h2 : nodeB (b : Int) = true := by unfold nodeB; simp; omega
  have h3 : ((a : Int) == (b : Int)) = false := by simp; omega
  have c1 := Lib.hid (node_any (a : Int))
  have c2 := Lib.hid (node_any (b : Int))
  rw [h1] at c1
  rw [h2] at c2
  generalize hW : ((w.alloc (.cells (numsV m) 43)).alloc (.cells (numsV zeros) 43)) = W at *
  have hc := H1.cell (k := a) (by rw [HM.out.1]; exact ha)
  have hf := H1.free a
  have c3 := Lib.hid (with_any (m.getD a 0) (b : Int) W (HM.out.2 a))
  have HW := Lib.hid hW
  have G0 := Lib.hid H0
  have hset := H1.set a (withN (m.getD a 0) (b : Int))
  have G1 := Lib.hid hset
  have G2 : Hid (Nums (W.setCell ⟨w.heap.size, a, none⟩ (.int .u64 ((withN (m.getD a 0) (b : Int) : Nat) : Int))) (w.heap.size + 1) 43 zeros) := Lib.hid (G0.out.of_block (heap_setCell_other _ _ _ _ (by simp)))
  have GB := Lib.hid (HB.setCell (p := ⟨w.heap.size, a, none⟩) (Nat.le_refl _) (.int .u64 ((withN (m.getD a 0) (b : Int) : Nat) : Int)))
  have hlen : (m.set a (withN (m.getD a 0) (b : Int))).length = 32 := by rw [List.length_set]; exact HM.out.1
  generalize m.set a (withN (m.getD a 0) (b : Int)) = m2 at *
  generalize withN (m.getD a 0) (b : Int) = y at *
  generalize m.getD a 0 = x at *
  have HL := Lib.hid hlen
  clear hW H0 H1 HB h1 h2 hset hlen
  go_enter Tryd.func32, Tryd.ntmps32
  go_wp2_with fail
  change Calls Tryd.prog 53 _ ((w.alloc (.cells (numsV m) 43)).alloc (.cells (numsV zeros) 43)) _
  rw [HW.out]
  refine (c1.out _).mono ?_
  rintro e w1 ⟨rfl, rfl⟩
  go_wp2_with fail
  refine (c2.out _).mono ?_
  rintro e w1 ⟨rfl, rfl⟩
  go_wp2_with fail
  refine (c3.out).mono ?_
  rintro e w1 ⟨rfl, rfl⟩
  go_wp2_with (first | (refine wpList_load_row rfl 43 _ rfl w.heap.size rfl 43 _ (0, 0) _ G1.out Tryd.underlying43 rfl (size_mat HL.out) ?_) | (refine wpList_store_row rfl 43 _ _ rfl (w.heap.size + 1) _ rfl rfl 43 _ G2.out (size_mat HL.out) (by rw [size_numsV, size_numsV, HL.out]; rfl) (one_numsV _) ?_))
  refine bodyPost_ret (results_cell_tmp rfl _ _ (w.heap.size + 1) 43 _ (0, 0) _ rfl (block_setRow_same G2.out) Tryd.underlying43 rfl (size_mat HL.out)) rfl ⟨rfl, ?_⟩
  exact below_setRow' GB.out (by omega) _

/-- mat.Put. -/
theorem put_any (m : List Nat) (a b : Int) (w : World) (hm : Mat m) :
    Calls Tryd.prog 32 #[matV m, .int .i64 a, .int .i64 b] w fun e w' => e = .returned (.tuple #[matV (putN m a b), .bool (putB a b)]) ∧ Below w.heap.size w w' := by
  cases hp : putB a b
  · have e : putN m a b = m := by unfold putN; rw [hp]; rfl
    rw [e]
    exact put_no m a b w hm.1 hp
  · have hp' := hp
    unfold putB nodeB at hp'
    simp only [Bool.and_eq_true, decide_eq_true_eq, Bool.not_eq_true', decide_eq_false_iff_not] at hp'
    obtain ⟨⟨⟨a0, a1⟩, b0, b1⟩, hne⟩ := hp'
    obtain ⟨x, rfl⟩ := Int.eq_ofNat_of_zero_le a0
    obtain ⟨y, rfl⟩ := Int.eq_ofNat_of_zero_le b0
    have e : putN m (x : Int) (y : Int) = m.set x (withN (m.getD x 0) (y : Int)) := by unfold putN; rw [hp]; rfl
    rw [e]
    exact put_yes m x y w hm (by omega) (by omega) (by omega)
end Go.Proofs.YtkgfepnkikcpiaaDoor
