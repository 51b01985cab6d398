/- The walk of the document's Cut (package ref03). -/
import Derived.Test.YtkgfepnkikcpiaaDoorN1
namespace Go.Proofs.YtkgfepnkikcpiaaDoor
open Go.RowKit
open PSet PMat PWay

theorem high_bit (j : Nat) (hj : j < 64) : Nat.testBit 18446744069414584320 j = decide (32 ≤ j) := by
  have : ∀ j : Nat, j < 64 → Nat.testBit 18446744069414584320 j = decide (32 ≤ j) := by decide +kernel
  exact this j hj
/-- What is left of a number of 64 bits without its low half. -/
theorem sub_low (x : Nat) (hx : x < 2 ^ 64) : x - x % 4294967296 = x &&& 18446744069414584320 := by
  have e : x - x % 4294967296 = (x >>> 32) <<< 32 := by rw [Nat.shiftLeft_eq, Nat.shiftRight_eq_div_pow]; omega
  rw [e]
  apply Nat.eq_of_testBit_eq
  intro j
  rw [Nat.testBit_shiftLeft, Nat.testBit_shiftRight, Nat.testBit_and]
  by_cases hj : j < 64
  · rw [high_bit j hj]
    by_cases h : 32 ≤ j
    · rw [show 32 + (j - 32) = j by omega]; simp [h]
    · simp [h]
  · have h1 : x.testBit j = false := by
      cases h : x.testBit j
      · rfl
      · exact absurd (lt_of_testBit hx h) hj
    have h2 : x.testBit (32 + (j - 32)) = false := by rw [show 32 + (j - 32) = j by omega]; exact h1
    rw [h1, h2]; simp
theorem lessN_and (x h : Nat) (a : Int) : lessN (x &&& h) a = lessN x a &&& h := by
  unfold lessN
  rw [Nat.and_assoc, Nat.and_comm h, ← Nat.and_assoc]
theorem get_of_getD {l : List Nat} {j v : Nat} (h : j < l.length) (e : l.getD j 0 = v) : l[j] = v := by
  rw [← e, List.getD_eq_getElem?_getD, List.getElem?_eq_getElem h]; rfl
/-- The document's way and the program's come to the same. -/
theorem cut_same {m : List Nat} (hm : Mat m) {a : Nat} (ha : a < 32) : cutTo (m.set a (m.getD a 0 - m.getD a 0 % 4294967296)) (a : Int) 32 = cutN m (a : Int) := by
  have hn : nodeB (a : Int) = true := by unfold nodeB; simp; omega
  unfold cutN
  rw [if_pos hn, sub_low _ (hm.2 a)]
  simp only [Int.toNat_natCast]
  apply List.ext_getElem?
  intro j
  have hl := hm.1
  by_cases hj : j < 32
  · have g1 := cutTo_get (m.set a (m.getD a 0 &&& 18446744069414584320)) (a : Int) 32 j (by rw [List.length_set]; omega)
    rw [if_pos hj] at g1
    have g2 := cutTo_get m (a : Int) 32 j (by omega)
    rw [if_pos hj] at g2
    have l1 : j < (cutTo (m.set a (m.getD a 0 &&& 18446744069414584320)) (a : Int) 32).length := by rw [cutTo_length, List.length_set]; omega
    have l2 : j < ((cutTo m (a : Int) 32).set a ((cutTo m (a : Int) 32).getD a 0 &&& 18446744069414584320)).length := by rw [List.length_set, cutTo_length]; omega
    rw [List.getElem?_eq_getElem l1, List.getElem?_eq_getElem l2]
    congr 1
    have e1 : (cutTo (m.set a (m.getD a 0 &&& 18446744069414584320)) (a : Int) 32)[j] = lessN ((m.set a (m.getD a 0 &&& 18446744069414584320)).getD j 0) (a : Int) := by
      exact get_of_getD l1 g1
    rw [e1]
    by_cases h : a = j
    · subst h
      rw [List.getElem_set_self, g2]
      have : (m.set a (m.getD a 0 &&& 18446744069414584320)).getD a 0 = m.getD a 0 &&& 18446744069414584320 := by simp [List.getD, hl, ha]
      rw [this, lessN_and]
    · rw [List.getElem_set_ne h]
      have l3 : j < (cutTo m (a : Int) 32).length := by rw [cutTo_length]; omega
      have e2 : (cutTo m (a : Int) 32)[j] = lessN (m.getD j 0) (a : Int) := get_of_getD l3 g2
      rw [e2]
      have : (m.set a (m.getD a 0 &&& 18446744069414584320)).getD j 0 = m.getD j 0 := by simp [List.getD, h]
      rw [this]
  · rw [List.getElem?_eq_none (by rw [cutTo_length, List.length_set]; omega), List.getElem?_eq_none (by rw [List.length_set, cutTo_length]; omega)]

set_option maxRecDepth 100000 in
theorem rcut_no (m : List Nat) (a : Int) (w : World) (hm : m.length = 32) (hn : nodeB a = false) :
    Calls Tryd.prog 36 #[matV m, .int .i64 a] w fun e w' => e = .returned (matV m) ∧ Below w.heap.size w w' := by
  unfold matV
  have HM := Lib.hid hm
  clear hm
  have H0 : Nums ((w.alloc (.cells (numsV m) 41)).alloc (.cells (numsV zeros) 41)) (w.heap.size + 1) 41 zeros := heap_alloc2_new _ _ _
  have H1 : Nums ((w.alloc (.cells (numsV m) 41)).alloc (.cells (numsV zeros) 41)) w.heap.size 41 m := nums41_new2 m _ w
  have HB : Below w.heap.size w ((w.alloc (.cells (numsV m) 41)).alloc (.cells (numsV zeros) 41)) := ((Below.refl _ _).alloc (Nat.le_refl _) _).alloc (by simp) _
  have c1 := Lib.hid (rnode_any a)
  rw [hn] at c1
  clear hn
  generalize hW : ((w.alloc (.cells (numsV m) 41)).alloc (.cells (numsV zeros) 41)) = W at *
  have HW := Lib.hid hW
  have G0 := Lib.hid H0
  have G1 := Lib.hid H1
  have GB := Lib.hid HB
  clear hW H0 H1 HB
  go_enter Tryd.func36, Tryd.ntmps36
  go_wp2_with fail
  change Calls Tryd.prog 54 _ ((w.alloc (.cells (numsV m) 41)).alloc (.cells (numsV zeros) 41)) _
  rw [HW.out]
  refine (c1.out _).mono ?_
  rintro e w1 ⟨rfl, rfl⟩
  go_wp2_with (first | (refine wpList_load_row rfl 41 _ rfl w.heap.size rfl 41 _ (0, 0) _ G1.out Tryd.underlying41 rfl (size_rmat HM.out) ?_) | (refine wpList_store_row rfl 41 _ _ rfl (w.heap.size + 1) _ rfl rfl 41 _ G0.out (size_rmat HM.out) (by rw [size_numsV, size_numsV, HM.out]; rfl) (one_numsV _) ?_))
  refine bodyPost_ret (results_cell_row rfl _ _ (w.heap.size + 1) 41 _ (0, 0) _ rfl (block_setRow_same G0.out) Tryd.underlying41 rfl (size_rmat HM.out)) rfl ⟨rfl, ?_⟩
  exact below_setRow' GB.out (by omega) _

set_option maxHeartbeats 1000000 in
set_option maxRecDepth 100000 in
theorem rcut_yes (m : List Nat) (a : Nat) (w : World) (hm : Mat m) (ha : a < 32) :
    Calls Tryd.prog 36 #[matV m, .int .i64 a] w fun e w' => e = .returned (matV (cutTo (m.set a (m.getD a 0 - m.getD a 0 % 4294967296)) a 32)) ∧ Below w.heap.size w w' := by
  unfold matV
  have HM := Lib.hid hm
  clear hm
  obtain ⟨W, hW⟩ : ∃ W, ((w.alloc (.cells (numsV m) 41)).alloc (.cells (numsV zeros) 41)) = W := ⟨_, rfl⟩
  have H0 : Nums W (w.heap.size + 1) 41 zeros := by rw [← hW]; exact heap_alloc2_new _ _ _
  have H1 : Nums W w.heap.size 41 m := by rw [← hW]; exact nums41_new2 m _ w
  have HB : Below w.heap.size w W := by rw [← hW]; exact ((Below.refl _ _).alloc (Nat.le_refl _) _).alloc (by simp) _
  have hn : nodeB (a : Int) = true := by unfold nodeB; simp; omega
  have c1 := Lib.hid (rnode_any (a : Int))
  rw [hn] at c1
  clear hn
  have hc : W.drew.cell? ⟨w.heap.size, a, none⟩ = some (.int .u64 ((m.getD a 0 : Nat) : Int)) := H1.cell (k := a) (by rw [HM.out.1]; exact ha)
  have hf : W.drew.frozen? ⟨w.heap.size, a, none⟩ = false := H1.free a
  obtain ⟨x, hx⟩ : ∃ x, x = m.getD a 0 := ⟨_, rfl⟩
  have hxl : x < 2 ^ 64 := by rw [hx]; exact HM.out.2 a
  have hsub : IntKind.u64.wrap ((x : Int) - (x : Int) % 4294967296) = ((x - x % 4294967296 : Nat) : Int) := by
    have : (x : Int) - (x : Int) % 4294967296 = ((x - x % 4294967296 : Nat) : Int) := by omega
    rw [this, IntKind.wrap_u64]
    omega
  have hset : Nums (W.drew.setCell ⟨w.heap.size, a, none⟩ (.int .u64 ((x - x % 4294967296 : Nat) : Int))) w.heap.size 41 (m.set a (x - x % 4294967296)) := Nums.set (w := W.drew) H1 a _
  have hzz : Nums (W.drew.setCell ⟨w.heap.size, a, none⟩ (.int .u64 ((x - x % 4294967296 : Nat) : Int))) (w.heap.size + 1) 41 zeros := Nums.of_block (w := W.drew) H0 (heap_setCell_other _ _ _ _ (by simp))
  have hBB : Below w.heap.size w (W.drew.setCell ⟨w.heap.size, a, none⟩ (.int .u64 ((x - x % 4294967296 : Nat) : Int))) := HB.drew.setCell (p := ⟨w.heap.size, a, none⟩) (Nat.le_refl _) _
  rw [← hx] at hc ⊢
  have hm2 : Mat (m.set a (x - x % 4294967296)) := by
    refine mat_of (by rw [List.length_set]; exact HM.out.1) fun z hz => ?_
    rcases List.mem_or_eq_of_mem_set hz with hz | rfl
    · exact mem_of_mat HM.out z hz
    · omega
  generalize x - x % 4294967296 = y at *
  generalize hm3 : m.set a y = n at *
  have HN := Lib.hid hm2
  have K1 := Lib.hid hset
  have K2 := Lib.hid hzz
  have K3 := Lib.hid hBB
  have HW := Lib.hid hW
  clear hW H0 H1 HB hx hset hzz hBB hm2 hm3 HM hxl
  go_enter Tryd.func36, Tryd.ntmps36
  go_wp2_with fail
  change Calls Tryd.prog 54 _ ((w.alloc (.cells (numsV m) 41)).alloc (.cells (numsV zeros) 41)) _
  rw [HW.out]
  refine (c1.out _).mono ?_
  rintro e w1 ⟨rfl, rfl⟩
  go_wp2_with fail
  go_region
  go_wp2_with fail
  go_loopw [5] (fun i wr => ∃ k : Nat, k ≤ 32 ∧ i = .int .i64 k ∧ Nums wr w.heap.size 41 (cutTo n a k) ∧ Nums wr (w.heap.size + 1) 41 zeros ∧ Below w.heap.size w wr) (fun i _ => 32 - (intOf i).toNat)
  case atStart => exact ⟨0, Nat.zero_le _, rfl, by rw [cutTo_zero]; exact K1.out, K2.out, K3.out⟩
  case round =>
    obtain ⟨k, hk, rfl, hg, hz, hB⟩ := hrel
    have hlenk : (cutTo n a k).length = 32 := by rw [cutTo_length]; exact HN.out.1
    by_cases hlt : k < 32
    · have hc := hg.cell (k := k) (by rw [hlenk]; exact hlt)
      have hf := hg.free k
      have hx := (cutTo_Mat HN.out a k).2 k
      have hset := hg.set k (lessN ((cutTo n a k).getD k 0) a)
      rw [cutTo_succ] at hset
      have hzz : Nums (wr.setCell ⟨w.heap.size, k, none⟩ (.int .u64 ((lessN ((cutTo n a k).getD k 0) (a : Int) : Nat) : Int))) (w.heap.size + 1) 41 zeros := hz.of_block (heap_setCell_other _ _ _ _ (by simp))
      have hBB := hB.setCell (p := ⟨w.heap.size, k, none⟩) (Nat.le_refl _) (.int .u64 ((lessN ((cutTo n a k).getD k 0) (a : Int) : Nat) : Int))
      have c2 := rless_any ((cutTo n a k).getD k 0) (a : Int) wr hx
      generalize lessN ((cutTo n a k).getD k 0) (a : Int) = z at *
      generalize (cutTo n a k).getD k 0 = v at *
      have C2 := Lib.hid c2
      have L1 := Lib.hid hset
      have L2 := Lib.hid hzz
      have L3 := Lib.hid hBB
      clear c2 hset hzz hBB hx hlenk hg hz hB
      go_wp2_with fail
      refine (C2.out).mono ?_
      rintro e w2 ⟨rfl, rfl⟩
      go_wp2_with fail
      refine ⟨⟨k + 1, by omega, by go_num, L1.out, L2.out, L3.out⟩, by simp [intOf]; omega⟩
    · have e : k = 32 := by omega
      subst e
      have L1 := Lib.hid hg
      have L2 := Lib.hid hz
      have L3 := Lib.hid hB
      have HL := Lib.hid hlenk
      clear hg hz hB hlenk
      go_wp2_with (first | (refine wpList_load_row rfl 41 _ rfl w.heap.size rfl 41 _ (0, 0) _ L1.out Tryd.underlying41 rfl (size_rmat HL.out) ?_) | (refine wpList_store_row rfl 41 _ _ rfl (w.heap.size + 1) _ rfl rfl 41 _ L2.out (size_rmat HL.out) (by rw [size_numsV, size_numsV, HL.out]; rfl) (one_numsV _) ?_))
      refine bodyPost_ret (results_cell_row rfl _ _ (w.heap.size + 1) 41 _ (0, 0) _ rfl (block_setRow_same L2.out) Tryd.underlying41 rfl (size_rmat HL.out)) rfl ⟨rfl, ?_⟩
      exact below_setRow' L3.out (by omega) _

/-- ref03.Cut. -/
theorem rcut_any (m : List Nat) (a : Int) (w : World) (hm : Mat m) :
    Calls Tryd.prog 36 #[matV m, .int .i64 a] w fun e w' => e = .returned (matV (cutN m a)) ∧ Below w.heap.size w w' := by
  cases hn : nodeB a
  · have e : cutN m a = m := by unfold cutN; rw [hn]; rfl
    rw [e]
    exact rcut_no m a w hm.1 hn
  · have hr : 0 ≤ a ∧ a < 32 := by unfold nodeB at hn; simpa using hn
    obtain ⟨x, rfl⟩ := Int.eq_ofNat_of_zero_le hr.1
    rw [← cut_same hm (show x < 32 by omega)]
    exact rcut_yes m x w hm (by omega)
end Go.Proofs.YtkgfepnkikcpiaaDoor
