/- The walk of mat.Cut. -/
import Derived.Test.YtkgfepnkikcpiaaDoorM2
namespace Go.Proofs.YtkgfepnkikcpiaaDoor
open Go.RowKit
open PSet PMat

theorem high32 (s : Nat) (hs : s < 2 ^ 64) : bits .andNot .u64 (s : Int) 4294967295 = ((s &&& 18446744069414584320 : Nat) : Int) :=
  u64_andNot_nat s 4294967295 (by omega) (by decide)

theorem cutTo_Mat {m : List Nat} (hm : Mat m) (a : Int) (k : Nat) : Mat (cutTo m a k) := by
  refine ⟨by rw [cutTo_length]; exact hm.1, fun j => ?_⟩
  by_cases hj : j < m.length
  · rw [cutTo_get m a k j hj]
    split
    · exact lessN_lt (hm.2 j) a
    · exact hm.2 j
  · have : (cutTo m a k)[j]? = none := by simp [cutTo_length]; omega
    simp [List.getD, this]

set_option maxRecDepth 100000 in
theorem cut_no (m : List Nat) (a : Int) (w : World) (hm : m.length = 32) (hn : nodeB a = false) :
    Calls Tryd.prog 35 #[matV m, .int .i64 a] w fun e w' => e = .returned (matV m) ∧ Below w.heap.size w w' := by
  unfold matV
  have HM := Lib.hid hm
  clear hm
  have H0 : Nums ((w.alloc (.cells (numsV m) 43)).alloc (.cells (numsV zeros) 43)) (w.heap.size + 1) 43 zeros := heap_alloc2_new _ _ _
  have H1 : Nums ((w.alloc (.cells (numsV m) 43)).alloc (.cells (numsV zeros) 43)) w.heap.size 43 m := nums_new2 m _ w
  have HB : Below w.heap.size w ((w.alloc (.cells (numsV m) 43)).alloc (.cells (numsV zeros) 43)) := ((Below.refl _ _).alloc (Nat.le_refl _) _).alloc (by simp) _
  have c1 := Lib.hid (node_any a)
  rw [hn] at c1
  clear hn
  generalize hW : ((w.alloc (.cells (numsV m) 43)).alloc (.cells (numsV zeros) 43)) = W at *
  have HW := Lib.hid hW
  have G0 := Lib.hid H0
  have G1 := Lib.hid H1
  have GB := Lib.hid HB
  clear hW H0 H1 HB
  go_enter Tryd.func35, Tryd.ntmps35
  go_wp2_with fail
  change Calls Tryd.prog 53 _ ((w.alloc (.cells (numsV m) 43)).alloc (.cells (numsV zeros) 43)) _
  rw [HW.out]
  refine (c1.out _).mono ?_
  rintro e w1 ⟨rfl, rfl⟩
  go_wp2_with (first | (refine wpList_load_row rfl 43 _ rfl w.heap.size rfl 43 _ (0, 0) _ G1.out Tryd.underlying43 rfl (size_mat HM.out) ?_) | (refine wpList_store_row rfl 43 _ _ rfl (w.heap.size + 1) _ rfl rfl 43 _ G0.out (size_mat HM.out) (by rw [size_numsV, size_numsV, HM.out]; rfl) (one_numsV _) ?_))
  refine bodyPost_ret (results_cell_row rfl _ _ (w.heap.size + 1) 43 _ (0, 0) _ rfl (block_setRow_same G0.out) Tryd.underlying43 rfl (size_mat HM.out)) rfl ⟨rfl, ?_⟩
  exact below_setRow' GB.out (by omega) _

set_option maxRecDepth 100000 in
theorem cut_yes (m : List Nat) (a : Nat) (w : World) (hm : Mat m) (ha : a < 32) :
    Calls Tryd.prog 35 #[matV m, .int .i64 a] w fun e w' => e = .returned (matV ((cutTo m a 32).set a ((cutTo m a 32).getD a 0 &&& 18446744069414584320))) ∧ Below w.heap.size w w' := by
  obtain ⟨F, hF⟩ : ∃ F, F = (cutTo m a 32).set a ((cutTo m a 32).getD a 0 &&& 18446744069414584320) := ⟨_, rfl⟩
  rw [← hF]
  have HF := Lib.hid hF
  clear hF
  unfold matV
  have HM := Lib.hid hm
  clear hm
  have H0 : Nums ((w.alloc (.cells (numsV m) 43)).alloc (.cells (numsV zeros) 43)) (w.heap.size + 1) 43 zeros := heap_alloc2_new _ _ _
  have H1 : Nums ((w.alloc (.cells (numsV m) 43)).alloc (.cells (numsV zeros) 43)) w.heap.size 43 m := nums_new2 m _ w
  have HB : Below w.heap.size w ((w.alloc (.cells (numsV m) 43)).alloc (.cells (numsV zeros) 43)) := ((Below.refl _ _).alloc (Nat.le_refl _) _).alloc (by simp) _
  have hn : nodeB (a : Int) = true := by unfold nodeB; simp; omega
  have c1 := Lib.hid (node_any (a : Int))
  rw [hn] at c1
  clear hn
  generalize hW : ((w.alloc (.cells (numsV m) 43)).alloc (.cells (numsV zeros) 43)) = W at *
  have HW := Lib.hid hW
  have G0 := Lib.hid H0
  have G1 := Lib.hid H1
  have GB := Lib.hid HB
  clear hW H0 H1 HB
  go_enter Tryd.func35, Tryd.ntmps35
  go_wp2_with fail
  change Calls Tryd.prog 53 _ ((w.alloc (.cells (numsV m) 43)).alloc (.cells (numsV zeros) 43)) _
  rw [HW.out]
  refine (c1.out _).mono ?_
  rintro e w1 ⟨rfl, rfl⟩
  go_wp2_with fail
  go_loopw [10, 5] (fun i _ wr => ∃ k : Nat, k ≤ 32 ∧ i = .int .i64 k ∧ Nums wr w.heap.size 43 (cutTo m a k) ∧ Nums wr (w.heap.size + 1) 43 zeros ∧ Below w.heap.size w wr) (fun i _ _ => 32 - (intOf i).toNat)
  case atStart => exact ⟨0, Nat.zero_le _, rfl, by rw [cutTo_zero]; exact G1.out, G0.out, GB.out⟩
  case round =>
    obtain ⟨k, hk, rfl, hg, hz, hB⟩ := hrel
    have hlenk : (cutTo m a k).length = 32 := by rw [cutTo_length]; exact HM.out.1
    by_cases hlt : k < 32
    · have hc := hg.cell (k := k) (by rw [hlenk]; exact hlt)
      have hf := hg.free k
      have hx := (cutTo_Mat HM.out a k).2 k
      have hset := hg.set k (lessN ((cutTo m a k).getD k 0) a)
      rw [cutTo_succ] at hset
      have hzz : Nums (wr.setCell ⟨w.heap.size, k, none⟩ (.int .u64 ((lessN ((cutTo m a k).getD k 0) (a : Int) : Nat) : Int))) (w.heap.size + 1) 43 zeros := hz.of_block (heap_setCell_other _ _ _ _ (by simp))
      have hBB := hB.setCell (p := ⟨w.heap.size, k, none⟩) (Nat.le_refl _) (.int .u64 ((lessN ((cutTo m a k).getD k 0) (a : Int) : Nat) : Int))
      have c2 := less_any ((cutTo m a k).getD k 0) (a : Int) wr hx
      generalize lessN ((cutTo m a k).getD k 0) (a : Int) = y at *
      generalize (cutTo m a k).getD k 0 = x at *
      have C2 := Lib.hid c2
      have K1 := Lib.hid hset
      have K2 := Lib.hid hzz
      have K3 := Lib.hid hBB
      clear c2 hset hzz hBB hx hlenk hg hz hB
      go_wp2_with fail
      refine (C2.out).mono ?_
      rintro e w2 ⟨rfl, rfl⟩
      go_wp2_with fail
      refine ⟨⟨k + 1, by omega, by go_num, K1.out, K2.out, K3.out⟩, by simp [intOf]; omega⟩
    · have e : k = 32 := by omega
      subst e
      have hc := hg.cell (k := a) (by rw [hlenk]; exact ha)
      have hf := hg.free a
      have hx := (cutTo_Mat HM.out a 32).2 a
      have hh := high32 _ hx
      have hset := hg.set a ((cutTo m a 32).getD a 0 &&& 18446744069414584320)
      have hzz : Nums (wr.setCell ⟨w.heap.size, a, none⟩ (.int .u64 (((cutTo m a 32).getD a 0 &&& 18446744069414584320 : Nat) : Int))) (w.heap.size + 1) 43 zeros := hz.of_block (heap_setCell_other _ _ _ _ (by simp))
      have hBB := hB.setCell (p := ⟨w.heap.size, a, none⟩) (Nat.le_refl _) (.int .u64 (((cutTo m a 32).getD a 0 &&& 18446744069414584320 : Nat) : Int))
      have hlen : ((cutTo m a 32).set a ((cutTo m a 32).getD a 0 &&& 18446744069414584320)).length = 32 := by rw [List.length_set]; exact hlenk
      rw [← HF.out] at hset hlen
      generalize (cutTo m a 32).getD a 0 &&& 18446744069414584320 = y at *
      generalize (cutTo m a 32).getD a 0 = x at *
      have K1 := Lib.hid hset
      have K2 := Lib.hid hzz
      have K3 := Lib.hid hBB
      have HL := Lib.hid hlen
      have HH := Lib.hid hh
      clear hset hzz hBB hx hlenk hg hz hB hlen hh
      go_wp2_with (first | (refine wpList_load_row rfl 43 _ rfl w.heap.size rfl 43 _ (0, 0) _ K1.out Tryd.underlying43 rfl (size_mat HL.out) ?_) | (refine wpList_store_row rfl 43 _ _ rfl (w.heap.size + 1) _ rfl rfl 43 _ K2.out (size_mat HL.out) (by rw [size_numsV, size_numsV, HL.out]; rfl) (one_numsV _) ?_) | (rw [HH.out]))
      refine bodyPost_ret (results_cell_row rfl _ _ (w.heap.size + 1) 43 _ (0, 0) _ rfl (block_setRow_same K2.out) Tryd.underlying43 rfl (size_mat HL.out)) rfl ⟨rfl, ?_⟩
      exact below_setRow' K3.out (by omega) _

/-- mat.Cut. -/
theorem cut_any (m : List Nat) (a : Int) (w : World) (hm : Mat m) :
    Calls Tryd.prog 35 #[matV m, .int .i64 a] w fun e w' => e = .returned (matV (cutN m a)) ∧ Below w.heap.size w w' := by
  cases hn : nodeB a
  · have e : cutN m a = m := by unfold cutN; rw [hn]; rfl
    rw [e]
    exact cut_no m a w hm.1 hn
  · have hr : 0 ≤ a ∧ a < 32 := by unfold nodeB at hn; simpa using hn
    obtain ⟨x, rfl⟩ := Int.eq_ofNat_of_zero_le hr.1
    have e : cutN m (x : Int) = (cutTo m x 32).set x ((cutTo m x 32).getD x 0 &&& 18446744069414584320) := by unfold cutN; rw [hn]; rfl
    rw [e]
    exact cut_yes m x w hm (by omega)
end Go.Proofs.YtkgfepnkikcpiaaDoor
