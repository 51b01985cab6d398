/- The walks of the document's Node, Outs, Has, Put (package ref03). -/
import Derived.Test.YtkgfepnkikcpiaaDoorM8
import Derived.Test.YtkgfepnkikcpiaaDoorR1
namespace Go.Proofs.YtkgfepnkikcpiaaDoor
open Go.RowKit
open PSet PMat PWay

/-- ref03.Node. -/
theorem rnode_any (a : Int) (w : World) :
    Calls Tryd.prog 54 #[.int .i64 a] w fun e w' => e = .returned (.bool (nodeB a)) ∧ w = w' := by
  have hcases : (a < 0 ∧ nodeB a = false) ∨ (0 ≤ a ∧ a < 32 ∧ nodeB a = true) ∨ (0 ≤ a ∧ 32 ≤ a ∧ nodeB a = false) := by
    unfold nodeB
    by_cases h0 : 0 ≤ a
    · by_cases h1 : a < 32
      · exact .inr (.inl ⟨h0, h1, by simp [h0, h1]⟩)
      · exact .inr (.inr ⟨h0, by omega, by simp; omega⟩)
    · exact .inl ⟨by omega, by simp; omega⟩
  rcases hcases with ⟨h0, h⟩ | ⟨h0, h1, h⟩ | ⟨h0, h1, h⟩
  all_goals
    have H := Lib.hid h
    clear h
    go_enter Tryd.func54, Tryd.ntmps54
    go_wp2_with fail
    go_ret
    exact ⟨by rw [H.out]; first | rfl | (simp; omega), rfl⟩

/-- ref03.Outs. -/
theorem routs_any (m : List Nat) (a : Int) (w : World) (hm : Mat m) :
    Calls Tryd.prog 40 #[matV m, .int .i64 a] w fun e w' => e = .returned (.int .u64 (outsN m a : Nat)) ∧ Below w.heap.size w w' := by
  unfold matV
  cases hn : nodeB a
  · have ho : outsN m a = 0 := by unfold outsN; rw [hn]; rfl
    have HO := Lib.hid ho
    have HN := Lib.hid hn
    clear ho hn hm
    go_enter Tryd.func40, Tryd.ntmps40
    go_wp2_with fail
    refine (rnode_any a _).mono ?_
    rintro e w' ⟨rfl, rfl⟩
    rw [HN.out]
    go_wp2_with fail
    go_ret
    exact ⟨by rw [HO.out]; rfl, (Below.refl _ _).alloc (Nat.le_refl _) _⟩
  · have ho : outsN m a = at_ m a % 4294967296 := by unfold outsN; rw [hn]; rfl
    have hr : 0 ≤ a ∧ a < 32 := by unfold nodeB at hn; simpa using hn
    obtain ⟨k, rfl⟩ := Int.eq_ofNat_of_zero_le hr.1
    have hk : k < 32 := by omega
    have hat : at_ m (k : Int) = m.getD k 0 := by unfold at_; rfl
    rw [hat] at ho
    have hc := (nums_new41 m w).cell (k := k) (by rw [hm.1]; exact hk)
    have hlt := hm.2 k
    generalize m.getD k 0 = x at *
    have HO := Lib.hid ho
    have HN := Lib.hid hn
    clear ho hn hm hat
    go_enter Tryd.func40, Tryd.ntmps40
    go_wp2_with fail
    refine (rnode_any _ _).mono ?_
    rintro e w' ⟨rfl, rfl⟩
    rw [HN.out]
    go_wp2_with fail
    go_ret
    refine ⟨?_, (Below.refl _ _).alloc (Nat.le_refl _) _⟩
    rw [HO.out]
    rfl

/-- ref03.Has. -/
theorem rmhas_any (m : List Nat) (a b : Int) (w : World) (hm : Mat m) :
    Calls Tryd.prog 38 #[matV m, .int .i64 a, .int .i64 b] w fun e w' => e = .returned (.bool (hasB (outsN m a) b)) ∧ Below w.heap.size w w' := by
  unfold matV
  have hBa : Below w.heap.size w (w.alloc (.cells (numsV m) 41)) := (Below.refl _ _).alloc (Nat.le_refl _) _
  have HB := Lib.hid hBa
  have c1 := Lib.hid (rnode_any a)
  have c2 := Lib.hid (rnode_any b)
  clear hBa
  cases ha : nodeB a
  · have ho : hasB (outsN m a) b = false := by unfold outsN; rw [ha]; unfold hasB; simp
    have HO := Lib.hid ho
    have HA := Lib.hid ha
    clear ho ha hm
    go_enter Tryd.func38, Tryd.ntmps38
    go_wp2_with fail
    refine (c1.out _).mono ?_
    rintro e w' ⟨rfl, rfl⟩
    rw [HA.out]
    go_wp2_with fail
    go_ret
    exact ⟨by rw [HO.out]; rfl, HB.out⟩
  · cases hb : nodeB b
    · have ho : hasB (outsN m a) b = false := by
        unfold hasB
        by_cases h : 0 ≤ b ∧ b ≤ 63
        · rw [testBit_outsN]
          have : ¬ (b.toNat < 32) := by unfold nodeB at hb; simp at hb; omega
          simp [this]
        · rw [decide_eq_false h, Bool.false_and]
      have HO := Lib.hid ho
      have HA := Lib.hid ha
      have HBb := Lib.hid hb
      clear ho ha hb hm
      go_enter Tryd.func38, Tryd.ntmps38
      go_wp2_with fail
      refine (c1.out _).mono ?_
      rintro e w' ⟨rfl, rfl⟩
      rw [HA.out]
      go_wp2_with fail
      refine (c2.out _).mono ?_
      rintro e w' ⟨rfl, rfl⟩
      rw [HBb.out]
      go_wp2_with fail
      go_ret
      exact ⟨by rw [HO.out]; rfl, HB.out⟩
    · have hr : 0 ≤ a ∧ a < 32 := by unfold nodeB at ha; simpa using ha
      have hr2 : 0 ≤ b ∧ b < 32 := by unfold nodeB at hb; simpa using hb
      obtain ⟨k, rfl⟩ := Int.eq_ofNat_of_zero_le hr.1
      have hk : k < 32 := by omega
      have ho : hasB (outsN m (k : Int)) b = hasB (m.getD k 0) b := by
        unfold hasB
        rw [testBit_outsN, ha]
        have : b.toNat < 32 := by omega
        simp [this, at_]
      have hc := (nums_new41 m w).cell (k := k) (by rw [hm.1]; exact hk)
      have hlt := hm.2 k
      generalize m.getD k 0 = x at *
      have c3 := Lib.hid (fun W => rhas_any x b W hlt)
      have HO := Lib.hid ho
      have HA := Lib.hid ha
      have HBb := Lib.hid hb
      clear ho ha hb hm hr2
      go_enter Tryd.func38, Tryd.ntmps38
      go_wp2_with fail
      refine (c1.out _).mono ?_
      rintro e w' ⟨rfl, rfl⟩
      rw [HA.out]
      go_wp2_with fail
      refine (c2.out _).mono ?_
      rintro e w' ⟨rfl, rfl⟩
      rw [HBb.out]
      go_wp2_with fail
      refine (c3.out _).mono ?_
      rintro e w' ⟨rfl, rfl⟩
      go_wp2_with fail
      go_ret
      exact ⟨by rw [HO.out]; rfl, HB.out⟩

theorem nums41_new2 (m : List Nat) (z : Array Value) (w : World) : Nums ((w.alloc (.cells (numsV m) 41)).alloc (.cells z 41)) w.heap.size 41 m := heap_alloc2_old _ _ _

set_option maxRecDepth 100000 in
theorem rput_no (m : List Nat) (a b : Int) (w : World) (hm : m.length = 32) (hp : putB a b = false) :
    Calls Tryd.prog 33 #[matV m, .int .i64 a, .int .i64 b] w fun e w' => e = .returned (.tuple #[matV m, .bool false]) ∧ Below w.heap.size w w' := by
  unfold matV
  have HM := Lib.hid hm
  clear hm
  have H0 : Nums ((w.alloc (.cells (numsV m) 41)).alloc (.cells (numsV zeros) 41)) (w.heap.size + 1) 41 zeros := heap_alloc2_new _ _ _
  have H1 : Nums ((w.alloc (.cells (numsV m) 41)).alloc (.cells (numsV zeros) 41)) w.heap.size 41 m := nums41_new2 m _ w
  have HB : Below w.heap.size w ((w.alloc (.cells (numsV m) 41)).alloc (.cells (numsV zeros) 41)) := ((Below.refl _ _).alloc (Nat.le_refl _) _).alloc (by simp) _
  have hcases : (nodeB a = false) ∨ (nodeB a = true ∧ nodeB b = false) ∨ (nodeB a = true ∧ nodeB b = true ∧ (a == b) = true) := by
    unfold putB at hp
    cases h1 : nodeB a
    · exact .inl rfl
    · cases h2 : nodeB b
      · exact .inr (.inl ⟨rfl, rfl⟩)
      · rw [h1, h2] at hp
        refine .inr (.inr ⟨rfl, rfl, ?_⟩)
        by_cases h : a = b
        · simp [h]
        · simp [h] at hp
  clear hp
  have c1 := Lib.hid (rnode_any a)
  have c2 := Lib.hid (rnode_any b)
  generalize hW : ((w.alloc (.cells (numsV m) 41)).alloc (.cells (numsV zeros) 41)) = W at *
  have HW := Lib.hid hW
  have G0 := Lib.hid H0
  have G1 := Lib.hid H1
  have GB := Lib.hid HB
  clear hW H0 H1 HB
  rcases hcases with h1 | ⟨h1, h2⟩ | ⟨h1, h2, h3⟩
  · rw [h1] at c1
    clear h1 c2
    go_enter Tryd.func33, Tryd.ntmps33
    go_wp2_with fail
    change Calls Tryd.prog 54 _ ((w.alloc (.cells (numsV m) 41)).alloc (.cells (numsV zeros) 41)) _
    rw [HW.out]
    refine (c1.out _).mono ?_
    rintro e w1 ⟨rfl, rfl⟩
    go_wp2_with (first | (refine wpList_load_row rfl 41 _ rfl w.heap.size rfl 41 _ (0, 0) _ G1.out Tryd.underlying41 rfl (size_rmat HM.out) ?_) | (refine wpList_store_row rfl 41 _ _ rfl (w.heap.size + 1) _ rfl rfl 41 _ G0.out (size_rmat HM.out) (by rw [size_numsV, size_numsV, HM.out]; rfl) (one_numsV _) ?_))
    refine bodyPost_ret (results_cell_tmp rfl _ _ (w.heap.size + 1) 41 _ (0, 0) _ rfl (block_setRow_same G0.out) Tryd.underlying41 rfl (size_rmat HM.out)) rfl ⟨rfl, ?_⟩
    exact below_setRow' GB.out (by omega) _
  · rw [h1] at c1
    rw [h2] at c2
    clear h1 h2
    go_enter Tryd.func33, Tryd.ntmps33
    go_wp2_with fail
    change Calls Tryd.prog 54 _ ((w.alloc (.cells (numsV m) 41)).alloc (.cells (numsV zeros) 41)) _
    rw [HW.out]
    refine (c1.out _).mono ?_
    rintro e w1 ⟨rfl, rfl⟩
    go_wp2_with fail
    refine (c2.out _).mono ?_
    rintro e w1 ⟨rfl, rfl⟩
    go_wp2_with (first | (refine wpList_load_row rfl 41 _ rfl w.heap.size rfl 41 _ (0, 0) _ G1.out Tryd.underlying41 rfl (size_rmat HM.out) ?_) | (refine wpList_store_row rfl 41 _ _ rfl (w.heap.size + 1) _ rfl rfl 41 _ G0.out (size_rmat HM.out) (by rw [size_numsV, size_numsV, HM.out]; rfl) (one_numsV _) ?_))
    refine bodyPost_ret (results_cell_tmp rfl _ _ (w.heap.size + 1) 41 _ (0, 0) _ rfl (block_setRow_same G0.out) Tryd.underlying41 rfl (size_rmat HM.out)) rfl ⟨rfl, ?_⟩
    exact below_setRow' GB.out (by omega) _
  · rw [h1] at c1
    rw [h2] at c2
    clear h1 h2
    go_enter Tryd.func33, Tryd.ntmps33
    go_wp2_with fail
    change Calls Tryd.prog 54 _ ((w.alloc (.cells (numsV m) 41)).alloc (.cells (numsV zeros) 41)) _
    rw [HW.out]
    refine (c1.out _).mono ?_
    rintro e w1 ⟨rfl, rfl⟩
    go_wp2_with fail
    refine (c2.out _).mono ?_
    rintro e w1 ⟨rfl, rfl⟩
    go_wp2_with (first | (refine wpList_load_row rfl 41 _ rfl w.heap.size rfl 41 _ (0, 0) _ G1.out Tryd.underlying41 rfl (size_rmat HM.out) ?_) | (refine wpList_store_row rfl 41 _ _ rfl (w.heap.size + 1) _ rfl rfl 41 _ G0.out (size_rmat HM.out) (by rw [size_numsV, size_numsV, HM.out]; rfl) (one_numsV _) ?_))
    refine bodyPost_ret (results_cell_tmp rfl _ _ (w.heap.size + 1) 41 _ (0, 0) _ rfl (block_setRow_same G0.out) Tryd.underlying41 rfl (size_rmat HM.out)) rfl ⟨rfl, ?_⟩
    exact below_setRow' GB.out (by omega) _

set_option maxRecDepth 100000 in
theorem rput_yes (m : List Nat) (a b : Nat) (w : World) (hm : Mat m) (ha : a < 32) (hb : b < 32) (hne : a ≠ b) :
    Calls Tryd.prog 33 #[matV m, .int .i64 a, .int .i64 b] w fun e w' => e = .returned (.tuple #[matV (m.set a (withN (m.getD a 0) (b : Int))), .bool true]) ∧ Below w.heap.size w w' := by
  unfold matV
  have HM := Lib.hid hm
  clear hm
  have H0 : Nums ((w.alloc (.cells (numsV m) 41)).alloc (.cells (numsV zeros) 41)) (w.heap.size + 1) 41 zeros := heap_alloc2_new _ _ _
  have H1 : Nums ((w.alloc (.cells (numsV m) 41)).alloc (.cells (numsV zeros) 41)) w.heap.size 41 m := nums41_new2 m _ w
  have HB : Below w.heap.size w ((w.alloc (.cells (numsV m) 41)).alloc (.cells (numsV zeros) 41)) := ((Below.refl _ _).alloc (Nat.le_refl _) _).alloc (by simp) _
  have h1 : nodeB (a : Int) = true := by unfold nodeB; simp; omega
  have h2 : nodeB (b : Int) = true := by unfold nodeB; simp; omega
  have h3 : ((a : Int) == (b : Int)) = false := by simp; omega
  have c1 := Lib.hid (rnode_any (a : Int))
  have c2 := Lib.hid (rnode_any (b : Int))
  rw [h1] at c1
  rw [h2] at c2
  generalize hW : ((w.alloc (.cells (numsV m) 41)).alloc (.cells (numsV zeros) 41)) = W at *
  have hc := H1.cell (k := a) (by rw [HM.out.1]; exact ha)
  have hf := H1.free a
  have c3 := Lib.hid (rwith_any (m.getD a 0) (b : Int) W (HM.out.2 a))
  have HW := Lib.hid hW
  have G0 := Lib.hid H0
  have hset := H1.set a (withN (m.getD a 0) (b : Int))
  have G1 := Lib.hid hset
  have G2 : Hid (Nums (W.setCell ⟨w.heap.size, a, none⟩ (.int .u64 ((withN (m.getD a 0) (b : Int) : Nat) : Int))) (w.heap.size + 1) 41 zeros) := Lib.hid (G0.out.of_block (heap_setCell_other _ _ _ _ (by simp)))
  have GB := Lib.hid (HB.setCell (p := ⟨w.heap.size, a, none⟩) (Nat.le_refl _) (.int .u64 ((withN (m.getD a 0) (b : Int) : Nat) : Int)))
  have hlen : (m.set a (withN (m.getD a 0) (b : Int))).length = 32 := by rw [List.length_set]; exact HM.out.1
  generalize m.set a (withN (m.getD a 0) (b : Int)) = m2 at *
  generalize withN (m.getD a 0) (b : Int) = y at *
  generalize m.getD a 0 = x at *
  have HL := Lib.hid hlen
  clear hW H0 H1 HB h1 h2 hset hlen
  go_enter Tryd.func33, Tryd.ntmps33
  go_wp2_with fail
  change Calls Tryd.prog 54 _ ((w.alloc (.cells (numsV m) 41)).alloc (.cells (numsV zeros) 41)) _
  rw [HW.out]
  refine (c1.out _).mono ?_
  rintro e w1 ⟨rfl, rfl⟩
  go_wp2_with fail
  refine (c2.out _).mono ?_
  rintro e w1 ⟨rfl, rfl⟩
  go_wp2_with fail
  refine (c3.out).mono ?_
  rintro e w1 ⟨rfl, rfl⟩
  go_wp2_with (first | (refine wpList_load_row rfl 41 _ rfl w.heap.size rfl 41 _ (0, 0) _ G1.out Tryd.underlying41 rfl (size_rmat HL.out) ?_) | (refine wpList_store_row rfl 41 _ _ rfl (w.heap.size + 1) _ rfl rfl 41 _ G2.out (size_rmat HL.out) (by rw [size_numsV, size_numsV, HL.out]; rfl) (one_numsV _) ?_))
  refine bodyPost_ret (results_cell_tmp rfl _ _ (w.heap.size + 1) 41 _ (0, 0) _ rfl (block_setRow_same G2.out) Tryd.underlying41 rfl (size_rmat HL.out)) rfl ⟨rfl, ?_⟩
  exact below_setRow' GB.out (by omega) _

/-- ref03.Put. -/
theorem rput_any (m : List Nat) (a b : Int) (w : World) (hm : Mat m) :
    Calls Tryd.prog 33 #[matV m, .int .i64 a, .int .i64 b] w fun e w' => e = .returned (.tuple #[matV (putN m a b), .bool (putB a b)]) ∧ Below w.heap.size w w' := by
  cases hp : putB a b
  · have e : putN m a b = m := by unfold putN; rw [hp]; rfl
    rw [e]
    exact rput_no m a b w hm.1 hp
  · have hp' := hp
    unfold putB nodeB at hp'
    simp only [Bool.and_eq_true, decide_eq_true_eq, Bool.not_eq_true', decide_eq_false_iff_not] at hp'
    obtain ⟨⟨⟨a0, a1⟩, b0, b1⟩, hne⟩ := hp'
    obtain ⟨x, rfl⟩ := Int.eq_ofNat_of_zero_le a0
    obtain ⟨y, rfl⟩ := Int.eq_ofNat_of_zero_le b0
    have e : putN m (x : Int) (y : Int) = m.set x (withN (m.getD x 0) (y : Int)) := by unfold putN; rw [hp]; rfl
    rw [e]
    exact rput_yes m x y w hm (by omega) (by omega) (by omega)
end Go.Proofs.YtkgfepnkikcpiaaDoor
