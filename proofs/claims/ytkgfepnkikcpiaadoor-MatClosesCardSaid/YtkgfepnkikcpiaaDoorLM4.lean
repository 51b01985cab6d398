/- The walk of MatCloses: an edge closes a graph without a way round just if its end reaches its beginning. -/
import Derived.Test.YtkgfepnkikcpiaaDoorM9
import Derived.Test.YtkgfepnkikcpiaaDoorPM
namespace Go.Proofs.YtkgfepnkikcpiaaDoor
open Go.RowKit
open PSet PMat PWay

theorem code_in4 {c : Code} {Q : Exit → Act → World → Prop} {a : Act} {W : World} (φ : World → Prop) (hφ : φ W) (h : ∀ X, φ X → c.wp Tryd.prog Q a X) : c.wp Tryd.prog Q a W := h W hφ

set_option maxHeartbeats 2000000 in
set_option maxRecDepth 100000 in
theorem closes_walk (m : List Nat) (p q : Nat) (w : World) (hm : Mat m) (hp : p ≤ 255) (hq : q ≤ 255) (hT : Tab w) :
    Calls Tryd.prog 11 #[matV m, .int .u8 p, .int .u8 q] w fun e w' => e = .returned (.bool true) ∧ Below w.heap.size w w' := by
  unfold matV
  obtain ⟨x, hx⟩ : ∃ x, x = p % 32 := ⟨_, rfl⟩
  obtain ⟨y, hy⟩ : ∃ y, y = q % 32 := ⟨_, rfl⟩
  have hx1 : x < 32 := by omega
  have hy1 : y < 32 := by omega
  have hx0 : (p : Int) % 32 = (x : Int) := by omega
  have hy0 : (q : Int) % 32 = (y : Int) := by omega
  clear hx hy
  obtain ⟨n, hn⟩ : ∃ n, n = putN m (x : Int) (y : Int) := ⟨_, rfl⟩
  obtain ⟨b, hb⟩ : ∃ b, b = putB (x : Int) (y : Int) := ⟨_, rfl⟩
  have HM := Lib.hid hm
  have HT := Lib.hid hT
  have HN := Lib.hid (show Mat n by rw [hn]; exact putN_Mat hm _ _)
  have c1 := fun W => put_v m (x : Int) (y : Int) W hm
  rw [← hn, ← hb] at c1
  have C1 := Lib.hid c1
  have hcase : (freeB m = false ∧ freeB n = false) ∨ (freeB m = true ∧ x = y ∧ b = false ∧ n = m) ∨ (freeB m = true ∧ x ≠ y ∧ b = true ∧ freeB n = !hasB (reachN m (y : Int)) (x : Int)) := by
    rw [hn, hb]
    cases hf : freeB m
    · exact .inl ⟨rfl, PM.free_put hm.1 hx1 hy1 hf⟩
    · by_cases e : x = y
      · subst e; exact .inr (.inl ⟨rfl, rfl, (PM.put_same (m := m) x).2, (PM.put_same (m := m) x).1⟩)
      · exact .inr (.inr ⟨rfl, e, PM.put_is hx1 hy1 e, PM.closes hm.1 hx1 hy1 e hf⟩)
  have HX := Lib.hid hx0
  have HY := Lib.hid hy0
  have HR := Lib.hid (reachN_lt m (y : Int))
  clear c1 hn hb
  have hB0 : Below w.heap.size w (w.alloc (.cells (numsV m) 41)) := (Below.refl _ _).alloc (Nat.le_refl _) _
  have A := Lib.hid (alive3 _ (Tab.below hT hT.pos hB0))
  have HB0 := Lib.hid hB0
  clear hm hT hB0
  rcases hcase with ⟨h1, h2⟩ | ⟨h1, h2, h3, h4⟩ | ⟨h1, h2, h3, h4⟩
  · have H1 := Lib.hid h1
    have H2 := Lib.hid h2
    clear h1 h2
    go_enter Tryd.func11, Tryd.ntmps11
    go_wp2_with fail
    refine (A.out).mono ?_
    rintro e w1 ⟨rfl, hB⟩
    have N1 := Lib.hid ((nums_new41 m w).below hB (nums_new41 m w).lt)
    have HB := Lib.hid (HB0.out.trans (hB.mono HB0.out.size))
    clear hB A
    go_wp2_with (refine wpList_load_rv _ rfl w.heap.size m HM.out.1 rfl N1.out (by rfl) ?_)
    refine (theirs_v m w1 HM.out.1).mono ?_
    rintro e w2 ⟨rfl, hB2⟩
    have K1 := Lib.hid (((Held.nil HB.out).to hB2).store m)
    have M1 := Lib.hid (K1.out.1 (w2.heap.size, m) (by simp))
    clear hB2 N1
    go_wp2_with (first | (refine wpList_store_v rfl _ _ rfl w2.heap.size m HM.out.1 rfl rfl zeros rfl (by exact nums_zero w2) ?_) | (refine wpList_load_v _ rfl w2.heap.size m HM.out.1 rfl (by exact M1.out) (by rfl) ?_))
    refine calls_in (Held w [(w2.heap.size, m)]) (by exact K1.out) ?_
    rintro X1 hK1
    refine (C1.out X1).mono ?_
    rintro e y1 ⟨rfl, hY⟩
    have K2 := Lib.hid ((hK1.to hY).store n)
    have M2 := Lib.hid (K2.out.1 (w2.heap.size, m) (by simp))
    generalize w2.heap.size = g at *
    clear hK1 hY
    go_wp2_with (first | (refine wpList_store_v rfl _ _ rfl y1.heap.size n HN.out.1 rfl rfl zeros rfl (by exact nums_zero y1) ?_) | (refine wpList_load_v _ rfl g m HM.out.1 rfl (by exact M2.out) (by rfl) ?_))
    refine calls_in (Held w [(y1.heap.size, n), (g, m)]) (by exact K2.out) ?_
    rintro X2 hK2
    refine (free_v m X2 HM.out (hK2.tab HT.out)).mono ?_
    rintro e y2 ⟨rfl, hY⟩
    rw [H1.out]
    have K3 := Lib.hid (hK2.to hY)
    have M3 := Lib.hid (K3.out.1 (g, m) (by simp))
    have M4 := Lib.hid (K3.out.1 (y1.heap.size, n) (by simp))
    generalize y1.heap.size = h at *
    clear hK2 hY
    go_wp2_with (first | (refine wpList_load_v _ rfl g m HM.out.1 rfl M3.out (by rfl) ?_) | (refine wpList_load_v _ rfl h n HN.out.1 rfl M4.out (by rfl) ?_))
    refine (free_v n _ HN.out (K3.out.tab HT.out)).mono ?_
    rintro e y3 ⟨rfl, hY⟩
    rw [H2.out]
    have K4 := Lib.hid (K3.out.to hY)
    clear hY
    go_wp2_with fail
    go_ret
    exact ⟨rfl, K4.out.2⟩
  · subst h2 h3 h4
    have H1 := Lib.hid h1
    clear h1
    have heq : ∀ W, (Op.equalIn 10000 43 (.agg (valsV n).toArray) (.agg (valsV n).toArray)).run Tryd.prog W = .ok true W := fun W => by
      rw [eq_v n n HM.out.1 HM.out.1 W]; simp
    go_enter Tryd.func11, Tryd.ntmps11
    go_wp2_with fail
    refine (A.out).mono ?_
    rintro e w1 ⟨rfl, hB⟩
    have N1 := Lib.hid ((nums_new41 n w).below hB (nums_new41 n w).lt)
    have HB := Lib.hid (HB0.out.trans (hB.mono HB0.out.size))
    clear hB A
    go_wp2_with (refine wpList_load_rv _ rfl w.heap.size n HM.out.1 rfl N1.out (by rfl) ?_)
    refine (theirs_v n w1 HM.out.1).mono ?_
    rintro e w2 ⟨rfl, hB2⟩
    have K1 := Lib.hid (((Held.nil HB.out).to hB2).store n)
    have M1 := Lib.hid (K1.out.1 (w2.heap.size, n) (by simp))
    clear hB2 N1
    go_wp2_with (first | (refine wpList_store_v rfl _ _ rfl w2.heap.size n HM.out.1 rfl rfl zeros rfl (by exact nums_zero w2) ?_) | (refine wpList_load_v _ rfl w2.heap.size n HM.out.1 rfl (by exact M1.out) (by rfl) ?_))
    refine calls_in (Held w [(w2.heap.size, n)]) (by exact K1.out) ?_
    rintro X1 hK1
    refine (C1.out X1).mono ?_
    rintro e y1 ⟨rfl, hY⟩
    have K2 := Lib.hid ((hK1.to hY).store n)
    have M2 := Lib.hid (K2.out.1 (w2.heap.size, n) (by simp))
    generalize w2.heap.size = g at *
    clear hK1 hY
    go_wp2_with (first | (refine wpList_store_v rfl _ _ rfl y1.heap.size n HN.out.1 rfl rfl zeros rfl (by exact nums_zero y1) ?_) | (refine wpList_load_v _ rfl g n HM.out.1 rfl (by exact M2.out) (by rfl) ?_))
    refine calls_in (Held w [(y1.heap.size, n), (g, n)]) (by exact K2.out) ?_
    rintro X2 hK2
    refine (free_v n X2 HM.out (hK2.tab HT.out)).mono ?_
    rintro e y2 ⟨rfl, hY⟩
    rw [H1.out]
    have K3 := Lib.hid (hK2.to hY)
    have M3 := Lib.hid (K3.out.1 (g, n) (by simp))
    have M4 := Lib.hid (K3.out.1 (y1.heap.size, n) (by simp))
    generalize y1.heap.size = h at *
    clear hK2 hY
    go_wp2_with (first | (refine wpList_load_v _ rfl g n HM.out.1 rfl M3.out (by rfl) ?_) | (refine wpList_load_v _ rfl h n HN.out.1 rfl M4.out (by rfl) ?_))
    go_ret
    exact ⟨rfl, K3.out.2⟩
  · subst h3
    have H1 := Lib.hid h1
    have H4 := Lib.hid h4
    have hne : ((x : Int) == (y : Int)) = false := by simp; omega
    clear h1 h2 h4
    go_enter Tryd.func11, Tryd.ntmps11
    go_wp2_with fail
    refine (A.out).mono ?_
    rintro e w1 ⟨rfl, hB⟩
    have N1 := Lib.hid ((nums_new41 m w).below hB (nums_new41 m w).lt)
    have HB := Lib.hid (HB0.out.trans (hB.mono HB0.out.size))
    clear hB A
    go_wp2_with (refine wpList_load_rv _ rfl w.heap.size m HM.out.1 rfl N1.out (by rfl) ?_)
    refine (theirs_v m w1 HM.out.1).mono ?_
    rintro e w2 ⟨rfl, hB2⟩
    have K1 := Lib.hid (((Held.nil HB.out).to hB2).store m)
    have M1 := Lib.hid (K1.out.1 (w2.heap.size, m) (by simp))
    clear hB2 N1
    go_wp2_with (first | (refine wpList_store_v rfl _ _ rfl w2.heap.size m HM.out.1 rfl rfl zeros rfl (by exact nums_zero w2) ?_) | (refine wpList_load_v _ rfl w2.heap.size m HM.out.1 rfl (by exact M1.out) (by rfl) ?_))
    refine calls_in (Held w [(w2.heap.size, m)]) (by exact K1.out) ?_
    rintro X1 hK1
    refine (C1.out X1).mono ?_
    rintro e y1 ⟨rfl, hY⟩
    have K2 := Lib.hid ((hK1.to hY).store n)
    have M2 := Lib.hid (K2.out.1 (w2.heap.size, m) (by simp))
    generalize w2.heap.size = g at *
    clear hK1 hY
    go_wp2_with (first | (refine wpList_store_v rfl _ _ rfl y1.heap.size n HN.out.1 rfl rfl zeros rfl (by exact nums_zero y1) ?_) | (refine wpList_load_v _ rfl g m HM.out.1 rfl (by exact M2.out) (by rfl) ?_))
    refine calls_in (Held w [(y1.heap.size, n), (g, m)]) (by exact K2.out) ?_
    rintro X2 hK2
    refine (free_v m X2 HM.out (hK2.tab HT.out)).mono ?_
    rintro e y2 ⟨rfl, hY⟩
    rw [H1.out]
    have K3 := Lib.hid (hK2.to hY)
    have M3 := Lib.hid (K3.out.1 (g, m) (by simp))
    have M4 := Lib.hid (K3.out.1 (y1.heap.size, n) (by simp))
    generalize y1.heap.size = h at *
    clear hK2 hY
    go_wp2_with fail
    refine code_in4 (Held w [(h, n), (g, m)]) (by exact K3.out) ?_
    clear K3 M3 M4
    intro X3 hK3
    have TT := Lib.hid HT.out
    have hS0 : Held w [(h, n), (g, m)] X3.drew := ⟨hK3.1, hK3.2.drew⟩
    try dsimp only [List.append]
    refine wp_region_held_drew (S := Held w [(h, n), (g, m)]) (by kernel_rfl) hS0 (fun hHeld => ?_)
    clear hK3 hS0
    refine held_do 0 (v := ?_) rfl (by kernel_rfl) (by kernel_rfl) (by kernel_rfl) (fun _ _ _ h => h) (by rfl) (by assumption) ?_ ?_
    rotate_left
    · intro w _; go_simp; try with_reducible rfl
    simp only [Act.put, List.setIfInBounds_toArray, List.set_cons_zero, List.set_cons_succ]
    refine held_do 1 (v := ?_) rfl (by kernel_rfl) (by kernel_rfl) (by kernel_rfl) (fun _ _ _ h => h) (by rfl) (by assumption) ?_ ?_
    rotate_left
    · intro w _; go_simp; try with_reducible rfl
    simp only [Act.put, List.setIfInBounds_toArray, List.set_cons_zero, List.set_cons_succ]
    refine held_load 2 _ h n HN.out.1 rfl rfl (by kernel_rfl) (by kernel_rfl) (by kernel_rfl) (fun _ _ _ h => h) (by rfl) rfl (fun _ hW => hW.1 (h, n) (by simp)) (by assumption) ?_
    simp only [Act.put, List.setIfInBounds_toArray, List.set_cons_zero, List.set_cons_succ]
    refine held_load 4 _ g m HM.out.1 rfl rfl (by kernel_rfl) (by kernel_rfl) (by kernel_rfl) (fun _ _ _ h => h) (by rfl) rfl (fun _ hW => hW.1 (g, m) (by simp)) (by assumption) ?_
    simp only [Act.put, List.setIfInBounds_toArray, List.set_cons_zero, List.set_cons_succ]
    refine held_do 5 (v := ?_) rfl (by kernel_rfl) (by kernel_rfl) (by kernel_rfl) (fun _ _ _ h => h) (by rfl) (by assumption) ?_ ?_
    rotate_left
    · intro w _; go_simp; try with_reducible rfl
    simp only [Act.put, List.setIfInBounds_toArray, List.set_cons_zero, List.set_cons_succ]
    refine held_do 7 (v := ?_) rfl (by kernel_rfl) (by kernel_rfl) (by kernel_rfl) (fun _ _ _ h => h) (by rfl) (by assumption) ?_ ?_
    rotate_left
    · intro w _; go_simp; try with_reducible rfl
    simp only [Act.put, List.setIfInBounds_toArray, List.set_cons_zero, List.set_cons_succ]
    refine held_call 3 rfl (by kernel_rfl) (fun K hK => ?_)
    go_simp
    go_at_call 46
    refine (free_v n _ HN.out (Held.tab TT.out (by assumption))).mono ?_
    rintro e y ⟨rfl, hY⟩
    go_wp2_with fail
    refine hK.out _ _ ?_ (fun hHeld => ?_)
    · exact Held.to (by assumption) hY
    clear hK K hY
    try simp only [Act.put, List.setIfInBounds_toArray, List.set_cons_zero, List.set_cons_succ]
    refine held_call 6 rfl (by kernel_rfl) (fun K hK => ?_)
    go_simp
    go_at_call 43
    refine (reach_v m _ _ HM.out (Held.tab TT.out (by assumption))).mono ?_
    rintro e y ⟨rfl, hY⟩
    go_wp2_with fail
    refine hK.out _ _ ?_ (fun hHeld => ?_)
    · exact Held.to (by assumption) hY
    clear hK K hY
    try simp only [Act.put, List.setIfInBounds_toArray, List.set_cons_zero, List.set_cons_succ]
    refine held_call 8 rfl (by kernel_rfl) (fun K hK => ?_)
    go_simp
    go_at_call 16
    refine (has_any _ _ _ HR.out).mono ?_
    rintro e y ⟨rfl, rfl⟩
    go_wp2_with fail
    refine hK.out _ _ ?_ (fun hHeld => ?_)
    · assumption
    clear hK K
    try simp only [Act.put, List.setIfInBounds_toArray, List.set_cons_zero, List.set_cons_succ]
    refine held_do 9 (v := ?_) rfl (by kernel_rfl) (by kernel_rfl) (by kernel_rfl) (fun _ _ _ h => h) (by rfl) (by assumption) ?_ ?_
    rotate_left
    · intro w _; go_simp; try with_reducible rfl
    simp only [Act.put, List.setIfInBounds_toArray, List.set_cons_zero, List.set_cons_succ]
    refine held_do 10 (v := ?_) rfl (by kernel_rfl) (by kernel_rfl) (by kernel_rfl) (fun _ _ _ h => h) (by rfl) (by assumption) ?_ ?_
    rotate_left
    · intro w _; go_simp; try with_reducible rfl
    simp only [Act.put, List.setIfInBounds_toArray, List.set_cons_zero, List.set_cons_succ]
    refine held_do 11 (v := ?_) rfl (by kernel_rfl) (by kernel_rfl) (by kernel_rfl) (fun _ _ _ h => h) (by rfl) (by assumption) ?_ ?_
    rotate_left
    · intro w _; go_simp; try with_reducible rfl
    simp only [Act.put, List.setIfInBounds_toArray, List.set_cons_zero, List.set_cons_succ]
    refine held_do 12 (v := ?_) rfl (by kernel_rfl) (by kernel_rfl) (by kernel_rfl) (fun _ _ _ h => h) (by rfl) (by assumption) ?_ ?_
    rotate_left
    · intro w _; go_simp; try with_reducible rfl
    simp only [Act.put, List.setIfInBounds_toArray, List.set_cons_zero, List.set_cons_succ]
    refine held_done (by kernel_rfl) ?_
    have HF := Lib.hid (And.right hHeld)
    clear hHeld
    go_wp2_with fail
    go_ret
    exact ⟨by rw [H4.out]; simp [Array.getD], HF.out⟩
end Go.Proofs.YtkgfepnkikcpiaaDoor
