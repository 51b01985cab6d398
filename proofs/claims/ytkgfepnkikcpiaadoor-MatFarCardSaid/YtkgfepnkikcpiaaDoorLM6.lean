/- The walk of MatFar: of numbers that are no nodes there is nothing, and nothing changes. -/
import Derived.Test.YtkgfepnkikcpiaaDoorM9
import Derived.Test.YtkgfepnkikcpiaaDoorR3
namespace Go.Proofs.YtkgfepnkikcpiaaDoor
open Go.RowKit
open PSet PMat PWay

theorem code_in {c : Code} {Q : Exit → Act → World → Prop} {a : Act} {W : World} (φ : World → Prop) (hφ : φ W) (h : ∀ X, φ X → c.wp Tryd.prog Q a X) : c.wp Tryd.prog Q a W := h W hφ
theorem far_keep {w X Y : World} {g h k : Nat} {m : List Nat} (hb : Below X.heap.size X Y) (hS : X.rangeAt g 0 (valsV m) ∧ X.rangeAt h 0 (valsV m) ∧ X.rangeAt k 0 (valsV m) ∧ Held w [(k, m), (h, m), (g, m)] X) :
    Y.rangeAt g 0 (valsV m) ∧ Y.rangeAt h 0 (valsV m) ∧ Y.rangeAt k 0 (valsV m) ∧ Held w [(k, m), (h, m), (g, m)] Y := by
  have hK := hS.2.2.2.to hb
  exact ⟨range_of_nums (hK.1 (g, m) (by simp)), range_of_nums (hK.1 (h, m) (by simp)), range_of_nums (hK.1 (k, m) (by simp)), hK⟩

set_option maxHeartbeats 2000000 in
set_option maxRecDepth 100000 in
theorem far_walk (m : List Nat) (a : Int) (p : Nat) (w : World) (hm : Mat m) (hp : p ≤ 255) (hT : Tab w) :
    Calls Tryd.prog 13 #[matV m, .int .i64 a, .int .u8 p] w fun e w' => e = .returned (.bool true) ∧ Below w.heap.size w w' := by
  unfold matV
  have HM := Lib.hid hm
  have HT := Lib.hid hT
  have hB0 : Below w.heap.size w (w.alloc (.cells (numsV m) 41)) := (Below.refl _ _).alloc (Nat.le_refl _) _
  have A := Lib.hid (alive3 _ (Tab.below hT hT.pos hB0))
  have HB0 := Lib.hid hB0
  clear hm hT hB0
  go_enter Tryd.func13, Tryd.ntmps13
  go_wp2_with fail
  refine (A.out).mono ?_
  rintro e w1 ⟨rfl, hB⟩
  have N1 := Lib.hid ((nums_new41 m w).below hB (nums_new41 m w).lt)
  have HB := Lib.hid (HB0.out.trans (hB.mono HB0.out.size))
  clear hB A
  go_wp2_with (refine wpList_load_rv _ rfl w.heap.size m HM.out.1 rfl N1.out (by rfl) ?_)
  refine (theirs_v m w1 HM.out.1).mono ?_
  rintro e w2 ⟨rfl, hB2⟩
  have K1 := Lib.hid (((Held.nil HB.out).to hB2).store m)
  have M1 := Lib.hid (K1.out.1 (w2.heap.size, m) (by simp))
  clear hB2 N1
  by_cases hin : nodeB a = true
  · have hr : 0 ≤ a ∧ a < 32 := by unfold nodeB at hin; simpa using hin
    have g0 := hr.1
    have g1 := hr.2
    clear hin hr
    go_wp2_with (refine wpList_store_v rfl _ _ rfl w2.heap.size m HM.out.1 rfl rfl zeros rfl (by exact nums_zero w2) ?_)
    go_ret
    exact ⟨rfl, K1.out.2⟩
  · have hn : nodeB a = false := by simpa using hin
    have hr : a < 0 ∨ (0 ≤ a ∧ 32 ≤ a) := by
      unfold nodeB at hn
      simp only [decide_eq_false_iff_not] at hn
      omega
    have p1 : putN m a ((p : Int) % 32) = m ∧ putB a ((p : Int) % 32) = false := by unfold putN putB; rw [hn]; exact ⟨rfl, rfl⟩
    have p2 : putN m ((p : Int) % 32) a = m ∧ putB ((p : Int) % 32) a = false := by unfold putN putB; rw [hn, Bool.and_false]; exact ⟨rfl, rfl⟩
    have p3 : cutN m a = m := by unfold cutN; rw [hn]; rfl
    have p4 : outsN m a = 0 := by unfold outsN; rw [hn]; rfl
    have p5 : insN m a = 0 := by unfold insN; rw [hn]; rfl
    have p6 := reach_none p4
    have p7 := back_none p5
    have p8 : hasB (outsN m a) 1 = false := by rw [p4]; decide +kernel
    have p9 : hasB (outsN m 1) a = false := by
      unfold hasB
      have : ¬ (0 ≤ a ∧ a < 32) := by omega
      by_cases h : 0 ≤ a ∧ a ≤ 63
      · rw [decide_eq_true h, Bool.true_and, testBit_outsN, decide_eq_false (show ¬ a.toNat < 32 by omega), Bool.and_false, Bool.false_and]
      · rw [decide_eq_false h, Bool.false_and]
    have c1 := fun W => put_v m a ((p : Int) % 32) W HM.out
    rw [p1.1, p1.2] at c1
    have c2 := fun W => put_v m ((p : Int) % 32) a W HM.out
    rw [p2.1, p2.2] at c2
    have c3 := fun W => cut_v m a W HM.out
    rw [p3] at c3
    have c4 := fun W => outs_v m a W HM.out
    rw [p4] at c4
    have c5 := fun W => ins_v m a W HM.out
    rw [p5] at c5
    have c6 := fun W hT => reach_v m a W HM.out hT
    rw [p6] at c6
    have c7 := fun W hT => back_v m a W HM.out hT
    rw [p7] at c7
    have c8 := fun W => mhas_v m a 1 W HM.out
    rw [p8] at c8
    have c9 := fun W => mhas_v m 1 a W HM.out
    rw [p9] at c9
    have C10 : Hid (∀ W, Tab W → Calls Tryd.prog 23 #[.int .u64 0] W fun e w' => ∃ v cap, e = .returned (.slice v 0 cap) ∧ Below W.heap.size W w') := Lib.hid fun W hT => by
      refine (items_int 0 W (by decide) hT).mono ?_
      rintro e y ⟨v, cap, rfl, _, hY⟩
      exact ⟨v, cap, by rw [show itemsI 0 = [] by decide +kernel]; rfl, hY⟩
    have C11 : Hid (∀ v cap W, Calls Tryd.prog 22 #[.slice none 0 0, .slice v 0 cap] W fun e w' => e = .returned (.bool true) ∧ Below W.heap.size W w') := Lib.hid fun v cap W => same_any none v 0 cap [] W (by decide) (.nil _ _) (.nil _ _)
    have C1 := Lib.hid c1
    have C2 := Lib.hid c2
    have C3 := Lib.hid c3
    have C4 := Lib.hid c4
    have C5 := Lib.hid c5
    have C6 := Lib.hid c6
    have C7 := Lib.hid c7
    have C8 := Lib.hid c8
    have C9 := Lib.hid c9
    have heq : ∀ W, (Op.equalIn 10000 43 (.agg (valsV m).toArray) (.agg (valsV m).toArray)).run Tryd.prog W = .ok true W := fun W => by
      rw [eq_v m m HM.out.1 HM.out.1 W]; simp
    clear p1 p2 p3 p4 p5 p6 p7 p8 p9 c1 c2 c3 c4 c5 c6 c7 c8 c9 hn hin
    rcases hr with hr | ⟨hr, hr2⟩
    all_goals
      go_wp2_with (first | (refine wpList_store_v rfl _ _ rfl w2.heap.size m HM.out.1 rfl rfl zeros rfl (by exact nums_zero w2) ?_) | (refine wpList_load_v _ rfl w2.heap.size m HM.out.1 rfl (by exact M1.out) (by rfl) ?_))
      refine calls_in (Held w [(w2.heap.size, m)]) (by exact K1.out) ?_
      rintro X1 hK1
      refine (C1.out X1).mono ?_
      rintro e y1 ⟨rfl, hY⟩
      have K2 := Lib.hid ((hK1.to hY).store m)
      have M2 := Lib.hid (K2.out.1 (w2.heap.size, m) (by simp))
      generalize w2.heap.size = g at *
      clear hK1 hY
      go_wp2_with (first | (refine wpList_store_v rfl _ _ rfl y1.heap.size m HM.out.1 rfl rfl zeros rfl (by exact nums_zero y1) ?_) | (refine wpList_load_v _ rfl g m HM.out.1 rfl (by exact M2.out) (by rfl) ?_))
      refine calls_in (Held w [(y1.heap.size, m), (g, m)]) (by exact K2.out) ?_
      rintro X2 hK2
      refine (C2.out X2).mono ?_
      rintro e y2 ⟨rfl, hY⟩
      have K3 := Lib.hid ((hK2.to hY).store m)
      generalize y1.heap.size = h at *
      clear hK2 hY
      go_wp2_with (refine wpList_store_v rfl _ _ rfl y2.heap.size m HM.out.1 rfl rfl zeros rfl (by exact nums_zero y2) ?_)
      refine code_in (Held w [(y2.heap.size, m), (h, m), (g, m)]) (by exact K3.out) ?_
      rintro X3 hK3
      generalize y2.heap.size = k at *
      refine code_in (Held w [(k, m), (h, m), (g, m)]) (by exact hK3) ?_
      clear hK3 K3
      intro X3 hK3
      have TT := Lib.hid HT.out
      have hS0 : Held w [(k, m), (h, m), (g, m)] X3.drew := ⟨hK3.1, hK3.2.drew⟩
      dsimp only [List.append]
      refine wp_region_held_drew (S := Held w [(k, m), (h, m), (g, m)]) (by kernel_rfl) hS0 (fun hHeld => ?_)
      clear hK3 hS0
      refine held_load 0 _ h m HM.out.1 rfl rfl (by kernel_rfl) (by kernel_rfl) (by kernel_rfl) (fun _ _ _ h => h) (by rfl) rfl (fun _ hW => hW.1 (h, m) (by simp)) (by assumption) ?_
      simp only [Act.put, List.setIfInBounds_toArray, List.set_cons_zero, List.set_cons_succ]
      refine held_load 1 _ g m HM.out.1 rfl rfl (by kernel_rfl) (by kernel_rfl) (by kernel_rfl) (fun _ _ _ h => h) (by rfl) rfl (fun _ hW => hW.1 (g, m) (by simp)) (by assumption) ?_
      simp only [Act.put, List.setIfInBounds_toArray, List.set_cons_zero, List.set_cons_succ]
      refine held_do 2 rfl (by kernel_rfl) (by kernel_rfl) (by kernel_rfl) (fun _ _ _ h => h) (by rfl) (by assumption) (fun w _ => exec_eq _ _ _ _ rfl m m HM.out.1 HM.out.1 rfl rfl w) ?_
      simp only [Act.put, List.setIfInBounds_toArray, List.set_cons_zero, List.set_cons_succ]
      refine held_do 3 (v := ?_) rfl (by kernel_rfl) (by kernel_rfl) (by kernel_rfl) (fun _ _ _ h => h) (by rfl) (by assumption) ?_ ?_
      rotate_left
      · intro w _; go_simp; try with_reducible rfl
      simp only [Act.put, List.setIfInBounds_toArray, List.set_cons_zero, List.set_cons_succ]
      refine held_do 4 (v := ?_) rfl (by kernel_rfl) (by kernel_rfl) (by kernel_rfl) (fun _ _ _ h => h) (by rfl) (by assumption) ?_ ?_
      rotate_left
      · intro w _; go_simp; try with_reducible rfl
      simp only [Act.put, List.setIfInBounds_toArray, List.set_cons_zero, List.set_cons_succ]
      refine held_do 5 (v := ?_) rfl (by kernel_rfl) (by kernel_rfl) (by kernel_rfl) (fun _ _ _ h => h) (by rfl) (by assumption) ?_ ?_
      rotate_left
      · intro w _; go_simp; try with_reducible rfl
      simp only [Act.put, List.setIfInBounds_toArray, List.set_cons_zero, List.set_cons_succ]
      refine held_do 6 (v := ?_) rfl (by kernel_rfl) (by kernel_rfl) (by kernel_rfl) (fun _ _ _ h => h) (by rfl) (by assumption) ?_ ?_
      rotate_left
      · intro w _; go_simp; try with_reducible rfl
      simp only [Act.put, List.setIfInBounds_toArray, List.set_cons_zero, List.set_cons_succ]
      refine held_do 7 (v := ?_) rfl (by kernel_rfl) (by kernel_rfl) (by kernel_rfl) (fun _ _ _ h => h) (by rfl) (by assumption) ?_ ?_
      rotate_left
      · intro w _; go_simp; try with_reducible rfl
      simp only [Act.put, List.setIfInBounds_toArray, List.set_cons_zero, List.set_cons_succ]
      refine held_load 8 _ k m HM.out.1 rfl rfl (by kernel_rfl) (by kernel_rfl) (by kernel_rfl) (fun _ _ _ h => h) (by rfl) rfl (fun _ hW => hW.1 (k, m) (by simp)) (by assumption) ?_
      simp only [Act.put, List.setIfInBounds_toArray, List.set_cons_zero, List.set_cons_succ]
      refine held_load 9 _ g m HM.out.1 rfl rfl (by kernel_rfl) (by kernel_rfl) (by kernel_rfl) (fun _ _ _ h => h) (by rfl) rfl (fun _ hW => hW.1 (g, m) (by simp)) (by assumption) ?_
      simp only [Act.put, List.setIfInBounds_toArray, List.set_cons_zero, List.set_cons_succ]
      refine held_do 10 rfl (by kernel_rfl) (by kernel_rfl) (by kernel_rfl) (fun _ _ _ h => h) (by rfl) (by assumption) (fun w _ => exec_eq _ _ _ _ rfl m m HM.out.1 HM.out.1 rfl rfl w) ?_
      simp only [Act.put, List.setIfInBounds_toArray, List.set_cons_zero, List.set_cons_succ]
      refine held_do 11 (v := ?_) rfl (by kernel_rfl) (by kernel_rfl) (by kernel_rfl) (fun _ _ _ h => h) (by rfl) (by assumption) ?_ ?_
      rotate_left
      · intro w _; go_simp; try with_reducible rfl
      simp only [Act.put, List.setIfInBounds_toArray, List.set_cons_zero, List.set_cons_succ]
      refine held_do 12 (v := ?_) rfl (by kernel_rfl) (by kernel_rfl) (by kernel_rfl) (fun _ _ _ h => h) (by rfl) (by assumption) ?_ ?_
      rotate_left
      · intro w _; go_simp; try with_reducible rfl
      simp only [Act.put, List.setIfInBounds_toArray, List.set_cons_zero, List.set_cons_succ]
      refine held_do 13 (v := ?_) rfl (by kernel_rfl) (by kernel_rfl) (by kernel_rfl) (fun _ _ _ h => h) (by rfl) (by assumption) ?_ ?_
      rotate_left
      · intro w _; go_simp; try with_reducible rfl
      simp only [Act.put, List.setIfInBounds_toArray, List.set_cons_zero, List.set_cons_succ]
      refine held_do 14 (v := ?_) rfl (by kernel_rfl) (by kernel_rfl) (by kernel_rfl) (fun _ _ _ h => h) (by rfl) (by assumption) ?_ ?_
      rotate_left
      · intro w _; go_simp; try with_reducible rfl
      simp only [Act.put, List.setIfInBounds_toArray, List.set_cons_zero, List.set_cons_succ]
      refine held_do 15 (v := ?_) rfl (by kernel_rfl) (by kernel_rfl) (by kernel_rfl) (fun _ _ _ h => h) (by rfl) (by assumption) ?_ ?_
      rotate_left
      · intro w _; go_simp; try with_reducible rfl
      simp only [Act.put, List.setIfInBounds_toArray, List.set_cons_zero, List.set_cons_succ]
      refine held_do 16 (v := ?_) rfl (by kernel_rfl) (by kernel_rfl) (by kernel_rfl) (fun _ _ _ h => h) (by rfl) (by assumption) ?_ ?_
      rotate_left
      · intro w _; go_simp; try with_reducible rfl
      simp only [Act.put, List.setIfInBounds_toArray, List.set_cons_zero, List.set_cons_succ]
      refine held_load 17 _ g m HM.out.1 rfl rfl (by kernel_rfl) (by kernel_rfl) (by kernel_rfl) (fun _ _ _ h => h) (by rfl) rfl (fun _ hW => hW.1 (g, m) (by simp)) (by assumption) ?_
      simp only [Act.put, List.setIfInBounds_toArray, List.set_cons_zero, List.set_cons_succ]
      refine held_do 18 (v := ?_) rfl (by kernel_rfl) (by kernel_rfl) (by kernel_rfl) (fun _ _ _ h => h) (by rfl) (by assumption) ?_ ?_
      rotate_left
      · intro w _; go_simp; try with_reducible rfl
      simp only [Act.put, List.setIfInBounds_toArray, List.set_cons_zero, List.set_cons_succ]
      refine held_load 20 _ g m HM.out.1 rfl rfl (by kernel_rfl) (by kernel_rfl) (by kernel_rfl) (fun _ _ _ h => h) (by rfl) rfl (fun _ hW => hW.1 (g, m) (by simp)) (by assumption) ?_
      simp only [Act.put, List.setIfInBounds_toArray, List.set_cons_zero, List.set_cons_succ]
      refine held_call 19 rfl (by kernel_rfl) (fun K hK => ?_)
      go_simp
      go_at_call 35
      refine (C3.out _).mono ?_
      rintro e y ⟨rfl, hY⟩
      go_wp2_with fail
      refine hK.out _ _ ?_ (fun hHeld => ?_)
      · exact Held.to (by assumption) hY
      clear hK K hY
      try simp only [Act.put, List.setIfInBounds_toArray, List.set_cons_zero, List.set_cons_succ]
      refine held_do 21 rfl (by kernel_rfl) (by kernel_rfl) (by kernel_rfl) (fun _ _ _ h => h) (by rfl) (by assumption) (fun w _ => exec_eq _ _ _ _ rfl m m HM.out.1 HM.out.1 rfl rfl w) ?_
      simp only [Act.put, List.setIfInBounds_toArray, List.set_cons_zero, List.set_cons_succ]
      refine held_do 22 (v := ?_) rfl (by kernel_rfl) (by kernel_rfl) (by kernel_rfl) (fun _ _ _ h => h) (by rfl) (by assumption) ?_ ?_
      rotate_left
      · intro w _; go_simp; try with_reducible rfl
      simp only [Act.put, List.setIfInBounds_toArray, List.set_cons_zero, List.set_cons_succ]
      refine held_do 23 (v := ?_) rfl (by kernel_rfl) (by kernel_rfl) (by kernel_rfl) (fun _ _ _ h => h) (by rfl) (by assumption) ?_ ?_
      rotate_left
      · intro w _; go_simp; try with_reducible rfl
      simp only [Act.put, List.setIfInBounds_toArray, List.set_cons_zero, List.set_cons_succ]
      refine held_load 24 _ g m HM.out.1 rfl rfl (by kernel_rfl) (by kernel_rfl) (by kernel_rfl) (fun _ _ _ h => h) (by rfl) rfl (fun _ hW => hW.1 (g, m) (by simp)) (by assumption) ?_
      simp only [Act.put, List.setIfInBounds_toArray, List.set_cons_zero, List.set_cons_succ]
      refine held_do 25 (v := ?_) rfl (by kernel_rfl) (by kernel_rfl) (by kernel_rfl) (fun _ _ _ h => h) (by rfl) (by assumption) ?_ ?_
      rotate_left
      · intro w _; go_simp; try with_reducible rfl
      simp only [Act.put, List.setIfInBounds_toArray, List.set_cons_zero, List.set_cons_succ]
      refine held_call 26 rfl (by kernel_rfl) (fun K hK => ?_)
      go_simp
      go_at_call 39
      refine (C4.out _).mono ?_
      rintro e y ⟨rfl, hY⟩
      go_wp2_with fail
      refine hK.out _ _ ?_ (fun hHeld => ?_)
      · exact Held.to (by assumption) hY
      clear hK K hY
      try simp only [Act.put, List.setIfInBounds_toArray, List.set_cons_zero, List.set_cons_succ]
      refine held_do 27 (v := ?_) rfl (by kernel_rfl) (by kernel_rfl) (by kernel_rfl) (fun _ _ _ h => h) (by rfl) (by assumption) ?_ ?_
      rotate_left
      · intro w _; go_simp; try with_reducible rfl
      simp only [Act.put, List.setIfInBounds_toArray, List.set_cons_zero, List.set_cons_succ]
      refine held_do 28 (v := ?_) rfl (by kernel_rfl) (by kernel_rfl) (by kernel_rfl) (fun _ _ _ h => h) (by rfl) (by assumption) ?_ ?_
      rotate_left
      · intro w _; go_simp; try with_reducible rfl
      simp only [Act.put, List.setIfInBounds_toArray, List.set_cons_zero, List.set_cons_succ]
      refine held_do 29 (v := ?_) rfl (by kernel_rfl) (by kernel_rfl) (by kernel_rfl) (fun _ _ _ h => h) (by rfl) (by assumption) ?_ ?_
      rotate_left
      · intro w _; go_simp; try with_reducible rfl
      simp only [Act.put, List.setIfInBounds_toArray, List.set_cons_zero, List.set_cons_succ]
      refine held_load 30 _ g m HM.out.1 rfl rfl (by kernel_rfl) (by kernel_rfl) (by kernel_rfl) (fun _ _ _ h => h) (by rfl) rfl (fun _ hW => hW.1 (g, m) (by simp)) (by assumption) ?_
      simp only [Act.put, List.setIfInBounds_toArray, List.set_cons_zero, List.set_cons_succ]
      refine held_do 31 (v := ?_) rfl (by kernel_rfl) (by kernel_rfl) (by kernel_rfl) (fun _ _ _ h => h) (by rfl) (by assumption) ?_ ?_
      rotate_left
      · intro w _; go_simp; try with_reducible rfl
      simp only [Act.put, List.setIfInBounds_toArray, List.set_cons_zero, List.set_cons_succ]
      refine held_call 32 rfl (by kernel_rfl) (fun K hK => ?_)
      go_simp
      go_at_call 41
      refine (C5.out _).mono ?_
      rintro e y ⟨rfl, hY⟩
      go_wp2_with fail
      refine hK.out _ _ ?_ (fun hHeld => ?_)
      · exact Held.to (by assumption) hY
      clear hK K hY
      try simp only [Act.put, List.setIfInBounds_toArray, List.set_cons_zero, List.set_cons_succ]
      refine held_do 33 (v := ?_) rfl (by kernel_rfl) (by kernel_rfl) (by kernel_rfl) (fun _ _ _ h => h) (by rfl) (by assumption) ?_ ?_
      rotate_left
      · intro w _; go_simp; try with_reducible rfl
      simp only [Act.put, List.setIfInBounds_toArray, List.set_cons_zero, List.set_cons_succ]
      refine held_do 34 (v := ?_) rfl (by kernel_rfl) (by kernel_rfl) (by kernel_rfl) (fun _ _ _ h => h) (by rfl) (by assumption) ?_ ?_
      rotate_left
      · intro w _; go_simp; try with_reducible rfl
      simp only [Act.put, List.setIfInBounds_toArray, List.set_cons_zero, List.set_cons_succ]
      refine held_do 35 (v := ?_) rfl (by kernel_rfl) (by kernel_rfl) (by kernel_rfl) (fun _ _ _ h => h) (by rfl) (by assumption) ?_ ?_
      rotate_left
      · intro w _; go_simp; try with_reducible rfl
      simp only [Act.put, List.setIfInBounds_toArray, List.set_cons_zero, List.set_cons_succ]
      refine held_load 36 _ g m HM.out.1 rfl rfl (by kernel_rfl) (by kernel_rfl) (by kernel_rfl) (fun _ _ _ h => h) (by rfl) rfl (fun _ hW => hW.1 (g, m) (by simp)) (by assumption) ?_
      simp only [Act.put, List.setIfInBounds_toArray, List.set_cons_zero, List.set_cons_succ]
      refine held_do 37 (v := ?_) rfl (by kernel_rfl) (by kernel_rfl) (by kernel_rfl) (fun _ _ _ h => h) (by rfl) (by assumption) ?_ ?_
      rotate_left
      · intro w _; go_simp; try with_reducible rfl
      simp only [Act.put, List.setIfInBounds_toArray, List.set_cons_zero, List.set_cons_succ]
      refine held_call 38 rfl (by kernel_rfl) (fun K hK => ?_)
      go_simp
      go_at_call 43
      refine (C6.out _ (Held.tab TT.out (by assumption))).mono ?_
      rintro e y ⟨rfl, hY⟩
      go_wp2_with fail
      refine hK.out _ _ ?_ (fun hHeld => ?_)
      · exact Held.to (by assumption) hY
      clear hK K hY
      try simp only [Act.put, List.setIfInBounds_toArray, List.set_cons_zero, List.set_cons_succ]
      refine held_do 39 (v := ?_) rfl (by kernel_rfl) (by kernel_rfl) (by kernel_rfl) (fun _ _ _ h => h) (by rfl) (by assumption) ?_ ?_
      rotate_left
      · intro w _; go_simp; try with_reducible rfl
      simp only [Act.put, List.setIfInBounds_toArray, List.set_cons_zero, List.set_cons_succ]
      refine held_do 40 (v := ?_) rfl (by kernel_rfl) (by kernel_rfl) (by kernel_rfl) (fun _ _ _ h => h) (by rfl) (by assumption) ?_ ?_
      rotate_left
      · intro w _; go_simp; try with_reducible rfl
      simp only [Act.put, List.setIfInBounds_toArray, List.set_cons_zero, List.set_cons_succ]
      refine held_do 41 (v := ?_) rfl (by kernel_rfl) (by kernel_rfl) (by kernel_rfl) (fun _ _ _ h => h) (by rfl) (by assumption) ?_ ?_
      rotate_left
      · intro w _; go_simp; try with_reducible rfl
      simp only [Act.put, List.setIfInBounds_toArray, List.set_cons_zero, List.set_cons_succ]
      refine held_load 42 _ g m HM.out.1 rfl rfl (by kernel_rfl) (by kernel_rfl) (by kernel_rfl) (fun _ _ _ h => h) (by rfl) rfl (fun _ hW => hW.1 (g, m) (by simp)) (by assumption) ?_
      simp only [Act.put, List.setIfInBounds_toArray, List.set_cons_zero, List.set_cons_succ]
      refine held_do 43 (v := ?_) rfl (by kernel_rfl) (by kernel_rfl) (by kernel_rfl) (fun _ _ _ h => h) (by rfl) (by assumption) ?_ ?_
      rotate_left
      · intro w _; go_simp; try with_reducible rfl
      simp only [Act.put, List.setIfInBounds_toArray, List.set_cons_zero, List.set_cons_succ]
      refine held_call 44 rfl (by kernel_rfl) (fun K hK => ?_)
      go_simp
      go_at_call 45
      refine (C7.out _ (Held.tab TT.out (by assumption))).mono ?_
      rintro e y ⟨rfl, hY⟩
      go_wp2_with fail
      refine hK.out _ _ ?_ (fun hHeld => ?_)
      · exact Held.to (by assumption) hY
      clear hK K hY
      try simp only [Act.put, List.setIfInBounds_toArray, List.set_cons_zero, List.set_cons_succ]
      refine held_do 45 (v := ?_) rfl (by kernel_rfl) (by kernel_rfl) (by kernel_rfl) (fun _ _ _ h => h) (by rfl) (by assumption) ?_ ?_
      rotate_left
      · intro w _; go_simp; try with_reducible rfl
      simp only [Act.put, List.setIfInBounds_toArray, List.set_cons_zero, List.set_cons_succ]
      refine held_do 46 (v := ?_) rfl (by kernel_rfl) (by kernel_rfl) (by kernel_rfl) (fun _ _ _ h => h) (by rfl) (by assumption) ?_ ?_
      rotate_left
      · intro w _; go_simp; try with_reducible rfl
      simp only [Act.put, List.setIfInBounds_toArray, List.set_cons_zero, List.set_cons_succ]
      refine held_do 47 (v := ?_) rfl (by kernel_rfl) (by kernel_rfl) (by kernel_rfl) (fun _ _ _ h => h) (by rfl) (by assumption) ?_ ?_
      rotate_left
      · intro w _; go_simp; try with_reducible rfl
      simp only [Act.put, List.setIfInBounds_toArray, List.set_cons_zero, List.set_cons_succ]
      refine held_load 48 _ g m HM.out.1 rfl rfl (by kernel_rfl) (by kernel_rfl) (by kernel_rfl) (fun _ _ _ h => h) (by rfl) rfl (fun _ hW => hW.1 (g, m) (by simp)) (by assumption) ?_
      simp only [Act.put, List.setIfInBounds_toArray, List.set_cons_zero, List.set_cons_succ]
      refine held_do 49 (v := ?_) rfl (by kernel_rfl) (by kernel_rfl) (by kernel_rfl) (fun _ _ _ h => h) (by rfl) (by assumption) ?_ ?_
      rotate_left
      · intro w _; go_simp; try with_reducible rfl
      simp only [Act.put, List.setIfInBounds_toArray, List.set_cons_zero, List.set_cons_succ]
      refine held_call 50 rfl (by kernel_rfl) (fun K hK => ?_)
      go_simp
      go_at_call 37
      refine (C8.out _).mono ?_
      rintro e y ⟨rfl, hY⟩
      go_wp2_with fail
      refine hK.out _ _ ?_ (fun hHeld => ?_)
      · exact Held.to (by assumption) hY
      clear hK K hY
      try simp only [Act.put, List.setIfInBounds_toArray, List.set_cons_zero, List.set_cons_succ]
      refine held_do 51 (v := ?_) rfl (by kernel_rfl) (by kernel_rfl) (by kernel_rfl) (fun _ _ _ h => h) (by rfl) (by assumption) ?_ ?_
      rotate_left
      · intro w _; go_simp; try with_reducible rfl
      simp only [Act.put, List.setIfInBounds_toArray, List.set_cons_zero, List.set_cons_succ]
      refine held_do 52 (v := ?_) rfl (by kernel_rfl) (by kernel_rfl) (by kernel_rfl) (fun _ _ _ h => h) (by rfl) (by assumption) ?_ ?_
      rotate_left
      · intro w _; go_simp; try with_reducible rfl
      simp only [Act.put, List.setIfInBounds_toArray, List.set_cons_zero, List.set_cons_succ]
      refine held_do 53 (v := ?_) rfl (by kernel_rfl) (by kernel_rfl) (by kernel_rfl) (fun _ _ _ h => h) (by rfl) (by assumption) ?_ ?_
      rotate_left
      · intro w _; go_simp; try with_reducible rfl
      simp only [Act.put, List.setIfInBounds_toArray, List.set_cons_zero, List.set_cons_succ]
      refine held_load 54 _ g m HM.out.1 rfl rfl (by kernel_rfl) (by kernel_rfl) (by kernel_rfl) (fun _ _ _ h => h) (by rfl) rfl (fun _ hW => hW.1 (g, m) (by simp)) (by assumption) ?_
      simp only [Act.put, List.setIfInBounds_toArray, List.set_cons_zero, List.set_cons_succ]
      refine held_do 55 (v := ?_) rfl (by kernel_rfl) (by kernel_rfl) (by kernel_rfl) (fun _ _ _ h => h) (by rfl) (by assumption) ?_ ?_
      rotate_left
      · intro w _; go_simp; try with_reducible rfl
      simp only [Act.put, List.setIfInBounds_toArray, List.set_cons_zero, List.set_cons_succ]
      refine held_call 56 rfl (by kernel_rfl) (fun K hK => ?_)
      go_simp
      go_at_call 37
      refine (C9.out _).mono ?_
      rintro e y ⟨rfl, hY⟩
      go_wp2_with fail
      refine hK.out _ _ ?_ (fun hHeld => ?_)
      · exact Held.to (by assumption) hY
      clear hK K hY
      try simp only [Act.put, List.setIfInBounds_toArray, List.set_cons_zero, List.set_cons_succ]
      refine held_do 57 (v := ?_) rfl (by kernel_rfl) (by kernel_rfl) (by kernel_rfl) (fun _ _ _ h => h) (by rfl) (by assumption) ?_ ?_
      rotate_left
      · intro w _; go_simp; try with_reducible rfl
      simp only [Act.put, List.setIfInBounds_toArray, List.set_cons_zero, List.set_cons_succ]
      refine held_do 58 (v := ?_) rfl (by kernel_rfl) (by kernel_rfl) (by kernel_rfl) (fun _ _ _ h => h) (by rfl) (by assumption) ?_ ?_
      rotate_left
      · intro w _; go_simp; try with_reducible rfl
      simp only [Act.put, List.setIfInBounds_toArray, List.set_cons_zero, List.set_cons_succ]
      refine held_do 59 (v := ?_) rfl (by kernel_rfl) (by kernel_rfl) (by kernel_rfl) (fun _ _ _ h => h) (by rfl) (by assumption) ?_ ?_
      rotate_left
      · intro w _; go_simp; try with_reducible rfl
      simp only [Act.put, List.setIfInBounds_toArray, List.set_cons_zero, List.set_cons_succ]
      refine held_load 60 _ g m HM.out.1 rfl rfl (by kernel_rfl) (by kernel_rfl) (by kernel_rfl) (fun _ _ _ h => h) (by rfl) rfl (fun _ hW => hW.1 (g, m) (by simp)) (by assumption) ?_
      simp only [Act.put, List.setIfInBounds_toArray, List.set_cons_zero, List.set_cons_succ]
      refine held_do 61 (v := ?_) rfl (by kernel_rfl) (by kernel_rfl) (by kernel_rfl) (fun _ _ _ h => h) (by rfl) (by assumption) ?_ ?_
      rotate_left
      · intro w _; go_simp; try with_reducible rfl
      simp only [Act.put, List.setIfInBounds_toArray, List.set_cons_zero, List.set_cons_succ]
      refine held_call 62 rfl (by kernel_rfl) (fun K hK => ?_)
      go_simp
      go_at_call 43
      refine (C6.out _ (Held.tab TT.out (by assumption))).mono ?_
      rintro e y ⟨rfl, hY⟩
      go_wp2_with fail
      refine hK.out _ _ ?_ (fun hHeld => ?_)
      · exact Held.to (by assumption) hY
      clear hK K hY
      try simp only [Act.put, List.setIfInBounds_toArray, List.set_cons_zero, List.set_cons_succ]
      refine held_call 63 rfl (by kernel_rfl) (fun K hK => ?_)
      go_simp
      go_at_call 23
      refine (C10.out _ (Held.tab TT.out (by assumption))).mono ?_
      rintro e y ⟨iv, ic, rfl, hY⟩
      go_wp2_with fail
      refine hK.out _ _ ?_ (fun hHeld => ?_)
      · exact Held.to (by assumption) hY
      clear hK K hY
      try simp only [Act.put, List.setIfInBounds_toArray, List.set_cons_zero, List.set_cons_succ]
      refine held_call 64 rfl (by kernel_rfl) (fun K hK => ?_)
      go_simp
      go_at_call 22
      refine (C11.out _ _ _).mono ?_
      rintro e y ⟨rfl, hY⟩
      go_wp2_with fail
      refine hK.out _ _ ?_ (fun hHeld => ?_)
      · exact Held.to (by assumption) hY
      clear hK K hY
      try simp only [Act.put, List.setIfInBounds_toArray, List.set_cons_zero, List.set_cons_succ]
      refine held_do 65 (v := ?_) rfl (by kernel_rfl) (by kernel_rfl) (by kernel_rfl) (fun _ _ _ h => h) (by rfl) (by assumption) ?_ ?_
      rotate_left
      · intro w _; go_simp; try with_reducible rfl
      simp only [Act.put, List.setIfInBounds_toArray, List.set_cons_zero, List.set_cons_succ]
      refine held_do 66 (v := ?_) rfl (by kernel_rfl) (by kernel_rfl) (by kernel_rfl) (fun _ _ _ h => h) (by rfl) (by assumption) ?_ ?_
      rotate_left
      · intro w _; go_simp; try with_reducible rfl
      simp only [Act.put, List.setIfInBounds_toArray, List.set_cons_zero, List.set_cons_succ]
      refine held_done (by kernel_rfl) ?_
      have HF := Lib.hid (And.right hHeld)
      clear hHeld
      go_wp2_with fail
      go_ret
      exact ⟨rfl, HF.out⟩
end Go.Proofs.YtkgfepnkikcpiaaDoor
