/- The walk of MatWays: what any node reaches, from what it is reached, and whether there is no way round, is the document's. -/
import Derived.Test.YtkgfepnkikcpiaaDoorN6
namespace Go.Proofs.YtkgfepnkikcpiaaDoor
open Go.RowKit
open PSet PMat PWay

set_option maxHeartbeats 4000000 in
set_option maxRecDepth 100000 in
theorem ways_walk (m : List Nat) (a : Int) (w : World) (hm : Mat m) (hT : Tab w) :
    Calls Tryd.prog 9 #[matV m, .int .i64 a] w fun e w' => e = .returned (.bool true) ∧ Below w.heap.size w w' := by
  unfold matV
  obtain ⟨t, ht⟩ : ∃ t, t = turnN m := ⟨_, rfl⟩
  have HM := Lib.hid hm
  have HT := Lib.hid hT
  have HU := Lib.hid (show Mat t by rw [ht]; exact turnN_Mat m)
  have c1 := fun W hT => reach_v m a W hm hT
  have c2 := fun W => rreach_v m a W hm
  have c3 := fun W hT => back_v m a W hm hT
  have c4 := fun W => turn_v m W hm
  have c5 := fun W => rreach_v t a W HU.out
  have c6 := fun W hT => free_v m W hm hT
  have c7 := fun W => rfree_v m W hm
  rw [ht, reach_turn, ← ht] at c5
  rw [← ht] at c4
  generalize reachN m a = ra at *
  generalize backN m a = ba at *
  generalize freeB m = fb at *
  have C1 := Lib.hid c1
  have C2 := Lib.hid c2
  have C3 := Lib.hid c3
  have C4 := Lib.hid c4
  have C5 := Lib.hid c5
  have C6 := Lib.hid c6
  have C7 := Lib.hid c7
  clear c1 c2 c3 c4 c5 c6 c7 ht
  have hB0 : Below w.heap.size w (w.alloc (.cells (numsV m) 41)) := (Below.refl _ _).alloc (Nat.le_refl _) _
  have A := Lib.hid (alive3 _ (Tab.below hT hT.pos hB0))
  have HB0 := Lib.hid hB0
  clear hm hT hB0
  go_enter Tryd.func9, Tryd.ntmps9
  go_wp2_with fail
  refine (A.out).mono ?_
  rintro e w1 ⟨rfl, hB⟩
  have N1 := Lib.hid ((nums_new41 m w).below hB (nums_new41 m w).lt)
  have HB := Lib.hid (HB0.out.trans (hB.mono HB0.out.size))
  clear hB A
  go_wp2_with (refine wpList_load_rv _ rfl w.heap.size m HM.out.1 rfl N1.out (by rfl) ?_)
  refine (theirs_v m w1 HM.out.1).mono ?_
  rintro e w2 ⟨rfl, hB2⟩
  have B0 : Both w [] [(w.heap.size, m)] w1 := ⟨Held.nil HB.out, fun p hp => by rw [List.mem_singleton.1 hp]; exact N1.out⟩
  have K1 := Lib.hid ((B0.to hB2).store m)
  clear hB2 N1 B0
  go_wp2_with (refine wpList_store_v rfl _ _ rfl w2.heap.size m HM.out.1 rfl rfl zeros rfl (by exact nums_zero w2) ?_)
  refine code_inN (Both w [(w2.heap.size, m)] [(w.heap.size, m)]) (by exact K1.out) ?_
  clear K1
  generalize w2.heap.size = g at *
  rintro X3 hK3
  have TT := Lib.hid HT.out
  have hS0 := hK3.drew
  try dsimp only [List.append]
  refine wp_region_held_drew (S := Both w [(g, m)] [(w.heap.size, m)]) (by kernel_rfl) hS0 (fun hHeld => ?_)
  clear hK3 hS0
  refine held_load 0 _ g m HM.out.1 rfl rfl (by kernel_rfl) (by kernel_rfl) (by kernel_rfl) (fun _ _ _ h => h) (by rfl) rfl (fun _ hW => hW.1.1 (g, m) (by simp)) (by assumption) ?_
  simp only [Act.put, List.setIfInBounds_toArray, List.set_cons_zero, List.set_cons_succ]
  refine held_do 1 (v := ?_) rfl (by kernel_rfl) (by kernel_rfl) (by kernel_rfl) (fun _ _ _ h => h) (by rfl) (by assumption) ?_ ?_
  rotate_left
  · intro w _; go_simp; try with_reducible rfl
  simp only [Act.put, List.setIfInBounds_toArray, List.set_cons_zero, List.set_cons_succ]
  refine held_load41 3 _ w.heap.size m HM.out.1 rfl rfl (by kernel_rfl) (by kernel_rfl) (by kernel_rfl) (fun _ _ _ h => h) (by rfl) rfl (fun _ hW => hW.2 (w.heap.size, m) (by simp)) (by assumption) ?_
  simp only [Act.put, List.setIfInBounds_toArray, List.set_cons_zero, List.set_cons_succ]
  refine held_do 4 (v := ?_) rfl (by kernel_rfl) (by kernel_rfl) (by kernel_rfl) (fun _ _ _ h => h) (by rfl) (by assumption) ?_ ?_
  rotate_left
  · intro w _; go_simp; try with_reducible rfl
  simp only [Act.put, List.setIfInBounds_toArray, List.set_cons_zero, List.set_cons_succ]
  refine held_call 2 rfl (by kernel_rfl) (fun K hK => ?_)
  go_simp
  go_at_call 43
  refine (C1.out _ (Both.tab TT.out (by assumption))).mono ?_
  rintro e y ⟨rfl, hY⟩
  go_wp2_with fail
  refine hK.out _ _ ?_ (fun hHeld => ?_)
  · exact Both.to (by assumption) hY
  clear hK K hY
  try simp only [Act.put, List.setIfInBounds_toArray, List.set_cons_zero, List.set_cons_succ]
  refine held_call 5 rfl (by kernel_rfl) (fun K hK => ?_)
  go_simp
  go_at_call 44
  refine (C2.out _).mono ?_
  rintro e y ⟨rfl, hY⟩
  go_wp2_with fail
  refine hK.out _ _ ?_ (fun hHeld => ?_)
  · exact Both.to (by assumption) hY
  clear hK K hY
  try simp only [Act.put, List.setIfInBounds_toArray, List.set_cons_zero, List.set_cons_succ]
  refine held_do 6 (v := ?_) rfl (by kernel_rfl) (by kernel_rfl) (by kernel_rfl) (fun _ _ _ h => h) (by rfl) (by assumption) ?_ ?_
  rotate_left
  · intro w _; go_simp; try with_reducible rfl
  simp only [Act.put, List.setIfInBounds_toArray, List.set_cons_zero, List.set_cons_succ]
  refine held_do 7 (v := ?_) rfl (by kernel_rfl) (by kernel_rfl) (by kernel_rfl) (fun _ _ _ h => h) (by rfl) (by assumption) ?_ ?_
  rotate_left
  · intro w _; go_simp; try with_reducible rfl
  simp only [Act.put, List.setIfInBounds_toArray, List.set_cons_zero, List.set_cons_succ]
  refine held_load 8 _ g m HM.out.1 rfl rfl (by kernel_rfl) (by kernel_rfl) (by kernel_rfl) (fun _ _ _ h => h) (by rfl) rfl (fun _ hW => hW.1.1 (g, m) (by simp)) (by assumption) ?_
  simp only [Act.put, List.setIfInBounds_toArray, List.set_cons_zero, List.set_cons_succ]
  refine held_do 9 (v := ?_) rfl (by kernel_rfl) (by kernel_rfl) (by kernel_rfl) (fun _ _ _ h => h) (by rfl) (by assumption) ?_ ?_
  rotate_left
  · intro w _; go_simp; try with_reducible rfl
  simp only [Act.put, List.setIfInBounds_toArray, List.set_cons_zero, List.set_cons_succ]
  refine held_load41 11 _ w.heap.size m HM.out.1 rfl rfl (by kernel_rfl) (by kernel_rfl) (by kernel_rfl) (fun _ _ _ h => h) (by rfl) rfl (fun _ hW => hW.2 (w.heap.size, m) (by simp)) (by assumption) ?_
  simp only [Act.put, List.setIfInBounds_toArray, List.set_cons_zero, List.set_cons_succ]
  refine held_do 13 (v := ?_) rfl (by kernel_rfl) (by kernel_rfl) (by kernel_rfl) (fun _ _ _ h => h) (by rfl) (by assumption) ?_ ?_
  rotate_left
  · intro w _; go_simp; try with_reducible rfl
  simp only [Act.put, List.setIfInBounds_toArray, List.set_cons_zero, List.set_cons_succ]
  refine held_call 10 rfl (by kernel_rfl) (fun K hK => ?_)
  go_simp
  go_at_call 45
  refine (C3.out _ (Both.tab TT.out (by assumption))).mono ?_
  rintro e y ⟨rfl, hY⟩
  go_wp2_with fail
  refine hK.out _ _ ?_ (fun hHeld => ?_)
  · exact Both.to (by assumption) hY
  clear hK K hY
  try simp only [Act.put, List.setIfInBounds_toArray, List.set_cons_zero, List.set_cons_succ]
  refine held_call 12 rfl (by kernel_rfl) (fun K hK => ?_)
  go_simp
  go_at_call 42
  refine (C4.out _).mono ?_
  rintro e y ⟨rfl, hY⟩
  go_wp2_with fail
  refine hK.out _ _ ?_ (fun hHeld => ?_)
  · exact Both.to (by assumption) hY
  clear hK K hY
  try simp only [Act.put, List.setIfInBounds_toArray, List.set_cons_zero, List.set_cons_succ]
  refine held_call 14 rfl (by kernel_rfl) (fun K hK => ?_)
  go_simp
  go_at_call 44
  refine (C5.out _).mono ?_
  rintro e y ⟨rfl, hY⟩
  go_wp2_with fail
  refine hK.out _ _ ?_ (fun hHeld => ?_)
  · exact Both.to (by assumption) hY
  clear hK K hY
  try simp only [Act.put, List.setIfInBounds_toArray, List.set_cons_zero, List.set_cons_succ]
  refine held_do 15 (v := ?_) rfl (by kernel_rfl) (by kernel_rfl) (by kernel_rfl) (fun _ _ _ h => h) (by rfl) (by assumption) ?_ ?_
  rotate_left
  · intro w _; go_simp; try with_reducible rfl
  simp only [Act.put, List.setIfInBounds_toArray, List.set_cons_zero, List.set_cons_succ]
  refine held_do 16 (v := ?_) rfl (by kernel_rfl) (by kernel_rfl) (by kernel_rfl) (fun _ _ _ h => h) (by rfl) (by assumption) ?_ ?_
  rotate_left
  · intro w _; go_simp; try with_reducible rfl
  simp only [Act.put, List.setIfInBounds_toArray, List.set_cons_zero, List.set_cons_succ]
  refine held_do 17 (v := ?_) rfl (by kernel_rfl) (by kernel_rfl) (by kernel_rfl) (fun _ _ _ h => h) (by rfl) (by assumption) ?_ ?_
  rotate_left
  · intro w _; go_simp; try with_reducible rfl
  simp only [Act.put, List.setIfInBounds_toArray, List.set_cons_zero, List.set_cons_succ]
  refine held_load 18 _ g m HM.out.1 rfl rfl (by kernel_rfl) (by kernel_rfl) (by kernel_rfl) (fun _ _ _ h => h) (by rfl) rfl (fun _ hW => hW.1.1 (g, m) (by simp)) (by assumption) ?_
  simp only [Act.put, List.setIfInBounds_toArray, List.set_cons_zero, List.set_cons_succ]
  refine held_load41 20 _ w.heap.size m HM.out.1 rfl rfl (by kernel_rfl) (by kernel_rfl) (by kernel_rfl) (fun _ _ _ h => h) (by rfl) rfl (fun _ hW => hW.2 (w.heap.size, m) (by simp)) (by assumption) ?_
  simp only [Act.put, List.setIfInBounds_toArray, List.set_cons_zero, List.set_cons_succ]
  refine held_call 19 rfl (by kernel_rfl) (fun K hK => ?_)
  go_simp
  go_at_call 46
  refine (C6.out _ (Both.tab TT.out (by assumption))).mono ?_
  rintro e y ⟨rfl, hY⟩
  go_wp2_with fail
  refine hK.out _ _ ?_ (fun hHeld => ?_)
  · exact Both.to (by assumption) hY
  clear hK K hY
  try simp only [Act.put, List.setIfInBounds_toArray, List.set_cons_zero, List.set_cons_succ]
  refine held_call 21 rfl (by kernel_rfl) (fun K hK => ?_)
  go_simp
  go_at_call 47
  refine (C7.out _).mono ?_
  rintro e y ⟨rfl, hY⟩
  go_wp2_with fail
  refine hK.out _ _ ?_ (fun hHeld => ?_)
  · exact Both.to (by assumption) hY
  clear hK K hY
  try simp only [Act.put, List.setIfInBounds_toArray, List.set_cons_zero, List.set_cons_succ]
  refine held_do 22 (v := ?_) rfl (by kernel_rfl) (by kernel_rfl) (by kernel_rfl) (fun _ _ _ h => h) (by rfl) (by assumption) ?_ ?_
  rotate_left
  · intro w _; go_simp; try with_reducible rfl
  simp only [Act.put, List.setIfInBounds_toArray, List.set_cons_zero, List.set_cons_succ]
  refine held_do 23 (v := ?_) rfl (by kernel_rfl) (by kernel_rfl) (by kernel_rfl) (fun _ _ _ h => h) (by rfl) (by assumption) ?_ ?_
  rotate_left
  · intro w _; go_simp; try with_reducible rfl
  simp only [Act.put, List.setIfInBounds_toArray, List.set_cons_zero, List.set_cons_succ]
  refine held_do 24 (v := ?_) rfl (by kernel_rfl) (by kernel_rfl) (by kernel_rfl) (fun _ _ _ h => h) (by rfl) (by assumption) ?_ ?_
  rotate_left
  · intro w _; go_simp; try with_reducible rfl
  simp only [Act.put, List.setIfInBounds_toArray, List.set_cons_zero, List.set_cons_succ]
  refine held_done (by kernel_rfl) ?_
  have HF := Lib.hid (And.right (And.left hHeld))
  clear hHeld
  go_wp2_with fail
  go_ret
  exact ⟨rfl, HF.out⟩
end Go.Proofs.YtkgfepnkikcpiaaDoor
