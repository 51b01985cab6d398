/- The walk of MatTells: any graph with an edge more, or without a node's, and what goes from a node and comes to it, is the document's. -/
import Derived.Test.YtkgfepnkikcpiaaDoorM10
namespace Go.Proofs.YtkgfepnkikcpiaaDoor
open Go.RowKit
open PSet PMat PWay

set_option maxHeartbeats 4000000 in
set_option maxRecDepth 100000 in
theorem mtells_walk (m : List Nat) (a b : Int) (w : World) (hm : Mat m) (hT : Tab w) :
    Calls Tryd.prog 8 #[matV m, .int .i64 a, .int .i64 b] w fun e w' => e = .returned (.bool true) ∧ Below w.heap.size w w' := by
  unfold matV
  obtain ⟨n, hn⟩ : ∃ n, n = putN m a b := ⟨_, rfl⟩
  obtain ⟨c, hc⟩ : ∃ c, c = cutN m a := ⟨_, rfl⟩
  obtain ⟨t, ht⟩ : ∃ t, t = turnN m := ⟨_, rfl⟩
  have HM := Lib.hid hm
  have HT := Lib.hid hT
  have HN := Lib.hid (show Mat n by rw [hn]; exact putN_Mat hm _ _)
  have HC := Lib.hid (show Mat c by rw [hc]; exact cutN_Mat hm _)
  have HU := Lib.hid (show Mat t by rw [ht]; exact turnN_Mat m)
  have c1 := fun W => put_v m a b W hm
  have c2 := fun W => rput_v m a b W hm
  have c3 := fun W => cut_v m a W hm
  have c4 := fun W => rcut_v m a W hm
  have c5 := fun W => mhas_v m a b W hm
  have c6 := fun W => rmhas_v m a b W hm
  have c7 := fun W => outs_v m a W hm
  have c8 := fun W => routs_v m a W hm
  have c9 := fun W => ins_v m a W hm
  have c10 := fun W => turn_v m W hm
  have c11 := fun W => routs_v t a W HU.out
  rw [ht, outs_turn, ← ht] at c11
  rw [← hn] at c1 c2
  rw [← hc] at c3 c4
  rw [← ht] at c10
  generalize putB a b = pb at *
  generalize hasB (outsN m a) b = hb at *
  generalize outsN m a = ou at *
  generalize insN m a = nu at *
  have C1 := Lib.hid c1
  have C2 := Lib.hid c2
  have C3 := Lib.hid c3
  have C4 := Lib.hid c4
  have C5 := Lib.hid c5
  have C6 := Lib.hid c6
  have C7 := Lib.hid c7
  have C8 := Lib.hid c8
  have C9 := Lib.hid c9
  have C10 := Lib.hid c10
  have C11 := Lib.hid c11
  have CN := Lib.hid (fun W => ours_v n W HN.out.1)
  have CC := Lib.hid (fun W => ours_v c W HC.out.1)
  clear c1 c2 c3 c4 c5 c6 c7 c8 c9 c10 c11 hn hc ht
  have hB0 : Below w.heap.size w (w.alloc (.cells (numsV m) 41)) := (Below.refl _ _).alloc (Nat.le_refl _) _
  have A := Lib.hid (alive3 _ (Tab.below hT hT.pos hB0))
  have HB0 := Lib.hid hB0
  clear hm hT hB0
  go_enter Tryd.func8, Tryd.ntmps8
  go_wp2_with fail
  refine (A.out).mono ?_
  rintro e w1 ⟨rfl, hB⟩
  have N1 := Lib.hid ((nums_new41 m w).below hB (nums_new41 m w).lt)
  have HB := Lib.hid (HB0.out.trans (hB.mono HB0.out.size))
  clear hB A
  go_wp2_with (refine wpList_load_rv _ rfl w.heap.size m HM.out.1 rfl N1.out (by rfl) ?_)
  refine (theirs_v m w1 HM.out.1).mono ?_
  rintro e w2 ⟨rfl, hB2⟩
  have B0 : Both w [] [(w.heap.size, m)] w1 := ⟨Held.nil HB.out, fun p hp => by rw [List.mem_singleton.1 hp]; exact N1.out⟩
  have K1 := Lib.hid ((B0.to hB2).store m)
  have M1 := Lib.hid (K1.out.1.1 (w2.heap.size, m) (by simp))
  clear hB2 N1 B0
  go_wp2_with (first | (refine wpList_store_v rfl _ _ rfl w2.heap.size m HM.out.1 rfl rfl zeros rfl (by exact nums_zero w2) ?_) | (refine wpList_load_v _ rfl w2.heap.size m HM.out.1 rfl (by exact M1.out) (by rfl) ?_))
  refine calls_in (Both w [(w2.heap.size, m)] [(w.heap.size, m)]) (by exact K1.out) ?_
  clear K1 M1
  generalize w2.heap.size = g at *
  rintro X1 hK1
  refine (C1.out X1).mono ?_
  rintro e y1 ⟨rfl, hY⟩
  have K2 := Lib.hid ((hK1.to hY).store n)
  have M2 := Lib.hid (K2.out.2 (w.heap.size, m) (by simp))
  clear hK1 hY
  go_wp2_with (first | (refine wpList_store_v rfl _ _ rfl y1.heap.size n HN.out.1 rfl rfl zeros rfl (by exact nums_zero y1) ?_) | (refine wpList_load_rv _ rfl w.heap.size m HM.out.1 rfl (by exact M2.out) (by rfl) ?_))
  refine calls_in (Both w [(y1.heap.size, n), (g, m)] [(w.heap.size, m)]) (by exact K2.out) ?_
  clear K2 M2
  generalize y1.heap.size = h at *
  rintro X2 hK2
  refine (C2.out X2).mono ?_
  rintro e y2 ⟨rfl, hY⟩
  have K3 := Lib.hid ((hK2.to hY).store41 n)
  clear hK2 hY
  go_wp2_with (refine wpList_store_rv rfl _ _ rfl y2.heap.size n HN.out.1 rfl rfl zeros rfl (by exact nums41_zero y2) ?_)
  refine code_inN (Both w [(h, n), (g, m)] [(y2.heap.size, n), (w.heap.size, m)]) (by exact K3.out) ?_
  clear K3
  generalize y2.heap.size = k at *
  rintro X3 hK3
  have TT := Lib.hid HT.out
  have hS0 := hK3.drew
  try dsimp only [List.append]
  refine wp_region_held_drew (S := Both w [(h, n), (g, m)] [(k, n), (w.heap.size, m)]) (by kernel_rfl) hS0 (fun hHeld => ?_)
  clear hK3 hS0
  refine held_load 0 _ h n HN.out.1 rfl rfl (by kernel_rfl) (by kernel_rfl) (by kernel_rfl) (fun _ _ _ h => h) (by rfl) rfl (fun _ hW => hW.1.1 (h, n) (by simp)) (by assumption) ?_
  simp only [Act.put, List.setIfInBounds_toArray, List.set_cons_zero, List.set_cons_succ]
  refine held_load41 2 _ k n HN.out.1 rfl rfl (by kernel_rfl) (by kernel_rfl) (by kernel_rfl) (fun _ _ _ h => h) (by rfl) rfl (fun _ hW => hW.2 (k, n) (by simp)) (by assumption) ?_
  simp only [Act.put, List.setIfInBounds_toArray, List.set_cons_zero, List.set_cons_succ]
  refine held_call 1 rfl (by kernel_rfl) (fun K hK => ?_)
  go_simp
  go_at_call 34
  refine (CN.out _).mono ?_
  rintro e y ⟨rfl, hY⟩
  go_wp2_with fail
  refine hK.out _ _ ?_ (fun hHeld => ?_)
  · exact Both.to (by assumption) hY
  clear hK K hY
  try simp only [Act.put, List.setIfInBounds_toArray, List.set_cons_zero, List.set_cons_succ]
  refine held_do 3 rfl (by kernel_rfl) (by kernel_rfl) (by kernel_rfl) (fun _ _ _ h => h) (by rfl) (by assumption) (fun w _ => exec_same41 _ _ _ _ rfl n HN.out.1 rfl rfl w) ?_
  simp only [Act.put, List.setIfInBounds_toArray, List.set_cons_zero, List.set_cons_succ]
  refine held_do 4 (v := ?_) rfl (by kernel_rfl) (by kernel_rfl) (by kernel_rfl) (fun _ _ _ h => h) (by rfl) (by assumption) ?_ ?_
  rotate_left
  · intro w _; go_simp; try with_reducible rfl
  simp only [Act.put, List.setIfInBounds_toArray, List.set_cons_zero, List.set_cons_succ]
  refine held_do 5 (v := ?_) rfl (by kernel_rfl) (by kernel_rfl) (by kernel_rfl) (fun _ _ _ h => h) (by rfl) (by assumption) ?_ ?_
  rotate_left
  · intro w _; go_simp; try with_reducible rfl
  simp only [Act.put, List.setIfInBounds_toArray, List.set_cons_zero, List.set_cons_succ]
  refine held_do 6 (v := ?_) rfl (by kernel_rfl) (by kernel_rfl) (by kernel_rfl) (fun _ _ _ h => h) (by rfl) (by assumption) ?_ ?_
  rotate_left
  · intro w _; go_simp; try with_reducible rfl
  simp only [Act.put, List.setIfInBounds_toArray, List.set_cons_zero, List.set_cons_succ]
  refine held_do 7 (v := ?_) rfl (by kernel_rfl) (by kernel_rfl) (by kernel_rfl) (fun _ _ _ h => h) (by rfl) (by assumption) ?_ ?_
  rotate_left
  · intro w _; go_simp; try with_reducible rfl
  simp only [Act.put, List.setIfInBounds_toArray, List.set_cons_zero, List.set_cons_succ]
  refine held_do 8 (v := ?_) rfl (by kernel_rfl) (by kernel_rfl) (by kernel_rfl) (fun _ _ _ h => h) (by rfl) (by assumption) ?_ ?_
  rotate_left
  · intro w _; go_simp; try with_reducible rfl
  simp only [Act.put, List.setIfInBounds_toArray, List.set_cons_zero, List.set_cons_succ]
  refine held_do 9 (v := ?_) rfl (by kernel_rfl) (by kernel_rfl) (by kernel_rfl) (fun _ _ _ h => h) (by rfl) (by assumption) ?_ ?_
  rotate_left
  · intro w _; go_simp; try with_reducible rfl
  simp only [Act.put, List.setIfInBounds_toArray, List.set_cons_zero, List.set_cons_succ]
  refine held_load 10 _ g m HM.out.1 rfl rfl (by kernel_rfl) (by kernel_rfl) (by kernel_rfl) (fun _ _ _ h => h) (by rfl) rfl (fun _ hW => hW.1.1 (g, m) (by simp)) (by assumption) ?_
  simp only [Act.put, List.setIfInBounds_toArray, List.set_cons_zero, List.set_cons_succ]
  refine held_do 11 (v := ?_) rfl (by kernel_rfl) (by kernel_rfl) (by kernel_rfl) (fun _ _ _ h => h) (by rfl) (by assumption) ?_ ?_
  rotate_left
  · intro w _; go_simp; try with_reducible rfl
  simp only [Act.put, List.setIfInBounds_toArray, List.set_cons_zero, List.set_cons_succ]
  refine held_load41 14 _ w.heap.size m HM.out.1 rfl rfl (by kernel_rfl) (by kernel_rfl) (by kernel_rfl) (fun _ _ _ h => h) (by rfl) rfl (fun _ hW => hW.2 (w.heap.size, m) (by simp)) (by assumption) ?_
  simp only [Act.put, List.setIfInBounds_toArray, List.set_cons_zero, List.set_cons_succ]
  refine held_do 15 (v := ?_) rfl (by kernel_rfl) (by kernel_rfl) (by kernel_rfl) (fun _ _ _ h => h) (by rfl) (by assumption) ?_ ?_
  rotate_left
  · intro w _; go_simp; try with_reducible rfl
  simp only [Act.put, List.setIfInBounds_toArray, List.set_cons_zero, List.set_cons_succ]
  refine held_call 12 rfl (by kernel_rfl) (fun K hK => ?_)
  go_simp
  go_at_call 35
  refine (C3.out _).mono ?_
  rintro e y ⟨rfl, hY⟩
  go_wp2_with fail
  refine hK.out _ _ ?_ (fun hHeld => ?_)
  · exact Both.to (by assumption) hY
  clear hK K hY
  try simp only [Act.put, List.setIfInBounds_toArray, List.set_cons_zero, List.set_cons_succ]
  refine held_call 13 rfl (by kernel_rfl) (fun K hK => ?_)
  go_simp
  go_at_call 34
  refine (CC.out _).mono ?_
  rintro e y ⟨rfl, hY⟩
  go_wp2_with fail
  refine hK.out _ _ ?_ (fun hHeld => ?_)
  · exact Both.to (by assumption) hY
  clear hK K hY
  try simp only [Act.put, List.setIfInBounds_toArray, List.set_cons_zero, List.set_cons_succ]
  refine held_call 16 rfl (by kernel_rfl) (fun K hK => ?_)
  go_simp
  go_at_call 36
  refine (C4.out _).mono ?_
  rintro e y ⟨rfl, hY⟩
  go_wp2_with fail
  refine hK.out _ _ ?_ (fun hHeld => ?_)
  · exact Both.to (by assumption) hY
  clear hK K hY
  try simp only [Act.put, List.setIfInBounds_toArray, List.set_cons_zero, List.set_cons_succ]
  refine held_do 17 rfl (by kernel_rfl) (by kernel_rfl) (by kernel_rfl) (fun _ _ _ h => h) (by rfl) (by assumption) (fun w _ => exec_same41 _ _ _ _ rfl c HC.out.1 rfl rfl w) ?_
  simp only [Act.put, List.setIfInBounds_toArray, List.set_cons_zero, List.set_cons_succ]
  refine held_do 18 (v := ?_) rfl (by kernel_rfl) (by kernel_rfl) (by kernel_rfl) (fun _ _ _ h => h) (by rfl) (by assumption) ?_ ?_
  rotate_left
  · intro w _; go_simp; try with_reducible rfl
  simp only [Act.put, List.setIfInBounds_toArray, List.set_cons_zero, List.set_cons_succ]
  refine held_do 19 (v := ?_) rfl (by kernel_rfl) (by kernel_rfl) (by kernel_rfl) (fun _ _ _ h => h) (by rfl) (by assumption) ?_ ?_
  rotate_left
  · intro w _; go_simp; try with_reducible rfl
  simp only [Act.put, List.setIfInBounds_toArray, List.set_cons_zero, List.set_cons_succ]
  refine held_load 20 _ g m HM.out.1 rfl rfl (by kernel_rfl) (by kernel_rfl) (by kernel_rfl) (fun _ _ _ h => h) (by rfl) rfl (fun _ hW => hW.1.1 (g, m) (by simp)) (by assumption) ?_
  simp only [Act.put, List.setIfInBounds_toArray, List.set_cons_zero, List.set_cons_succ]
  refine held_do 21 (v := ?_) rfl (by kernel_rfl) (by kernel_rfl) (by kernel_rfl) (fun _ _ _ h => h) (by rfl) (by assumption) ?_ ?_
  rotate_left
  · intro w _; go_simp; try with_reducible rfl
  simp only [Act.put, List.setIfInBounds_toArray, List.set_cons_zero, List.set_cons_succ]
  refine held_do 22 (v := ?_) rfl (by kernel_rfl) (by kernel_rfl) (by kernel_rfl) (fun _ _ _ h => h) (by rfl) (by assumption) ?_ ?_
  rotate_left
  · intro w _; go_simp; try with_reducible rfl
  simp only [Act.put, List.setIfInBounds_toArray, List.set_cons_zero, List.set_cons_succ]
  refine held_load41 24 _ w.heap.size m HM.out.1 rfl rfl (by kernel_rfl) (by kernel_rfl) (by kernel_rfl) (fun _ _ _ h => h) (by rfl) rfl (fun _ hW => hW.2 (w.heap.size, m) (by simp)) (by assumption) ?_
  simp only [Act.put, List.setIfInBounds_toArray, List.set_cons_zero, List.set_cons_succ]
  refine held_do 25 (v := ?_) rfl (by kernel_rfl) (by kernel_rfl) (by kernel_rfl) (fun _ _ _ h => h) (by rfl) (by assumption) ?_ ?_
  rotate_left
  · intro w _; go_simp; try with_reducible rfl
  simp only [Act.put, List.setIfInBounds_toArray, List.set_cons_zero, List.set_cons_succ]
  refine held_do 26 (v := ?_) rfl (by kernel_rfl) (by kernel_rfl) (by kernel_rfl) (fun _ _ _ h => h) (by rfl) (by assumption) ?_ ?_
  rotate_left
  · intro w _; go_simp; try with_reducible rfl
  simp only [Act.put, List.setIfInBounds_toArray, List.set_cons_zero, List.set_cons_succ]
  refine held_call 23 rfl (by kernel_rfl) (fun K hK => ?_)
  go_simp
  go_at_call 37
  refine (C5.out _).mono ?_
  rintro e y ⟨rfl, hY⟩
  go_wp2_with fail
  refine hK.out _ _ ?_ (fun hHeld => ?_)
  · exact Both.to (by assumption) hY
  clear hK K hY
  try simp only [Act.put, List.setIfInBounds_toArray, List.set_cons_zero, List.set_cons_succ]
  refine held_call 27 rfl (by kernel_rfl) (fun K hK => ?_)
  go_simp
  go_at_call 38
  refine (C6.out _).mono ?_
  rintro e y ⟨rfl, hY⟩
  go_wp2_with fail
  refine hK.out _ _ ?_ (fun hHeld => ?_)
  · exact Both.to (by assumption) hY
  clear hK K hY
  try simp only [Act.put, List.setIfInBounds_toArray, List.set_cons_zero, List.set_cons_succ]
  refine held_do 28 (v := ?_) rfl (by kernel_rfl) (by kernel_rfl) (by kernel_rfl) (fun _ _ _ h => h) (by rfl) (by assumption) ?_ ?_
  rotate_left
  · intro w _; go_simp; try with_reducible rfl
  simp only [Act.put, List.setIfInBounds_toArray, List.set_cons_zero, List.set_cons_succ]
  refine held_do 29 (v := ?_) rfl (by kernel_rfl) (by kernel_rfl) (by kernel_rfl) (fun _ _ _ h => h) (by rfl) (by assumption) ?_ ?_
  rotate_left
  · intro w _; go_simp; try with_reducible rfl
  simp only [Act.put, List.setIfInBounds_toArray, List.set_cons_zero, List.set_cons_succ]
  refine held_do 30 (v := ?_) rfl (by kernel_rfl) (by kernel_rfl) (by kernel_rfl) (fun _ _ _ h => h) (by rfl) (by assumption) ?_ ?_
  rotate_left
  · intro w _; go_simp; try with_reducible rfl
  simp only [Act.put, List.setIfInBounds_toArray, List.set_cons_zero, List.set_cons_succ]
  refine held_load 31 _ g m HM.out.1 rfl rfl (by kernel_rfl) (by kernel_rfl) (by kernel_rfl) (fun _ _ _ h => h) (by rfl) rfl (fun _ hW => hW.1.1 (g, m) (by simp)) (by assumption) ?_
  simp only [Act.put, List.setIfInBounds_toArray, List.set_cons_zero, List.set_cons_succ]
  refine held_do 32 (v := ?_) rfl (by kernel_rfl) (by kernel_rfl) (by kernel_rfl) (fun _ _ _ h => h) (by rfl) (by assumption) ?_ ?_
  rotate_left
  · intro w _; go_simp; try with_reducible rfl
  simp only [Act.put, List.setIfInBounds_toArray, List.set_cons_zero, List.set_cons_succ]
  refine held_load41 34 _ w.heap.size m HM.out.1 rfl rfl (by kernel_rfl) (by kernel_rfl) (by kernel_rfl) (fun _ _ _ h => h) (by rfl) rfl (fun _ hW => hW.2 (w.heap.size, m) (by simp)) (by assumption) ?_
  simp only [Act.put, List.setIfInBounds_toArray, List.set_cons_zero, List.set_cons_succ]
  refine held_do 35 (v := ?_) rfl (by kernel_rfl) (by kernel_rfl) (by kernel_rfl) (fun _ _ _ h => h) (by rfl) (by assumption) ?_ ?_
  rotate_left
  · intro w _; go_simp; try with_reducible rfl
  simp only [Act.put, List.setIfInBounds_toArray, List.set_cons_zero, List.set_cons_succ]
  refine held_call 33 rfl (by kernel_rfl) (fun K hK => ?_)
  go_simp
  go_at_call 39
  refine (C7.out _).mono ?_
  rintro e y ⟨rfl, hY⟩
  go_wp2_with fail
  refine hK.out _ _ ?_ (fun hHeld => ?_)
  · exact Both.to (by assumption) hY
  clear hK K hY
  try simp only [Act.put, List.setIfInBounds_toArray, List.set_cons_zero, List.set_cons_succ]
  refine held_call 36 rfl (by kernel_rfl) (fun K hK => ?_)
  go_simp
  go_at_call 40
  refine (C8.out _).mono ?_
  rintro e y ⟨rfl, hY⟩
  go_wp2_with fail
  refine hK.out _ _ ?_ (fun hHeld => ?_)
  · exact Both.to (by assumption) hY
  clear hK K hY
  try simp only [Act.put, List.setIfInBounds_toArray, List.set_cons_zero, List.set_cons_succ]
  refine held_do 37 (v := ?_) rfl (by kernel_rfl) (by kernel_rfl) (by kernel_rfl) (fun _ _ _ h => h) (by rfl) (by assumption) ?_ ?_
  rotate_left
  · intro w _; go_simp; try with_reducible rfl
  simp only [Act.put, List.setIfInBounds_toArray, List.set_cons_zero, List.set_cons_succ]
  refine held_do 38 (v := ?_) rfl (by kernel_rfl) (by kernel_rfl) (by kernel_rfl) (fun _ _ _ h => h) (by rfl) (by assumption) ?_ ?_
  rotate_left
  · intro w _; go_simp; try with_reducible rfl
  simp only [Act.put, List.setIfInBounds_toArray, List.set_cons_zero, List.set_cons_succ]
  refine held_do 39 (v := ?_) rfl (by kernel_rfl) (by kernel_rfl) (by kernel_rfl) (fun _ _ _ h => h) (by rfl) (by assumption) ?_ ?_
  rotate_left
  · intro w _; go_simp; try with_reducible rfl
  simp only [Act.put, List.setIfInBounds_toArray, List.set_cons_zero, List.set_cons_succ]
  refine held_load 40 _ g m HM.out.1 rfl rfl (by kernel_rfl) (by kernel_rfl) (by kernel_rfl) (fun _ _ _ h => h) (by rfl) rfl (fun _ hW => hW.1.1 (g, m) (by simp)) (by assumption) ?_
  simp only [Act.put, List.setIfInBounds_toArray, List.set_cons_zero, List.set_cons_succ]
  refine held_do 41 (v := ?_) rfl (by kernel_rfl) (by kernel_rfl) (by kernel_rfl) (fun _ _ _ h => h) (by rfl) (by assumption) ?_ ?_
  rotate_left
  · intro w _; go_simp; try with_reducible rfl
  simp only [Act.put, List.setIfInBounds_toArray, List.set_cons_zero, List.set_cons_succ]
  refine held_load41 43 _ w.heap.size m HM.out.1 rfl rfl (by kernel_rfl) (by kernel_rfl) (by kernel_rfl) (fun _ _ _ h => h) (by rfl) rfl (fun _ hW => hW.2 (w.heap.size, m) (by simp)) (by assumption) ?_
  simp only [Act.put, List.setIfInBounds_toArray, List.set_cons_zero, List.set_cons_succ]
  refine held_do 45 (v := ?_) rfl (by kernel_rfl) (by kernel_rfl) (by kernel_rfl) (fun _ _ _ h => h) (by rfl) (by assumption) ?_ ?_
  rotate_left
  · intro w _; go_simp; try with_reducible rfl
  simp only [Act.put, List.setIfInBounds_toArray, List.set_cons_zero, List.set_cons_succ]
  refine held_call 42 rfl (by kernel_rfl) (fun K hK => ?_)
  go_simp
  go_at_call 41
  refine (C9.out _).mono ?_
  rintro e y ⟨rfl, hY⟩
  go_wp2_with fail
  refine hK.out _ _ ?_ (fun hHeld => ?_)
  · exact Both.to (by assumption) hY
  clear hK K hY
  try simp only [Act.put, List.setIfInBounds_toArray, List.set_cons_zero, List.set_cons_succ]
  refine held_call 44 rfl (by kernel_rfl) (fun K hK => ?_)
  go_simp
  go_at_call 42
  refine (C10.out _).mono ?_
  rintro e y ⟨rfl, hY⟩
  go_wp2_with fail
  refine hK.out _ _ ?_ (fun hHeld => ?_)
  · exact Both.to (by assumption) hY
  clear hK K hY
  try simp only [Act.put, List.setIfInBounds_toArray, List.set_cons_zero, List.set_cons_succ]
  refine held_call 46 rfl (by kernel_rfl) (fun K hK => ?_)
  go_simp
  go_at_call 40
  refine (C11.out _).mono ?_
  rintro e y ⟨rfl, hY⟩
  go_wp2_with fail
  refine hK.out _ _ ?_ (fun hHeld => ?_)
  · exact Both.to (by assumption) hY
  clear hK K hY
  try simp only [Act.put, List.setIfInBounds_toArray, List.set_cons_zero, List.set_cons_succ]
  refine held_do 47 (v := ?_) rfl (by kernel_rfl) (by kernel_rfl) (by kernel_rfl) (fun _ _ _ h => h) (by rfl) (by assumption) ?_ ?_
  rotate_left
  · intro w _; go_simp; try with_reducible rfl
  simp only [Act.put, List.setIfInBounds_toArray, List.set_cons_zero, List.set_cons_succ]
  refine held_do 48 (v := ?_) rfl (by kernel_rfl) (by kernel_rfl) (by kernel_rfl) (fun _ _ _ h => h) (by rfl) (by assumption) ?_ ?_
  rotate_left
  · intro w _; go_simp; try with_reducible rfl
  simp only [Act.put, List.setIfInBounds_toArray, List.set_cons_zero, List.set_cons_succ]
  refine held_do 49 (v := ?_) rfl (by kernel_rfl) (by kernel_rfl) (by kernel_rfl) (fun _ _ _ h => h) (by rfl) (by assumption) ?_ ?_
  rotate_left
  · intro w _; go_simp; try with_reducible rfl
  simp only [Act.put, List.setIfInBounds_toArray, List.set_cons_zero, List.set_cons_succ]
  refine held_done (by kernel_rfl) ?_
  have HF := Lib.hid (And.right (And.left hHeld))
  clear hHeld
  go_wp2_with fail
  go_ret
  exact ⟨rfl, HF.out⟩
end Go.Proofs.YtkgfepnkikcpiaaDoor
