/- The walk of MatGrows: with one edge more nothing is reached less; without a node nobody else is reached more. -/
import Derived.Test.YtkgfepnkikcpiaaDoorM9
import Derived.Test.YtkgfepnkikcpiaaDoorPM
namespace Go.Proofs.YtkgfepnkikcpiaaDoor
open Go.RowKit
open PSet PMat PWay

theorem code_in5 {c : Code} {Q : Exit → Act → World → Prop} {a : Act} {W : World} (φ : World → Prop) (hφ : φ W) (h : ∀ X, φ X → c.wp Tryd.prog Q a X) : c.wp Tryd.prog Q a W := h W hφ

set_option maxHeartbeats 2000000 in
set_option maxRecDepth 100000 in
theorem grows_walk (m : List Nat) (p q : Nat) (w : World) (hm : Mat m) (hp : p ≤ 255) (hq : q ≤ 255) (hT : Tab w) :
    Calls Tryd.prog 12 #[matV m, .int .u8 p, .int .u8 q] w fun e w' => e = .returned (.bool true) ∧ Below w.heap.size w w' := by
  unfold matV
  obtain ⟨x, hx⟩ : ∃ x, x = p % 32 := ⟨_, rfl⟩
  obtain ⟨y, hy⟩ : ∃ y, y = q % 32 := ⟨_, rfl⟩
  have hx1 : x < 32 := by omega
  have hy1 : y < 32 := by omega
  have hx0 : (p : Int) % 32 = (x : Int) := by omega
  have hy0 : (q : Int) % 32 = (y : Int) := by omega
  clear hx hy
  obtain ⟨n, hn⟩ : ∃ n, n = putN m (x : Int) (y : Int) := ⟨_, rfl⟩
  obtain ⟨l, hl⟩ : ∃ l, l = cutN m (y : Int) := ⟨_, rfl⟩
  generalize hb : putB (x : Int) (y : Int) = b
  have HM := Lib.hid hm
  have HT := Lib.hid hT
  have HN := Lib.hid (show Mat n by rw [hn]; exact putN_Mat hm _ _)
  have HL := Lib.hid (show Mat l by rw [hl]; exact cutN_Mat hm _)
  have c1 := fun W => put_v m (x : Int) (y : Int) W hm
  rw [← hn, hb] at c1
  have C1 := Lib.hid c1
  have c2 := fun W => cut_v m (y : Int) W hm
  rw [← hl] at c2
  have C2 := Lib.hid c2
  have P1 : Hid (∀ i : Nat, bits .andNot .u64 ((reachN m (i : Int) : Nat) : Int) ((reachN n (i : Int) : Nat) : Int) = 0) := Lib.hid fun i => by
    rw [u64_andNot_nat _ _ (reachN_lt _ _) (reachN_lt _ _), hn, PM.put_more hm.1 hx1 hy1 i]; rfl
  have P2 : Hid (∀ i : Nat, bits .andNot .u64 ((reachN l (i : Int) : Nat) : Int) ((reachN m (i : Int) : Nat) : Int) = 0) := Lib.hid fun i => by
    rw [u64_andNot_nat _ _ (reachN_lt _ _) (reachN_lt _ _), hl, PM.cut_less hm.1 hy1 i]; rfl
  have P3 : Hid (x ≠ y → hasB (reachN n (x : Int)) (y : Int) = true) := Lib.hid fun h => by
    rw [hn]; exact PM.put_has hm.1 hx1 hy1 h
  have HR := Lib.hid (fun m a => reachN_lt m a)
  clear c1 c2 hn hl hb
  have hB0 : Below w.heap.size w (w.alloc (.cells (numsV m) 41)) := (Below.refl _ _).alloc (Nat.le_refl _) _
  have A := Lib.hid (alive3 _ (Tab.below hT hT.pos hB0))
  have HB0 := Lib.hid hB0
  clear hm hT hB0
  go_enter Tryd.func12, Tryd.ntmps12
  go_wp2_with fail
  refine (A.out).mono ?_
  rintro e w1 ⟨rfl, hB⟩
  have N1 := Lib.hid ((nums_new41 m w).below hB (nums_new41 m w).lt)
  have HB := Lib.hid (HB0.out.trans (hB.mono HB0.out.size))
  clear hB A
  go_wp2_with (refine wpList_load_rv _ rfl w.heap.size m HM.out.1 rfl N1.out (by rfl) ?_)
  refine (theirs_v m w1 HM.out.1).mono ?_
  rintro e w2 ⟨rfl, hB2⟩
  have K1 := Lib.hid (((Held.nil HB.out).to hB2).store m)
  have M1 := Lib.hid (K1.out.1 (w2.heap.size, m) (by simp))
  clear hB2 N1
  go_wp2_with (first | (refine wpList_store_v rfl _ _ rfl w2.heap.size m HM.out.1 rfl rfl zeros rfl (by exact nums_zero w2) ?_) | (refine wpList_load_v _ rfl w2.heap.size m HM.out.1 rfl (by exact M1.out) (by rfl) ?_))
  refine calls_in (Held w [(w2.heap.size, m)]) (by exact K1.out) ?_
  rintro X1 hK1
  refine (C1.out X1).mono ?_
  rintro e y1 ⟨rfl, hY⟩
  have K2 := Lib.hid ((hK1.to hY).store n)
  have M2 := Lib.hid (K2.out.1 (w2.heap.size, m) (by simp))
  generalize w2.heap.size = g at *
  clear hK1 hY
  go_wp2_with (first | (refine wpList_store_v rfl _ _ rfl y1.heap.size n HN.out.1 rfl rfl zeros rfl (by exact nums_zero y1) ?_) | (refine wpList_load_v _ rfl g m HM.out.1 rfl (by exact M2.out) (by rfl) ?_))
  refine calls_in (Held w [(y1.heap.size, n), (g, m)]) (by exact K2.out) ?_
  rintro X2 hK2
  refine (C2.out X2).mono ?_
  rintro e y2 ⟨rfl, hY⟩
  have K3 := Lib.hid ((hK2.to hY).store l)
  generalize y1.heap.size = h at *
  clear hK2 hY
  go_wp2_with (refine wpList_store_v rfl _ _ rfl y2.heap.size l HL.out.1 rfl rfl zeros rfl (by exact nums_zero y2) ?_)
  refine code_in5 (Held w [(y2.heap.size, l), (h, n), (g, m)]) (by exact K3.out) ?_
  generalize y2.heap.size = k at *
  clear K3 M1 M2 K1 K2
  intro X3 hK3
  have TT := Lib.hid HT.out
  go_loopw [34, 13] (fun i _ wr => ∃ t : Nat, t ≤ 32 ∧ i = .int .i64 t ∧ Held w [(k, l), (h, n), (g, m)] wr) (fun i _ _ => 32 - (intOf i).toNat)
  case atStart => exact ⟨0, Nat.zero_le _, rfl, hK3⟩
  case round =>
    obtain ⟨t, ht, rfl, hK⟩ := hrel
    have HK := Lib.hid hK
    clear hK hK3
    by_cases hlt : t < 32
    · have q1 := P1.out t
      have q2 := P2.out t
      go_wp2_with fail
      refine code_in5 (Held w [(k, l), (h, n), (g, m)]) (by exact HK.out) ?_
      clear HK
      intro X4 hK4
      have hS0 : Held w [(k, l), (h, n), (g, m)] X4.drew := ⟨hK4.1, hK4.2.drew⟩
      try dsimp only [List.append]
      refine wp_region_held_drew (S := Held w [(k, l), (h, n), (g, m)]) (by kernel_rfl) hS0 (fun hHeld => ?_)
      clear hK4 hS0
      refine held_load 0 _ g m HM.out.1 rfl rfl (by kernel_rfl) (by kernel_rfl) (by kernel_rfl) (fun _ _ _ h => h) (by rfl) rfl (fun _ hW => hW.1 (g, m) (by simp)) (by assumption) ?_
      simp only [Act.put, List.setIfInBounds_toArray, List.set_cons_zero, List.set_cons_succ]
      refine held_do 1 (v := ?_) rfl (by kernel_rfl) (by kernel_rfl) (by kernel_rfl) (fun _ _ _ h => h) (by rfl) (by assumption) ?_ ?_
      rotate_left
      · intro w _; go_simp; try with_reducible rfl
      simp only [Act.put, List.setIfInBounds_toArray, List.set_cons_zero, List.set_cons_succ]
      refine held_load 3 _ h n HN.out.1 rfl rfl (by kernel_rfl) (by kernel_rfl) (by kernel_rfl) (fun _ _ _ h => h) (by rfl) rfl (fun _ hW => hW.1 (h, n) (by simp)) (by assumption) ?_
      simp only [Act.put, List.setIfInBounds_toArray, List.set_cons_zero, List.set_cons_succ]
      refine held_do 4 (v := ?_) rfl (by kernel_rfl) (by kernel_rfl) (by kernel_rfl) (fun _ _ _ h => h) (by rfl) (by assumption) ?_ ?_
      rotate_left
      · intro w _; go_simp; try with_reducible rfl
      simp only [Act.put, List.setIfInBounds_toArray, List.set_cons_zero, List.set_cons_succ]
      refine held_call 2 rfl (by kernel_rfl) (fun K hK => ?_)
      go_simp
      go_at_call 43
      refine (reach_v m _ _ HM.out (Held.tab TT.out (by assumption))).mono ?_
      rintro e y ⟨rfl, hY⟩
      go_wp2_with fail
      refine hK.out _ _ ?_ (fun hHeld => ?_)
      · exact Held.to (by assumption) hY
      clear hK K hY
      try simp only [Act.put, List.setIfInBounds_toArray, List.set_cons_zero, List.set_cons_succ]
      refine held_call 5 rfl (by kernel_rfl) (fun K hK => ?_)
      go_simp
      go_at_call 43
      refine (reach_v n _ _ HN.out (Held.tab TT.out (by assumption))).mono ?_
      rintro e y ⟨rfl, hY⟩
      go_wp2_with fail
      refine hK.out _ _ ?_ (fun hHeld => ?_)
      · exact Held.to (by assumption) hY
      clear hK K hY
      try simp only [Act.put, List.setIfInBounds_toArray, List.set_cons_zero, List.set_cons_succ]
      refine held_do 6 (v := ?_) rfl (by kernel_rfl) (by kernel_rfl) (by kernel_rfl) (fun _ _ _ h => h) (by rfl) (by assumption) ?_ ?_
      rotate_left
      · intro w _; go_simp; try with_reducible rfl
      simp only [Act.put, List.setIfInBounds_toArray, List.set_cons_zero, List.set_cons_succ]
      refine held_do 7 (v := ?_) rfl (by kernel_rfl) (by kernel_rfl) (by kernel_rfl) (fun _ _ _ h => h) (by rfl) (by assumption) ?_ ?_
      rotate_left
      · intro w _; go_simp; try with_reducible rfl
      simp only [Act.put, List.setIfInBounds_toArray, List.set_cons_zero, List.set_cons_succ]
      refine held_do 8 (v := ?_) rfl (by kernel_rfl) (by kernel_rfl) (by kernel_rfl) (fun _ _ _ h => h) (by rfl) (by assumption) ?_ ?_
      rotate_left
      · intro w _; go_simp; try with_reducible rfl
      simp only [Act.put, List.setIfInBounds_toArray, List.set_cons_zero, List.set_cons_succ]
      refine held_load 9 _ k l HL.out.1 rfl rfl (by kernel_rfl) (by kernel_rfl) (by kernel_rfl) (fun _ _ _ h => h) (by rfl) rfl (fun _ hW => hW.1 (k, l) (by simp)) (by assumption) ?_
      simp only [Act.put, List.setIfInBounds_toArray, List.set_cons_zero, List.set_cons_succ]
      refine held_do 10 (v := ?_) rfl (by kernel_rfl) (by kernel_rfl) (by kernel_rfl) (fun _ _ _ h => h) (by rfl) (by assumption) ?_ ?_
      rotate_left
      · intro w _; go_simp; try with_reducible rfl
      simp only [Act.put, List.setIfInBounds_toArray, List.set_cons_zero, List.set_cons_succ]
      refine held_load 12 _ g m HM.out.1 rfl rfl (by kernel_rfl) (by kernel_rfl) (by kernel_rfl) (fun _ _ _ h => h) (by rfl) rfl (fun _ hW => hW.1 (g, m) (by simp)) (by assumption) ?_
      simp only [Act.put, List.setIfInBounds_toArray, List.set_cons_zero, List.set_cons_succ]
      refine held_do 13 (v := ?_) rfl (by kernel_rfl) (by kernel_rfl) (by kernel_rfl) (fun _ _ _ h => h) (by rfl) (by assumption) ?_ ?_
      rotate_left
      · intro w _; go_simp; try with_reducible rfl
      simp only [Act.put, List.setIfInBounds_toArray, List.set_cons_zero, List.set_cons_succ]
      refine held_call 11 rfl (by kernel_rfl) (fun K hK => ?_)
      go_simp
      go_at_call 43
      refine (reach_v l _ _ HL.out (Held.tab TT.out (by assumption))).mono ?_
      rintro e y ⟨rfl, hY⟩
      go_wp2_with fail
      refine hK.out _ _ ?_ (fun hHeld => ?_)
      · exact Held.to (by assumption) hY
      clear hK K hY
      try simp only [Act.put, List.setIfInBounds_toArray, List.set_cons_zero, List.set_cons_succ]
      refine held_call 14 rfl (by kernel_rfl) (fun K hK => ?_)
      go_simp
      go_at_call 43
      refine (reach_v m _ _ HM.out (Held.tab TT.out (by assumption))).mono ?_
      rintro e y ⟨rfl, hY⟩
      go_wp2_with fail
      refine hK.out _ _ ?_ (fun hHeld => ?_)
      · exact Held.to (by assumption) hY
      clear hK K hY
      try simp only [Act.put, List.setIfInBounds_toArray, List.set_cons_zero, List.set_cons_succ]
      refine held_do 15 (v := ?_) rfl (by kernel_rfl) (by kernel_rfl) (by kernel_rfl) (fun _ _ _ h => h) (by rfl) (by assumption) ?_ ?_
      rotate_left
      · intro w _; go_simp; try with_reducible rfl
      simp only [Act.put, List.setIfInBounds_toArray, List.set_cons_zero, List.set_cons_succ]
      refine held_do 16 (v := ?_) rfl (by kernel_rfl) (by kernel_rfl) (by kernel_rfl) (fun _ _ _ h => h) (by rfl) (by assumption) ?_ ?_
      rotate_left
      · intro w _; go_simp; try with_reducible rfl
      simp only [Act.put, List.setIfInBounds_toArray, List.set_cons_zero, List.set_cons_succ]
      refine held_do 17 (v := ?_) rfl (by kernel_rfl) (by kernel_rfl) (by kernel_rfl) (fun _ _ _ h => h) (by rfl) (by assumption) ?_ ?_
      rotate_left
      · intro w _; go_simp; try with_reducible rfl
      simp only [Act.put, List.setIfInBounds_toArray, List.set_cons_zero, List.set_cons_succ]
      refine held_done (by kernel_rfl) ?_
      have HF := Lib.hid (hHeld : Held _ _ _)
      clear hHeld
      go_wp2_with fail
      refine ⟨⟨t + 1, by omega, by go_num, HF.out⟩, by simp [intOf]; omega⟩
    · have e : t = 32 := by omega
      subst e
      by_cases hne : x = y
      · subst hne
        go_wp2_with fail
        go_ret
        exact ⟨rfl, HK.out.2⟩
      · have hne2 : ((x : Int) == (y : Int)) = false := by simp; omega
        have hh := P3.out hne
        have M4 := Lib.hid (HK.out.1 (h, n) (by simp))
        go_wp2_with (refine wpList_load_v _ rfl h n HN.out.1 rfl M4.out (by rfl) ?_)
        refine (reach_v n _ _ HN.out (HK.out.tab HT.out)).mono ?_
        rintro e y3 ⟨rfl, hY⟩
        have K5 := Lib.hid (HK.out.to hY)
        clear hY
        go_wp2_with fail
        refine (has_any _ _ _ (HR.out _ _)).mono ?_
        rintro e y4 ⟨rfl, rfl⟩
        rw [hh]
        go_wp2_with fail
        go_ret
        exact ⟨rfl, K5.out.2⟩
end Go.Proofs.YtkgfepnkikcpiaaDoor
