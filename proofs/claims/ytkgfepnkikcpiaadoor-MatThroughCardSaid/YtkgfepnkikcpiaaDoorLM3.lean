/- The walk of MatThrough: who is reached by what is reached is; back is reach, the other way; what is cut reaches nothing. -/
import Derived.Test.YtkgfepnkikcpiaaDoorM9
import Derived.Test.YtkgfepnkikcpiaaDoorPM
namespace Go.Proofs.YtkgfepnkikcpiaaDoor
open Go.RowKit
open PSet PMat PWay

theorem code_in3 {c : Code} {Q : Exit → Act → World → Prop} {a : Act} {W : World} (φ : World → Prop) (hφ : φ W) (h : ∀ X, φ X → c.wp Tryd.prog Q a X) : c.wp Tryd.prog Q a W := h W hφ

/-- An operation that its guard leaves out. -/
theorem held_skip {l : List Oper} {Q : Exit → Act → World → Prop} {md : Region.Mode} {S : World → Prop} (i : Nat) {oi : Oper} {fuel : Nat} {listed : Array Bool} {a : Act} {w : World} (hi : nth l i = some oi)
    (hs : Region.noSelect l.toArray = true) (hf : Region.free md l.toArray listed i = true) (hr : (Region.ready md l.toArray listed).contains i = true)
    (hQ : ∀ c a w, Q (.panic c) (a.put oi.dst undef) w → Q (.panic c) a w) (hw : Region.wanted oi (yielded l.toArray a.tmps) = false) (hS : S w)
    (h : wpAnyH Tryd.prog md l.toArray Q S fuel (listed.setIfInBounds i true) (a.put oi.dst undef) w) : wpAnyH Tryd.prog md l.toArray Q S (fuel + 1) listed a w :=
  wpAnyH_take (nth_spec l i oi hi) hs hf hr hQ (Or.inr ⟨hw, rfl⟩) hS h

set_option maxHeartbeats 4000000 in
set_option maxRecDepth 100000 in
theorem through_walk (m : List Nat) (p q : Nat) (w : World) (hm : Mat m) (hp : p ≤ 255) (hq : q ≤ 255) (hT : Tab w) :
    Calls Tryd.prog 10 #[matV m, .int .u8 p, .int .u8 q] w fun e w' => e = .returned (.bool true) ∧ Below w.heap.size w w' := by
  unfold matV
  obtain ⟨x, hx⟩ : ∃ x, x = p % 32 := ⟨_, rfl⟩
  obtain ⟨y, hy⟩ : ∃ y, y = q % 32 := ⟨_, rfl⟩
  have hx1 : x < 32 := by omega
  have hy1 : y < 32 := by omega
  have hx0 : (p : Int) % 32 = (x : Int) := by omega
  have hy0 : (q : Int) % 32 = (y : Int) := by omega
  clear hx hy
  obtain ⟨n, hn⟩ : ∃ n, n = cutN m (x : Int) := ⟨_, rfl⟩
  have HM := Lib.hid hm
  have HT := Lib.hid hT
  have HN := Lib.hid (show Mat n by rw [hn]; exact cutN_Mat hm _)
  have q3 : bits .andNot .u64 ((reachN n (y : Int) : Nat) : Int) ((reachN m (y : Int) : Nat) : Int) = 0 := by
    rw [u64_andNot_nat _ _ (reachN_lt _ _) (reachN_lt _ _), hn, PM.cut_less hm.1 hx1 y]; rfl
  have q2 : bits .andNot .u64 ((outsN m (x : Int) : Nat) : Int) ((reachN m (x : Int) : Nat) : Int) = 0 := by
    rw [u64_andNot_nat _ _ (outsN_lt _ _) (reachN_lt _ _), PM.outs_in]; rfl
  have q1 : hasB (reachN m (x : Int)) (y : Int) = true → bits .andNot .u64 ((reachN m (y : Int) : Nat) : Int) ((reachN m (x : Int) : Nat) : Int) = 0 := fun h => by
    rw [u64_andNot_nat _ _ (reachN_lt _ _) (reachN_lt _ _), PM.through m x y hy1 h]; rfl
  have c1 := fun W => cut_v m (x : Int) W hm
  rw [← hn] at c1
  have C1 := Lib.hid c1
  have c2 := fun W hT => reach_v n (x : Int) W HN.out hT
  rw [show reachN n (x : Int) = 0 by rw [hn]; exact PM.cut_reach hm.1 hx1] at c2
  have C2 := Lib.hid c2
  have c3 := fun W hT => back_v n (x : Int) W HN.out hT
  rw [show backN n (x : Int) = 0 by rw [hn]; exact PM.cut_back hm.1 hx1] at c3
  have C3 := Lib.hid c3
  have C4 := Lib.hid (fun W hT => reach_v n (y : Int) W HN.out hT)
  have C5 := Lib.hid (fun W hT => reach_v m (x : Int) W hm hT)
  have C6 := Lib.hid (fun W hT => reach_v m (y : Int) W hm hT)
  have C7 := Lib.hid (fun W hT => back_v m (y : Int) W hm hT)
  have C8 := Lib.hid (fun W => outs_v m (x : Int) W hm)
  have h1 := fun W => has_any (reachN m (x : Int)) (y : Int) W (reachN_lt _ _)
  have h2 := fun W => has_any (backN m (y : Int)) (x : Int) W (backN_lt _ _)
  rw [← PM.both_ways m x y hx1 hy1] at h2
  clear c1 c2 c3 hn
  have hB0 : Below w.heap.size w (w.alloc (.cells (numsV m) 41)) := (Below.refl _ _).alloc (Nat.le_refl _) _
  have A := Lib.hid (alive3 _ (Tab.below hT hT.pos hB0))
  have HB0 := Lib.hid hB0
  clear hm hT hB0
  generalize reachN m (x : Int) = r at *
  generalize reachN m (y : Int) = s at *
  generalize backN m (y : Int) = bk at *
  generalize reachN n (y : Int) = ry at *
  generalize outsN m (x : Int) = ou at *
  generalize hasB r (y : Int) = b at *
  have HA1 := Lib.hid h1
  have HA2 := Lib.hid h2
  have HX := Lib.hid hx0
  clear h1 h2
  cases b
  all_goals
    try simp only [forall_const, reduceCtorEq, false_implies] at q1
    go_enter Tryd.func10, Tryd.ntmps10
    go_wp2_with fail
    refine (A.out).mono ?_
    rintro e w1 ⟨rfl, hB⟩
    have N1 := Lib.hid ((nums_new41 m w).below hB (nums_new41 m w).lt)
    have HB := Lib.hid (HB0.out.trans (hB.mono HB0.out.size))
    clear hB A
    go_wp2_with (refine wpList_load_rv _ rfl w.heap.size m HM.out.1 rfl N1.out (by rfl) ?_)
    refine (theirs_v m w1 HM.out.1).mono ?_
    rintro e w2 ⟨rfl, hB2⟩
    have K1 := Lib.hid (((Held.nil HB.out).to hB2).store m)
    clear hB2 N1
    go_wp2_with (refine wpList_store_v rfl _ _ rfl w2.heap.size m HM.out.1 rfl rfl zeros rfl (by exact nums_zero w2) ?_)
    refine code_in3 (Held w [(w2.heap.size, m)]) (by exact K1.out) ?_
    clear K1
    generalize w2.heap.size = g at *
    intro X3 hK3
    have TT := Lib.hid HT.out
    have hS0 : Held w [(g, m)] X3.drew := ⟨hK3.1, hK3.2.drew⟩
    try dsimp only [List.append]
    refine wp_region_held_drew (S := Held w [(g, m)]) (by kernel_rfl) hS0 (fun hHeld => ?_)
    clear hK3 hS0
    refine held_load 0 _ g m HM.out.1 rfl rfl (by kernel_rfl) (by kernel_rfl) (by kernel_rfl) (fun _ _ _ h => h) (by rfl) rfl (fun _ hW => hW.1 (g, m) (by simp)) (by assumption) ?_
    simp only [Act.put, List.setIfInBounds_toArray, List.set_cons_zero, List.set_cons_succ]
    refine held_do 1 (v := ?_) rfl (by kernel_rfl) (by kernel_rfl) (by kernel_rfl) (fun _ _ _ h => h) (by rfl) (by assumption) ?_ ?_
    rotate_left
    · intro w _; go_simp; try with_reducible rfl
    simp only [Act.put, List.setIfInBounds_toArray, List.set_cons_zero, List.set_cons_succ]
    refine held_load 3 _ g m HM.out.1 rfl rfl (by kernel_rfl) (by kernel_rfl) (by kernel_rfl) (fun _ _ _ h => h) (by rfl) rfl (fun _ hW => hW.1 (g, m) (by simp)) (by assumption) ?_
    simp only [Act.put, List.setIfInBounds_toArray, List.set_cons_zero, List.set_cons_succ]
    refine held_do 4 (v := ?_) rfl (by kernel_rfl) (by kernel_rfl) (by kernel_rfl) (fun _ _ _ h => h) (by rfl) (by assumption) ?_ ?_
    rotate_left
    · intro w _; go_simp; try with_reducible rfl
    simp only [Act.put, List.setIfInBounds_toArray, List.set_cons_zero, List.set_cons_succ]
    refine held_call 2 rfl (by kernel_rfl) (fun K hK => ?_)
    go_simp
    go_at_call 43
    refine (C5.out _ (Held.tab TT.out (by assumption))).mono ?_
    rintro e y ⟨rfl, hY⟩
    go_wp2_with fail
    refine hK.out _ _ ?_ (fun hHeld => ?_)
    · exact Held.to (by assumption) hY
    clear hK K hY
    try simp only [Act.put, List.setIfInBounds_toArray, List.set_cons_zero, List.set_cons_succ]
    refine held_call 5 rfl (by kernel_rfl) (fun K hK => ?_)
    go_simp
    go_at_call 43
    refine (C6.out _ (Held.tab TT.out (by assumption))).mono ?_
    rintro e y ⟨rfl, hY⟩
    go_wp2_with fail
    refine hK.out _ _ ?_ (fun hHeld => ?_)
    · exact Held.to (by assumption) hY
    clear hK K hY
    try simp only [Act.put, List.setIfInBounds_toArray, List.set_cons_zero, List.set_cons_succ]
    refine held_do 6 (v := ?_) rfl (by kernel_rfl) (by kernel_rfl) (by kernel_rfl) (fun _ _ _ h => h) (by rfl) (by assumption) ?_ ?_
    rotate_left
    · intro w _; go_simp; try with_reducible rfl
    simp only [Act.put, List.setIfInBounds_toArray, List.set_cons_zero, List.set_cons_succ]
    refine held_do 7 (v := ?_) rfl (by kernel_rfl) (by kernel_rfl) (by kernel_rfl) (fun _ _ _ h => h) (by rfl) (by assumption) ?_ ?_
    rotate_left
    · intro w _; go_simp; try with_reducible rfl
    simp only [Act.put, List.setIfInBounds_toArray, List.set_cons_zero, List.set_cons_succ]
    refine held_done (by kernel_rfl) ?_
    have HK4 := Lib.hid (hHeld : Held _ _ _)
    clear hHeld
    go_wp2_with fail
    refine code_in3 (Held w [(g, m)]) (by exact HK4.out) ?_
    clear HK4
    intro X4 hK4
    have hS0 : Held w [(g, m)] X4.drew := ⟨hK4.1, hK4.2.drew⟩
    try dsimp only [List.append]
    refine wp_region_held_drew (S := Held w [(g, m)]) (by kernel_rfl) hS0 (fun hHeld => ?_)
    clear hK4 hS0
    refine held_do 0 (v := ?_) rfl (by kernel_rfl) (by kernel_rfl) (by kernel_rfl) (fun _ _ _ h => h) (by rfl) (by assumption) ?_ ?_
    rotate_left
    · intro w _; go_simp; try with_reducible rfl
    simp only [Act.put, List.setIfInBounds_toArray, List.set_cons_zero, List.set_cons_succ]
    refine held_do 1 (v := ?_) rfl (by kernel_rfl) (by kernel_rfl) (by kernel_rfl) (fun _ _ _ h => h) (by rfl) (by assumption) ?_ ?_
    rotate_left
    · intro w _; go_simp; try with_reducible rfl
    simp only [Act.put, List.setIfInBounds_toArray, List.set_cons_zero, List.set_cons_succ]
    refine held_call 2 rfl (by kernel_rfl) (fun K hK => ?_)
    go_simp
    go_at_call 16
    refine (HA1.out _).mono ?_
    rintro e y ⟨rfl, rfl⟩
    go_wp2_with fail
    refine hK.out _ _ ?_ (fun hHeld => ?_)
    · assumption
    clear hK K
    try simp only [Act.put, List.setIfInBounds_toArray, List.set_cons_zero, List.set_cons_succ]
    refine held_do 3 (v := ?_) rfl (by kernel_rfl) (by kernel_rfl) (by kernel_rfl) (fun _ _ _ h => h) (by rfl) (by assumption) ?_ ?_
    rotate_left
    · intro w _; go_simp; try with_reducible rfl
    simp only [Act.put, List.setIfInBounds_toArray, List.set_cons_zero, List.set_cons_succ]
    first
      | (refine held_do 4 (v := ?_) rfl (by kernel_rfl) (by kernel_rfl) (by kernel_rfl) (fun _ _ _ h => h) (by rfl) (by assumption) ?_ ?_; rotate_left; (intro w _; go_simp; try with_reducible rfl))
      | refine held_skip 4 rfl (by kernel_rfl) (by kernel_rfl) (by kernel_rfl) (fun _ _ _ h => h) (by rfl) (by assumption) ?_
    simp only [Act.put, List.setIfInBounds_toArray, List.set_cons_zero, List.set_cons_succ]
    first
      | (refine held_do 5 (v := ?_) rfl (by kernel_rfl) (by kernel_rfl) (by kernel_rfl) (fun _ _ _ h => h) (by rfl) (by assumption) ?_ ?_; rotate_left; (intro w _; go_simp; try with_reducible rfl))
      | refine held_skip 5 rfl (by kernel_rfl) (by kernel_rfl) (by kernel_rfl) (fun _ _ _ h => h) (by rfl) (by assumption) ?_
    simp only [Act.put, List.setIfInBounds_toArray, List.set_cons_zero, List.set_cons_succ]
    first
      | (refine held_do 6 (v := ?_) rfl (by kernel_rfl) (by kernel_rfl) (by kernel_rfl) (fun _ _ _ h => h) (by rfl) (by assumption) ?_ ?_; rotate_left; (intro w _; go_simp; try with_reducible rfl))
      | refine held_skip 6 rfl (by kernel_rfl) (by kernel_rfl) (by kernel_rfl) (fun _ _ _ h => h) (by rfl) (by assumption) ?_
    simp only [Act.put, List.setIfInBounds_toArray, List.set_cons_zero, List.set_cons_succ]
    first
      | (refine held_do 7 (v := ?_) rfl (by kernel_rfl) (by kernel_rfl) (by kernel_rfl) (fun _ _ _ h => h) (by rfl) (by assumption) ?_ ?_; rotate_left; (intro w _; go_simp; try with_reducible rfl))
      | refine held_skip 7 rfl (by kernel_rfl) (by kernel_rfl) (by kernel_rfl) (fun _ _ _ h => h) (by rfl) (by assumption) ?_
    simp only [Act.put, List.setIfInBounds_toArray, List.set_cons_zero, List.set_cons_succ]
    refine held_do 8 (v := ?_) rfl (by kernel_rfl) (by kernel_rfl) (by kernel_rfl) (fun _ _ _ h => h) (by rfl) (by assumption) ?_ ?_
    rotate_left
    · intro w _; go_simp; try with_reducible rfl
    simp only [Act.put, List.setIfInBounds_toArray, List.set_cons_zero, List.set_cons_succ]
    refine held_do 9 (v := ?_) rfl (by kernel_rfl) (by kernel_rfl) (by kernel_rfl) (fun _ _ _ h => h) (by rfl) (by assumption) ?_ ?_
    rotate_left
    · intro w _; go_simp; try with_reducible rfl
    simp only [Act.put, List.setIfInBounds_toArray, List.set_cons_zero, List.set_cons_succ]
    first
      | (refine held_do 10 (v := ?_) rfl (by kernel_rfl) (by kernel_rfl) (by kernel_rfl) (fun _ _ _ h => h) (by rfl) (by assumption) ?_ ?_; rotate_left; (intro w _; go_simp; try with_reducible rfl))
      | refine held_skip 10 rfl (by kernel_rfl) (by kernel_rfl) (by kernel_rfl) (fun _ _ _ h => h) (by rfl) (by assumption) ?_
    simp only [Act.put, List.setIfInBounds_toArray, List.set_cons_zero, List.set_cons_succ]
    first
      | (refine held_do 11 (v := ?_) rfl (by kernel_rfl) (by kernel_rfl) (by kernel_rfl) (fun _ _ _ h => h) (by rfl) (by assumption) ?_ ?_; rotate_left; (intro w _; go_simp; try with_reducible rfl))
      | refine held_skip 11 rfl (by kernel_rfl) (by kernel_rfl) (by kernel_rfl) (fun _ _ _ h => h) (by rfl) (by assumption) ?_
    simp only [Act.put, List.setIfInBounds_toArray, List.set_cons_zero, List.set_cons_succ]
    refine held_load 13 _ g m HM.out.1 rfl rfl (by kernel_rfl) (by kernel_rfl) (by kernel_rfl) (fun _ _ _ h => h) (by rfl) rfl (fun _ hW => hW.1 (g, m) (by simp)) (by assumption) ?_
    simp only [Act.put, List.setIfInBounds_toArray, List.set_cons_zero, List.set_cons_succ]
    first
      | (refine held_do 14 (v := ?_) rfl (by kernel_rfl) (by kernel_rfl) (by kernel_rfl) (fun _ _ _ h => h) (by rfl) (by assumption) ?_ ?_; rotate_left; (intro w _; go_simp; try with_reducible rfl))
      | refine held_skip 14 rfl (by kernel_rfl) (by kernel_rfl) (by kernel_rfl) (fun _ _ _ h => h) (by rfl) (by assumption) ?_
    simp only [Act.put, List.setIfInBounds_toArray, List.set_cons_zero, List.set_cons_succ]
    first
      | (refine held_do 16 (v := ?_) rfl (by kernel_rfl) (by kernel_rfl) (by kernel_rfl) (fun _ _ _ h => h) (by rfl) (by assumption) ?_ ?_; rotate_left; (intro w _; go_simp; try with_reducible rfl))
      | refine held_skip 16 rfl (by kernel_rfl) (by kernel_rfl) (by kernel_rfl) (fun _ _ _ h => h) (by rfl) (by assumption) ?_
    simp only [Act.put, List.setIfInBounds_toArray, List.set_cons_zero, List.set_cons_succ]
    refine held_call 12 rfl (by kernel_rfl) (fun K hK => ?_)
    go_simp
    go_at_call 16
    refine (HA1.out _).mono ?_
    rintro e y ⟨rfl, rfl⟩
    go_wp2_with fail
    refine hK.out _ _ ?_ (fun hHeld => ?_)
    · assumption
    clear hK K
    try simp only [Act.put, List.setIfInBounds_toArray, List.set_cons_zero, List.set_cons_succ]
    refine held_call 15 rfl (by kernel_rfl) (fun K hK => ?_)
    go_simp
    go_at_call 45
    refine (C7.out _ (Held.tab TT.out (by assumption))).mono ?_
    rintro e y ⟨rfl, hY⟩
    go_wp2_with fail
    refine hK.out _ _ ?_ (fun hHeld => ?_)
    · exact Held.to (by assumption) hY
    clear hK K hY
    try simp only [Act.put, List.setIfInBounds_toArray, List.set_cons_zero, List.set_cons_succ]
    refine held_call 17 rfl (by kernel_rfl) (fun K hK => ?_)
    go_simp
    go_at_call 16
    refine (HA2.out _).mono ?_
    rintro e y ⟨rfl, rfl⟩
    go_wp2_with fail
    refine hK.out _ _ ?_ (fun hHeld => ?_)
    · assumption
    clear hK K
    try simp only [Act.put, List.setIfInBounds_toArray, List.set_cons_zero, List.set_cons_succ]
    first
      | (refine held_do 18 (v := ?_) rfl (by kernel_rfl) (by kernel_rfl) (by kernel_rfl) (fun _ _ _ h => h) (by rfl) (by assumption) ?_ ?_; rotate_left; (intro w _; go_simp; try with_reducible rfl))
      | refine held_skip 18 rfl (by kernel_rfl) (by kernel_rfl) (by kernel_rfl) (fun _ _ _ h => h) (by rfl) (by assumption) ?_
    simp only [Act.put, List.setIfInBounds_toArray, List.set_cons_zero, List.set_cons_succ]
    refine held_do 19 (v := ?_) rfl (by kernel_rfl) (by kernel_rfl) (by kernel_rfl) (fun _ _ _ h => h) (by rfl) (by assumption) ?_ ?_
    rotate_left
    · intro w _; go_simp; try with_reducible rfl
    simp only [Act.put, List.setIfInBounds_toArray, List.set_cons_zero, List.set_cons_succ]
    refine held_do 20 (v := ?_) rfl (by kernel_rfl) (by kernel_rfl) (by kernel_rfl) (fun _ _ _ h => h) (by rfl) (by assumption) ?_ ?_
    rotate_left
    · intro w _; go_simp; try with_reducible rfl
    simp only [Act.put, List.setIfInBounds_toArray, List.set_cons_zero, List.set_cons_succ]
    refine held_load 21 _ g m HM.out.1 rfl rfl (by kernel_rfl) (by kernel_rfl) (by kernel_rfl) (fun _ _ _ h => h) (by rfl) rfl (fun _ hW => hW.1 (g, m) (by simp)) (by assumption) ?_
    simp only [Act.put, List.setIfInBounds_toArray, List.set_cons_zero, List.set_cons_succ]
    first
      | (refine held_do 22 (v := ?_) rfl (by kernel_rfl) (by kernel_rfl) (by kernel_rfl) (fun _ _ _ h => h) (by rfl) (by assumption) ?_ ?_; rotate_left; (intro w _; go_simp; try with_reducible rfl))
      | refine held_skip 22 rfl (by kernel_rfl) (by kernel_rfl) (by kernel_rfl) (fun _ _ _ h => h) (by rfl) (by assumption) ?_
    simp only [Act.put, List.setIfInBounds_toArray, List.set_cons_zero, List.set_cons_succ]
    first
      | (refine held_do 24 (v := ?_) rfl (by kernel_rfl) (by kernel_rfl) (by kernel_rfl) (fun _ _ _ h => h) (by rfl) (by assumption) ?_ ?_; rotate_left; (intro w _; go_simp; try with_reducible rfl))
      | refine held_skip 24 rfl (by kernel_rfl) (by kernel_rfl) (by kernel_rfl) (fun _ _ _ h => h) (by rfl) (by assumption) ?_
    simp only [Act.put, List.setIfInBounds_toArray, List.set_cons_zero, List.set_cons_succ]
    refine held_call 23 rfl (by kernel_rfl) (fun K hK => ?_)
    go_simp
    go_at_call 39
    refine (C8.out _).mono ?_
    rintro e y ⟨rfl, hY⟩
    go_wp2_with fail
    refine hK.out _ _ ?_ (fun hHeld => ?_)
    · exact Held.to (by assumption) hY
    clear hK K hY
    try simp only [Act.put, List.setIfInBounds_toArray, List.set_cons_zero, List.set_cons_succ]
    first
      | (refine held_do 25 (v := ?_) rfl (by kernel_rfl) (by kernel_rfl) (by kernel_rfl) (fun _ _ _ h => h) (by rfl) (by assumption) ?_ ?_; rotate_left; (intro w _; go_simp; try with_reducible rfl))
      | refine held_skip 25 rfl (by kernel_rfl) (by kernel_rfl) (by kernel_rfl) (fun _ _ _ h => h) (by rfl) (by assumption) ?_
    simp only [Act.put, List.setIfInBounds_toArray, List.set_cons_zero, List.set_cons_succ]
    first
      | (refine held_do 26 (v := ?_) rfl (by kernel_rfl) (by kernel_rfl) (by kernel_rfl) (fun _ _ _ h => h) (by rfl) (by assumption) ?_ ?_; rotate_left; (intro w _; go_simp; try with_reducible rfl))
      | refine held_skip 26 rfl (by kernel_rfl) (by kernel_rfl) (by kernel_rfl) (fun _ _ _ h => h) (by rfl) (by assumption) ?_
    simp only [Act.put, List.setIfInBounds_toArray, List.set_cons_zero, List.set_cons_succ]
    refine held_do 27 (v := ?_) rfl (by kernel_rfl) (by kernel_rfl) (by kernel_rfl) (fun _ _ _ h => h) (by rfl) (by assumption) ?_ ?_
    rotate_left
    · intro w _; go_simp; try with_reducible rfl
    simp only [Act.put, List.setIfInBounds_toArray, List.set_cons_zero, List.set_cons_succ]
    refine held_done (by kernel_rfl) ?_
    have HK5 := Lib.hid (hHeld : Held _ _ _)
    have M5 := Lib.hid (HK5.out.1 (g, m) (by simp))
    clear hHeld
    go_wp2_with (refine wpList_load_v _ rfl g m HM.out.1 rfl (by exact M5.out) (by rfl) ?_)
    refine calls_in (Held w [(g, m)]) (by exact HK5.out) ?_
    clear HK5 M5
    intro X5 hK5
    refine (C1.out X5).mono ?_
    rintro e y5 ⟨rfl, hY⟩
    have K6 := Lib.hid ((hK5.to hY).store n)
    clear hK5 hY
    have M6 := Lib.hid (K6.out.1 (y5.heap.size, n) (by simp))
    go_wp2_with (first | (refine wpList_store_v rfl _ _ rfl y5.heap.size n HN.out.1 rfl rfl zeros rfl (by exact nums_zero y5) ?_) | (refine wpList_load_v _ rfl y5.heap.size n HN.out.1 rfl (by exact M6.out) (by rfl) ?_))
    refine calls_in (Held w [(y5.heap.size, n), (g, m)]) (by exact K6.out) ?_
    clear K6 M6
    intro X6 hK6
    generalize y5.heap.size = h at *
    refine (C2.out _ (hK6.tab HT.out)).mono ?_
    rintro e y6 ⟨rfl, hY⟩
    have K7 := Lib.hid (hK6.to hY)
    have M7 := Lib.hid (K7.out.1 (h, n) (by simp))
    clear hK6 hY
    go_wp2_with (refine wpList_load_v _ rfl h n HN.out.1 rfl M7.out (by rfl) ?_)
    refine (C3.out _ (K7.out.tab HT.out)).mono ?_
    rintro e y7 ⟨rfl, hY⟩
    have K8 := Lib.hid (K7.out.to hY)
    have M8 := Lib.hid (K8.out.1 (h, n) (by simp))
    clear hY
    go_wp2_with (refine wpList_load_v _ rfl h n HN.out.1 rfl M8.out (by rfl) ?_)
    refine (C4.out _ (K8.out.tab HT.out)).mono ?_
    rintro e y8 ⟨rfl, hY⟩
    have K9 := Lib.hid (K8.out.to hY)
    clear hY
    go_wp2_with fail
    go_ret
    exact ⟨rfl, K9.out.2⟩
end Go.Proofs.YtkgfepnkikcpiaaDoor
