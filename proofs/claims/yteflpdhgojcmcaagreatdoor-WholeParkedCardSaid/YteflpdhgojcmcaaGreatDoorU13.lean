/- The walk of the graph's entry, of a slot with one step or none. No conditions but those that each theorem names. -/
import Derived.Test.YteflpdhgojcmcaaGreatDoorU01
import Derived.Test.YteflpdhgojcmcaaGreatDoorU10
import Derived.Test.YteflpdhgojcmcaaGreatDoorU12
import Derived.Deep.Cut
namespace Go.Proofs.YteflpdhgojcmcaaGreatDoor
open Go.RowKit PSet PMat
/-- What a transaction of one step or none leaves. -/
def leftM (com : Bool) (t : Option StepM) : Option StepM := if com then writesM t else none
theorem entry_store (B : Nat) (W yz : World) (g6 : Nat) (x0 x1 x2 x3 x4 rv : Value) (n : Nat) (xs : List Value) (hz : yz.heap[g6]? = some (.cells #[.int .i64 0, .bool false, .bool false, .slice none 0 0, .slice none 0 0] 42 (0, 0))) (hbz : Below B W yz) (hlt6 : B ≤ g6) (hoz : yz.ownsRow B 155 4 rv n xs) :
    (((((yz.setCell ⟨g6, 0, none⟩ x0).setCell ⟨g6, 1, none⟩ x1).setCell ⟨g6, 2, none⟩ x2).setCell ⟨g6, 3, none⟩ x3).setCell ⟨g6, 4, none⟩ x4).heap[g6]? = some (.cells #[x0, x1, x2, x3, x4] 42 (0, 0)) ∧
    (((((yz.setCell ⟨g6, 0, none⟩ x0).setCell ⟨g6, 1, none⟩ x1).setCell ⟨g6, 2, none⟩ x2).setCell ⟨g6, 3, none⟩ x3).setCell ⟨g6, 4, none⟩ x4).ownsRow B 155 4 rv n xs ∧
    Below B W (((((yz.setCell ⟨g6, 0, none⟩ x0).setCell ⟨g6, 1, none⟩ x1).setCell ⟨g6, 2, none⟩ x2).setCell ⟨g6, 3, none⟩ x3).setCell ⟨g6, 4, none⟩ x4) ∧
    Below B yz (((((yz.setCell ⟨g6, 0, none⟩ x0).setCell ⟨g6, 1, none⟩ x1).setCell ⟨g6, 2, none⟩ x2).setCell ⟨g6, 3, none⟩ x3).setCell ⟨g6, 4, none⟩ x4) := by
  have hne := owns_type hoz hz (by decide)
  exact ⟨setCells_row g6 42 [x0, x1, x2, x3, x4] _ 0 yz hz,
    ownsRow_setCell_other (ownsRow_setCell_other (ownsRow_setCell_other (ownsRow_setCell_other (ownsRow_setCell_other hoz (a := ⟨g6, 0, none⟩) hne _) (a := ⟨g6, 1, none⟩) hne _) (a := ⟨g6, 2, none⟩) hne _) (a := ⟨g6, 3, none⟩) hne _) (a := ⟨g6, 4, none⟩) hne _,
    ((((hbz.setCell (p := ⟨g6, 0, none⟩) hlt6 _).setCell (p := ⟨g6, 1, none⟩) hlt6 _).setCell (p := ⟨g6, 2, none⟩) hlt6 _).setCell (p := ⟨g6, 3, none⟩) hlt6 _).setCell (p := ⟨g6, 4, none⟩) hlt6 _,
    (((((Below.refl _ yz).setCell (p := ⟨g6, 0, none⟩) hlt6 _).setCell (p := ⟨g6, 1, none⟩) hlt6 _).setCell (p := ⟨g6, 2, none⟩) hlt6 _).setCell (p := ⟨g6, 3, none⟩) hlt6 _).setCell (p := ⟨g6, 4, none⟩) hlt6 _⟩
set_option maxRecDepth 100000 in
set_option maxHeartbeats 1000000 in
theorem grEntry (g : Nat) (L : List Value) (v : Value) (K : List Value) (lg : Value) (ct : Int) (dn : Nat) (id : Int) (ta : Option Addr) (tc : Nat) (com : Bool) (t : Option StepM) (w : World) (hE : EngAt w g L v K lg ct) (h66 : L[66]? = some (.int .u64 dn)) (hdn : dn < 2 ^ 64) (h67 : L[67]? = some (.int .i64 id))
    (hK0 : K[0]? = some (.slice ta (optN t) tc)) (hK1 : K[1]? = some (.bool com)) (hv : RowAt w (.slice ta (optN t) tc) (optN t) 4 (optC t)) (hx : ∀ s, t = some s → 0 ≤ s.x ∧ s.x < 64) :
    Calls Tryz.prog 66 #[.pointer (some ⟨g, 0, none⟩), .int .i64 0] w fun e w' => ∃ rv wv, e = .returned (.agg #[.int .i64 id, .bool com, .bool (hasB dn 0), rv, wv]) ∧
      w'.ownsRow w.heap.size 155 4 rv (optN (readsM t)) (optC (readsM t)) ∧ w'.ownsRow w.heap.size 155 4 wv (optN (leftM com t)) (optC (leftM com t)) ∧ Below w.heap.size w w' := by
  have hgl := hE.lt
  obtain ⟨W, hW⟩ : ∃ W, W = (w.alloc (.cells #[.int .i64 0, .bool false, .bool false, .slice none 0 0, .slice none 0 0] 42)).alloc (.cells #[.slice ta (optN t) tc, .bool com] 148) := ⟨_, rfl⟩
  have hbW : Below w.heap.size w W := by rw [hW]; exact ((Below.refl _ _).alloc (Nat.le_refl _) _).alloc (by simp) _
  have hr4 : W.heap[w.heap.size]? = some (.cells #[.int .i64 0, .bool false, .bool false, .slice none 0 0, .slice none 0 0] 42) := by rw [hW]; exact (heap_alloc_old _ _ (by simp)).trans (Go.heap_alloc_new _ _)
  have hr5 : W.heap[w.heap.size + 1]? = some (.cells #[.slice ta (optN t) tc, .bool com] 148) := by
    rw [hW]; have := Go.heap_alloc_new (w.alloc (.cells #[.int .i64 0, .bool false, .bool false, .slice none 0 0, .slice none 0 0] 42)) (.cells #[.slice ta (optN t) tc, .bool com] 148); simpa using this
  have hEW := hE.below hbW
  have k0 := hE.work hK0
  have k1 := hE.work hK1
  have j66 := hEW.pool h66
  have j67 := hEW.pool h67
  have hTW : ∀ W', Below w.heap.size w W' → RowAt W' (.slice ta (optN t) tc) (optN t) 4 (optC t) := fun W' hb => hv.below hb
  have C1 := Lib.hid (fun W => has_any dn 0 W hdn)
  have C2 := Lib.hid (fun W h => txnReads t (.slice ta (optN t) tc) W h hx)
  have C3 := Lib.hid (fun W h => txnWrites t (.slice ta (optN t) tc) W h hx)
  have HT := Lib.hid hTW
  have HB := Lib.hid hbW
  have HE := Lib.hid hEW
  have HR4 := Lib.hid hr4
  have HR5 := Lib.hid hr5
  have b0 := cell_of_row _ _ 0 _ _ _ hr5
  have b1 := cell_of_row _ _ 1 _ _ _ hr5
  have lW : w.heap.size + 1 < W.heap.size := block_lt hr5
  clear hE h66 h67 hK0 hK1 hv hx hbW hEW hr4 hr5 hTW
  generalize optN t = tn at *
  go_enter Tryz.func66, Tryz.ntmps66
  go_upto_region 2 with (fail)
  rw [← hW]
  clear hW k0 k1
  go_cut [6] from 13 (fun v6 wc => ∃ (g6 : Nat) (rv : Value), v6 = .pointer (some ⟨g6, 0, none⟩) ∧ w.heap.size + 1 < g6 ∧ Hid (wc.heap[g6]? = some (.cells #[.int .i64 id, .bool com, .bool (hasB dn 0), rv, .slice none 0 0] 42 (0, 0)) ∧ wc.ownsRow W.heap.size 155 4 rv (optN (readsM t)) (optC (readsM t)) ∧ Below W.heap.size W wc))
  case first =>
    have hS0 : (fun w' : World => w'.cell? ⟨g, 67, none⟩ = some (.int .i64 id) ∧ w'.cell? ⟨g, 66, none⟩ = some (.int .u64 dn) ∧ w'.cell? ⟨w.heap.size + 1, 0, none⟩ = some (.slice ta tn tc) ∧ w'.cell? ⟨w.heap.size + 1, 1, none⟩ = some (.bool com)) W.drew := ⟨j67, j66, b0, b1⟩
    have KS : ∀ Wx y : World, Below W.heap.size Wx y → (fun w' : World => w'.cell? ⟨g, 67, none⟩ = some (.int .i64 id) ∧ w'.cell? ⟨g, 66, none⟩ = some (.int .u64 dn) ∧ w'.cell? ⟨w.heap.size + 1, 0, none⟩ = some (.slice ta tn tc) ∧ w'.cell? ⟨w.heap.size + 1, 1, none⟩ = some (.bool com)) Wx → (fun w' : World => w'.cell? ⟨g, 67, none⟩ = some (.int .i64 id) ∧ w'.cell? ⟨g, 66, none⟩ = some (.int .u64 dn) ∧ w'.cell? ⟨w.heap.size + 1, 0, none⟩ = some (.slice ta tn tc) ∧ w'.cell? ⟨w.heap.size + 1, 1, none⟩ = some (.bool com)) y := fun Wx y h hs => ⟨(h.cell (p := ⟨g, 67, none⟩) (by have := HB.out.size; simp; omega)).trans hs.1, (h.cell (p := ⟨g, 66, none⟩) (by have := HB.out.size; simp; omega)).trans hs.2.1, (h.cell (p := ⟨w.heap.size + 1, 0, none⟩) lW).trans hs.2.2.1, (h.cell (p := ⟨w.heap.size + 1, 1, none⟩) lW).trans hs.2.2.2⟩
    have KS := Lib.hid KS
    refine wp_region_held_drew (S := fun w' : World => w'.cell? ⟨g, 67, none⟩ = some (.int .i64 id) ∧ w'.cell? ⟨g, 66, none⟩ = some (.int .u64 dn) ∧ w'.cell? ⟨w.heap.size + 1, 0, none⟩ = some (.slice ta tn tc) ∧ w'.cell? ⟨w.heap.size + 1, 1, none⟩ = some (.bool com)) (by kernel_rfl) hS0 (fun hHeld => ?_)
    clear hS0
    refine hd 0 (v := ?_) ?_ ?_
    rotate_left
    · rintro w ⟨hS1, hS2, hS3, hS4⟩; go_simp; try with_reducible rfl
    simp only [Act.put, pt1, pt2, pt3]
    refine hd 1 (v := ?_) ?_ ?_
    rotate_left
    · rintro w ⟨hS1, hS2, hS3, hS4⟩; go_simp; try with_reducible rfl
    simp only [Act.put, pt1, pt2, pt3]
    refine hd 2 (v := ?_) ?_ ?_
    rotate_left
    · rintro w ⟨hS1, hS2, hS3, hS4⟩; go_simp; try with_reducible rfl
    simp only [Act.put, pt1, pt2, pt3]
    refine hd 3 (v := ?_) ?_ ?_
    rotate_left
    · rintro w ⟨hS1, hS2, hS3, hS4⟩; go_simp; try with_reducible rfl
    simp only [Act.put, pt1, pt2, pt3]
    refine hd 4 (v := ?_) ?_ ?_
    rotate_left
    · rintro w ⟨hS1, hS2, hS3, hS4⟩; go_simp; try with_reducible rfl
    simp only [Act.put, pt1, pt2, pt3]
    refine hd 5 (v := ?_) ?_ ?_
    rotate_left
    · rintro w ⟨hS1, hS2, hS3, hS4⟩; go_simp; try with_reducible rfl
    simp only [Act.put, pt1, pt2, pt3]
    refine hd 6 (v := ?_) ?_ ?_
    rotate_left
    · rintro w ⟨hS1, hS2, hS3, hS4⟩; go_simp; try with_reducible rfl
    simp only [Act.put, pt1, pt2, pt3]
    refine hd 7 (v := ?_) ?_ ?_
    rotate_left
    · rintro w ⟨hS1, hS2, hS3, hS4⟩; go_simp; try with_reducible rfl
    simp only [Act.put, pt1, pt2, pt3]
    refine hd 8 (v := ?_) ?_ ?_
    rotate_left
    · rintro w ⟨hS1, hS2, hS3, hS4⟩; go_simp; try with_reducible rfl
    simp only [Act.put, pt1, pt2, pt3]
    refine hd 9 (v := ?_) ?_ ?_
    rotate_left
    · rintro w ⟨hS1, hS2, hS3, hS4⟩; go_simp; try with_reducible rfl
    simp only [Act.put, pt1, pt2, pt3]
    refine hd 10 (v := ?_) ?_ ?_
    rotate_left
    · rintro w ⟨hS1, hS2, hS3, hS4⟩; go_simp; try with_reducible rfl
    simp only [Act.put, pt1, pt2, pt3]
    refine hd 11 (v := ?_) ?_ ?_
    rotate_left
    · rintro w ⟨hS1, hS2, hS3, hS4⟩; go_simp; try with_reducible rfl
    simp only [Act.put, pt1, pt2, pt3]
    refine hd 12 (v := ?_) ?_ ?_
    rotate_left
    · rintro w ⟨hS1, hS2, hS3, hS4⟩; go_simp; try with_reducible rfl
    simp only [Act.put, pt1, pt2, pt3]
    refine hd 13 (v := ?_) ?_ ?_
    rotate_left
    · rintro w ⟨hS1, hS2, hS3, hS4⟩; go_simp; try with_reducible rfl
    simp only [Act.put, pt1, pt2, pt3]
    refine hd 14 (v := ?_) ?_ ?_
    rotate_left
    · rintro w ⟨hS1, hS2, hS3, hS4⟩; go_simp; try with_reducible rfl
    simp only [Act.put, pt1, pt2, pt3]
    refine hd 16 (v := ?_) ?_ ?_
    rotate_left
    · rintro w ⟨hS1, hS2, hS3, hS4⟩; go_simp; try with_reducible rfl
    simp only [Act.put, pt1, pt2, pt3]
    refine hd 17 (v := ?_) ?_ ?_
    rotate_left
    · rintro w ⟨hS1, hS2, hS3, hS4⟩; go_simp; try with_reducible rfl
    simp only [Act.put, pt1, pt2, pt3]
    refine wpAnyH_ready (rs := [15, 20]) (by kernel_rfl) (by simp) (.cons (nth_spec _ 15 _ rfl) (fun K' hK => ?_) (.cons (nth_spec _ 20 _ rfl) (fun K' hK => ?_) .nil))
    · go_simp
      go_at_call 65
      refine (C1.out _).mono ?_
      rintro e y0 ⟨rfl, rfl⟩
      refine hK.out _ _ ?_ (fun hHeld => ?_)
      · exact hHeld
      clear hK K'
      try simp only [Act.put, pt1, pt2, pt3]
      refine wpAnyH_ready (rs := [18, 20]) (by kernel_rfl) (by simp) (.cons (nth_spec _ 18 _ rfl) (fun K' hK => ?_) (.cons (nth_spec _ 20 _ rfl) (fun K' hK => ?_) .nil))
      · go_simp
        go_at_call 101
        refine (C2.out _ (HT.out _ (HB.out.drew))).mono ?_
        rintro e y ⟨rv, rfl, hown, hnil, hb⟩
        obtain ⟨_, a1, c1, rfl, _⟩ := RowAt.of_owns hown
        have HY := Lib.hid (And.intro hown hb)
        clear hown hnil hb
        go_wp2_with fail
        refine hK.out _ _ ?_ (fun hHeld => ?_)
        · exact KS.out _ _ HY.out.2 hHeld
        clear hK K'
        try simp only [Act.put, pt1, pt2, pt3]
        refine hd 19 (v := ?_) ?_ ?_
        rotate_left
        · rintro w ⟨hS1, hS2, hS3, hS4⟩; go_simp; try with_reducible rfl
        simp only [Act.put, pt1, pt2, pt3]
        have hsy : W.heap.size ≤ y.heap.size := HY.out.2.size
        refine hcl 20 (fun K' hK => ?_)
        go_simp
        refine hK.out _ _ ?_ (fun hHeld => ?_)
        · exact KS.out _ _ ((Below.refl _ _).alloc hsy _) hHeld
        clear hK K'
        try simp only [Act.put, pt1, pt2, pt3]
        have hz : (y.alloc (.cells #[.int .i64 id, .bool com, .bool (hasB dn 0), .slice a1 (optN (readsM t)) c1, .slice none 0 0] 42)).heap[y.heap.size]? = some (.cells #[.int .i64 id, .bool com, .bool (hasB dn 0), .slice a1 (optN (readsM t)) c1, .slice none 0 0] 42 (0, 0)) := Go.heap_alloc_new _ _
        have hzb : Below W.heap.size W (y.alloc (.cells #[.int .i64 id, .bool com, .bool (hasB dn 0), .slice a1 (optN (readsM t)) c1, .slice none 0 0] 42)) := (((Below.refl _ W).drew).trans HY.out.2).alloc hsy _
        have HZ := Lib.hid (And.intro hz (And.intro (HY.out.1.alloc (.cells #[.int .i64 id, .bool com, .bool (hasB dn 0), .slice a1 (optN (readsM t)) c1, .slice none 0 0] 42)) hzb))
        clear hz hzb
        refine hcl 21 (fun K' hK => ?_)
        go_simp
        refine hK.out _ _ ?_ (fun hHeld => ?_)
        · exact KS.out W _ HZ.out.2.2 ⟨j67, j66, b0, b1⟩
        clear hK K'
        try simp only [Act.put, pt1, pt2, pt3]
        refine held_done (by kernel_rfl) ?_
        clear hHeld
        go_wp2_with fail
        go_meet
        case rel => exact ⟨y.heap.size, _, rfl, by omega, Lib.hid ⟨HZ.out.1, HZ.out.2.1, HZ.out.2.2⟩⟩
      · go_simp
        refine hK.out _ _ ?_ (fun hHeld => ?_)
        · exact KS.out W _ (((Below.refl W.heap.size W).alloc (Nat.le_refl _) _).drew) ⟨j67, j66, b0, b1⟩
        clear hK K'
        try simp only [Act.put, pt1, pt2, pt3]
        refine hcl 18 (fun K' hK => ?_)
        go_simp
        go_at_call 101
        refine (C2.out _ (HT.out _ ((HB.out.alloc (by have := HB.out.size; omega) _).drew))).mono ?_
        rintro e y ⟨rv, rfl, hown, hnil, hb⟩
        obtain ⟨_, a1, c1, rfl, _⟩ := RowAt.of_owns hown
        have HY := Lib.hid (And.intro hown hb)
        clear hown hnil hb
        go_wp2_with fail
        refine hK.out _ _ ?_ (fun hHeld => ?_)
        · exact KS.out _ _ (HY.out.2.mono (by simp)) hHeld
        clear hK K'
        try simp only [Act.put, pt1, pt2, pt3]
        refine hd 19 (v := ?_) ?_ ?_
        rotate_left
        · rintro w ⟨hS1, hS2, hS3, hS4⟩; go_simp; try with_reducible rfl
        simp only [Act.put, pt1, pt2, pt3]
        have hz : (y).heap[W.heap.size]? = some (.cells #[.int .i64 0, .bool false, .bool false, .slice none 0 0, .slice none 0 0] 42 (0, 0)) := (HY.out.2.block _ (by simp)).trans (Go.heap_alloc_new _ _)
        have H6 := Lib.hid (entry_store W.heap.size W (y) (W.heap.size) (.int .i64 id) (.bool com) (.bool (hasB dn 0)) (.slice a1 (optN (readsM t)) c1) (.slice none 0 0) _ _ _ hz ((((Below.refl _ W).drew).alloc (Nat.le_refl _) _).trans (HY.out.2.mono (by simp))) (Nat.le_refl _) (owns_mono HY.out.1 (by simp)))
        have hlt6 : W.heap.size ≤ W.heap.size := Nat.le_refl _
        have zc := fun j => cell_of_row _ _ j _ _ _ hz
        have zf := fun j => frozen_of_row _ _ j _ _ hz
        have z0 := zc 0
        have z1 := zc 1
        have z2 := zc 2
        have z3 := zc 3
        have z4 := zc 4
        clear zc hz
        refine hcl 21 (fun K' hK => ?_)
        go_simp
        refine hK.out _ _ ?_ (fun hHeld => ?_)
        · exact KS.out _ _ H6.out.2.2.2 hHeld
        clear hK K'
        try simp only [Act.put, pt1, pt2, pt3]
        refine held_done (by kernel_rfl) ?_
        clear hHeld
        go_wp2_with fail
        go_meet
        case rel => exact ⟨W.heap.size, _, rfl, by omega, Lib.hid ⟨H6.out.1, H6.out.2.1, H6.out.2.2.1⟩⟩
    · go_simp
      refine hK.out _ _ ?_ (fun hHeld => ?_)
      · exact KS.out W _ (((Below.refl W.heap.size W).alloc (Nat.le_refl _) _).drew) ⟨j67, j66, b0, b1⟩
      clear hK K'
      try simp only [Act.put, pt1, pt2, pt3]
      refine hcl 15 (fun K' hK => ?_)
      go_simp
      go_at_call 65
      refine (C1.out _).mono ?_
      rintro e y0 ⟨rfl, rfl⟩
      refine hK.out _ _ ?_ (fun hHeld => ?_)
      · exact hHeld
      clear hK K'
      try simp only [Act.put, pt1, pt2, pt3]
      refine hcl 18 (fun K' hK => ?_)
      go_simp
      go_at_call 101
      refine (C2.out _ (HT.out _ ((HB.out.alloc (by have := HB.out.size; omega) _).drew))).mono ?_
      rintro e y ⟨rv, rfl, hown, hnil, hb⟩
      obtain ⟨_, a1, c1, rfl, _⟩ := RowAt.of_owns hown
      have HY := Lib.hid (And.intro hown hb)
      clear hown hnil hb
      go_wp2_with fail
      refine hK.out _ _ ?_ (fun hHeld => ?_)
      · exact KS.out _ _ (HY.out.2.mono (by simp)) hHeld
      clear hK K'
      try simp only [Act.put, pt1, pt2, pt3]
      refine hd 19 (v := ?_) ?_ ?_
      rotate_left
      · rintro w ⟨hS1, hS2, hS3, hS4⟩; go_simp; try with_reducible rfl
      simp only [Act.put, pt1, pt2, pt3]
      have hz : (y).heap[W.heap.size]? = some (.cells #[.int .i64 0, .bool false, .bool false, .slice none 0 0, .slice none 0 0] 42 (0, 0)) := (HY.out.2.block _ (by simp)).trans (Go.heap_alloc_new _ _)
      have H6 := Lib.hid (entry_store W.heap.size W (y) (W.heap.size) (.int .i64 id) (.bool com) (.bool (hasB dn 0)) (.slice a1 (optN (readsM t)) c1) (.slice none 0 0) _ _ _ hz ((((Below.refl _ W).drew).alloc (Nat.le_refl _) _).trans (HY.out.2.mono (by simp))) (Nat.le_refl _) (owns_mono HY.out.1 (by simp)))
      have hlt6 : W.heap.size ≤ W.heap.size := Nat.le_refl _
      have zc := fun j => cell_of_row _ _ j _ _ _ hz
      have zf := fun j => frozen_of_row _ _ j _ _ hz
      have z0 := zc 0
      have z1 := zc 1
      have z2 := zc 2
      have z3 := zc 3
      have z4 := zc 4
      clear zc hz
      refine hcl 21 (fun K' hK => ?_)
      go_simp
      refine hK.out _ _ ?_ (fun hHeld => ?_)
      · exact KS.out _ _ H6.out.2.2.2 hHeld
      clear hK K'
      try simp only [Act.put, pt1, pt2, pt3]
      refine held_done (by kernel_rfl) ?_
      clear hHeld
      go_wp2_with fail
      go_meet
      case rel => exact ⟨W.heap.size, _, rfl, by omega, Lib.hid ⟨H6.out.1, H6.out.2.1, H6.out.2.2.1⟩⟩
  case rest =>
    obtain ⟨g6, rv, rfl, hg6, hc⟩ := hcut
    have r5 := (hc.out.2.2.block _ lW).trans HR5.out
    have r4 := (hc.out.2.2.block _ (by omega)).trans HR4.out
    have p0 := cell_of_row _ _ 0 _ _ _ r5
    have p1 := cell_of_row _ _ 1 _ _ _ r5
    have f4 := fun j => frozen_of_row _ _ j _ _ r4
    have q := fun j => cell_of_row _ _ j _ _ _ hc.out.1
    have z := fun j => cell_of_row _ _ j _ _ _ r4
    have HR4c := Lib.hid r4
    have hrv : ∃ a n c, rv = .slice a n c := by obtain ⟨_, a, c, e, _⟩ := RowAt.of_owns hc.out.2.1; exact ⟨a, _, c, e⟩
    obtain ⟨a1, n1, c1, rfl⟩ := hrv
    have q0 := q 0
    have q1 := q 1
    have q2 := q 2
    have q3 := q 3
    have q4 := q 4
    have z0 := z 0
    have z1 := z 1
    have z2 := z 2
    have z3 := z 3
    have z4 := z 4
    have fg := fun j => frozen_of_row _ _ j _ _ hc.out.1
    have HZ := Lib.hid (HB.out.size)
    clear r4 r5 q z
    have e4 : ∀ (wx : World) (rw1 rw2 : Value), wx.heap[w.heap.size]? = some (.cells #[.int .i64 0, .bool false, .bool false, .slice none 0 0, .slice none 0 0] 42 (0, 0)) → (((((wx.setCell ⟨w.heap.size, 0, none⟩ (.int .i64 id)).setCell ⟨w.heap.size, 1, none⟩ (.bool com)).setCell ⟨w.heap.size, 2, none⟩ (.bool (hasB dn 0))).setCell ⟨w.heap.size, 3, none⟩ rw1).setCell ⟨w.heap.size, 4, none⟩ rw2).heap[w.heap.size]? = some (.cells #[.int .i64 id, .bool com, .bool (hasB dn 0), rw1, rw2] 42 (0, 0)) := fun wx rw1 rw2 h => setCells_row w.heap.size 42 [.int .i64 id, .bool com, .bool (hasB dn 0), rw1, rw2] _ 0 wx h
    have b4 : ∀ (wx : World) (rw1 rw2 : Value), Below w.heap.size w wx → Below w.heap.size w (((((wx.setCell ⟨w.heap.size, 0, none⟩ (.int .i64 id)).setCell ⟨w.heap.size, 1, none⟩ (.bool com)).setCell ⟨w.heap.size, 2, none⟩ (.bool (hasB dn 0))).setCell ⟨w.heap.size, 3, none⟩ rw1).setCell ⟨w.heap.size, 4, none⟩ rw2) := fun wx rw1 rw2 h => ((((h.setCell (p := ⟨w.heap.size, 0, none⟩) (Nat.le_refl _) _).setCell (p := ⟨w.heap.size, 1, none⟩) (Nat.le_refl _) _).setCell (p := ⟨w.heap.size, 2, none⟩) (Nat.le_refl _) _).setCell (p := ⟨w.heap.size, 3, none⟩) (Nat.le_refl _) _).setCell (p := ⟨w.heap.size, 4, none⟩) (Nat.le_refl _) _
    have o4 : ∀ (wx : World) (rw1 rw2 : Value) (k : Nat), k ≠ w.heap.size → (((((wx.setCell ⟨w.heap.size, 0, none⟩ (.int .i64 id)).setCell ⟨w.heap.size, 1, none⟩ (.bool com)).setCell ⟨w.heap.size, 2, none⟩ (.bool (hasB dn 0))).setCell ⟨w.heap.size, 3, none⟩ rw1).setCell ⟨w.heap.size, 4, none⟩ rw2).heap[k]? = wx.heap[k]? := fun wx rw1 rw2 k h => setCells_other w.heap.size [.int .i64 id, .bool com, .bool (hasB dn 0), rw1, rw2] 0 wx k h
    have E4 := Lib.hid (And.intro e4 (And.intro b4 o4))
    clear e4 b4 o4
    cases com
    · go_wp2_with fail
      refine bodyPost_ret (results_cell_row rfl _ _ w.heap.size 42 #[.int .i64 id, .bool false, .bool (hasB dn 0), .slice a1 n1 c1, .slice none 0 0] (0, 0) _ rfl (E4.out.1 _ _ _ HR4c.out) Tryz.underlying42 rfl (by kernel_rfl)) rfl ⟨_, .slice none 0 0, rfl, ?_, ⟨rfl, .inl ⟨rfl, rfl⟩⟩, E4.out.2.1 _ _ _ (HB.out.trans (hc.out.2.2.mono HB.out.size))⟩
      exact owns_mono (owns_keep hc.out.2.1 fun k hk _ => E4.out.2.2 _ _ _ k (by omega)) HZ.out
    · have CW := Lib.hid (C3.out wc (HT.out _ (HB.out.trans (hc.out.2.2.mono HB.out.size))))
      go_wp2_with fail
      refine (CW.out).mono ?_
      rintro e y ⟨wv, rfl, hown, hnil, hb⟩
      obtain ⟨_, a2, c2, rfl, _⟩ := RowAt.of_owns hown
      have y6 := (hb.block _ (block_lt hc.out.1)).trans hc.out.1
      have y4 := (hb.block _ (block_lt HR4c.out)).trans HR4c.out
      have hr6 : (y.setCell ⟨g6, 4, none⟩ (.slice a2 (optN (writesM t)) c2)).heap[g6]? = some (.cells #[.int .i64 id, .bool true, .bool (hasB dn 0), .slice a1 n1 c1, .slice a2 (optN (writesM t)) c2] 42 (0, 0)) := heap_setCell_same _ _ 4 _ _ _ y6
      have hy4 : (y.setCell ⟨g6, 4, none⟩ (.slice a2 (optN (writesM t)) c2)).heap[w.heap.size]? = _ := (heap_setCell_other _ _ _ _ (by simp; omega)).trans y4
      have f6 := frozen_of_row _ _ 4 _ _ y6
      have s6 := cell_of_row _ _ 4 _ _ _ y6
      have d0 := cell_of_row _ _ 0 _ _ _ hr6
      have d1 := cell_of_row _ _ 1 _ _ _ hr6
      have d2 := cell_of_row _ _ 2 _ _ _ hr6
      have d3 := cell_of_row _ _ 3 _ _ _ hr6
      have d4 := cell_of_row _ _ 4 _ _ _ hr6
      have m0 := cell_of_row _ _ 0 _ _ _ hy4
      have m1 := cell_of_row _ _ 1 _ _ _ hy4
      have m2 := cell_of_row _ _ 2 _ _ _ hy4
      have m3 := cell_of_row _ _ 3 _ _ _ hy4
      have m4 := cell_of_row _ _ 4 _ _ _ hy4
      have g4 := fun j => frozen_of_row _ _ j _ _ hy4
      have hs1 : W.heap.size ≤ wc.heap.size := hc.out.2.2.size
      have hs2 : wc.heap.size ≤ y.heap.size := hb.size
      have ho1 : (y.setCell ⟨g6, 4, none⟩ (.slice a2 (optN (writesM t)) c2)).ownsRow W.heap.size 155 4 (.slice a1 n1 c1) (optN (readsM t)) (optC (readsM t)) := by
        have hne := owns_type (owns_keep hc.out.2.1 fun k _ hl => hb.block k hl) y6 (by decide)
        exact ownsRow_setCell_other (owns_keep hc.out.2.1 fun k _ hl => hb.block k hl) (a := ⟨g6, 4, none⟩) hne _
      have ho2 : (y.setCell ⟨g6, 4, none⟩ (.slice a2 (optN (writesM t)) c2)).ownsRow W.heap.size 155 4 (.slice a2 (optN (writesM t)) c2) (optN (writesM t)) (optC (writesM t)) := by
        have hne := owns_type hown y6 (by decide)
        exact owns_mono (ownsRow_setCell_other hown (a := ⟨g6, 4, none⟩) hne _) hs1
      have hb6 : Below w.heap.size w (y.setCell ⟨g6, 4, none⟩ (.slice a2 (optN (writesM t)) c2)) := ((HB.out.trans (hc.out.2.2.mono HB.out.size)).trans (hb.mono (by have := HZ.out; omega))).setCell (p := ⟨g6, 4, none⟩) (show w.heap.size ≤ g6 by omega) _
      have HF := Lib.hid (And.intro hr6 (And.intro hy4 (And.intro ho1 (And.intro ho2 hb6))))
      have HOW := Lib.hid hown
      clear hr6 hy4 ho1 ho2 hb6 hown hnil hb y6 y4
      go_wp2_with fail
      refine bodyPost_ret (results_cell_row rfl _ _ w.heap.size 42 #[.int .i64 id, .bool true, .bool (hasB dn 0), .slice a1 n1 c1, .slice a2 (optN (writesM t)) c2] (0, 0) _ rfl (E4.out.1 _ _ _ HF.out.2.1) Tryz.underlying42 rfl (by kernel_rfl)) rfl ⟨_, _, rfl, ?_, ?_, E4.out.2.1 _ _ _ HF.out.2.2.2.2⟩
      · exact owns_mono (owns_keep HF.out.2.2.1 fun k hk _ => E4.out.2.2 _ _ _ k (by omega)) HZ.out
      · exact owns_mono (owns_keep HF.out.2.2.2.1 fun k hk _ => E4.out.2.2 _ _ _ k (by omega)) HZ.out
end Go.Proofs.YteflpdhgojcmcaaGreatDoor
