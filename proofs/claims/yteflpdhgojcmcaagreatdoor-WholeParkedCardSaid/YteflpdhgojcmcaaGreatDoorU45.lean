/- The walks of history's take, of a Write and of a Commit. The walk of history's lived, of the fixed run's events. The walks of history's Right, Ids and Graph, of the fixed run's events. No conditions but those that each theorem names. -/
import Derived.Test.YteflpdhgojcmcaaGreatDoorU01
import Derived.Test.YteflpdhgojcmcaaGreatDoorU44
import Derived.Test.YteflpdhgojcmcaaGreatDoorU07
namespace Go.Proofs.YteflpdhgojcmcaaGreatDoor
open Go.RowKit PSet PMat
set_option maxRecDepth 100000 in
theorem take1 (B A lb c L m1 m2 : Nat) (w : World) (h : Life B w A lb c L m1 m2 (-1) false #[] 0) :
    Calls Tryz.prog 170 #[.pointer (some ⟨A, 0, none⟩), .int .i64 1, .agg #[.int .i64 2, .int .i64 1, .int .i64 0, .int .i64 1, .int .i64 7]] w fun en w' => en = .returned (.bool true) ∧ Life B w' A lb c L m1 m2 (-1) false ents1 1 ∧ Below B w w' := by
  obtain ⟨W, hW⟩ : ∃ W, W = w.alloc (.cells #[.int .i64 2, .int .i64 1, .int .i64 0, .int .i64 1, .int .i64 7] 193) := ⟨_, rfl⟩
  have hbW : Below w.heap.size w W := by rw [hW]; exact (Below.refl _ _).alloc (Nat.le_refl _) _
  have hev : W.heap[w.heap.size]? = some (.cells #[.int .i64 2, .int .i64 1, .int .i64 0, .int .i64 1, .int .i64 7] 193 (0, 0)) := by rw [hW]; exact Go.heap_alloc_new _ _
  have hBw : B ≤ w.heap.size := Nat.le_trans h.base.1 (Nat.le_of_lt (block_lt h.life))
  have hLW := h.below hbW
  have HL := Lib.hid hLW
  have HEV := Lib.hid hev
  have HBW := Lib.hid hbW
  have b0 := cell_of_row _ _ 0 _ _ _ hev
  have b1 := cell_of_row _ _ 1 _ _ _ hev
  have b2 := cell_of_row _ _ 2 _ _ _ hev
  have b3 := cell_of_row _ _ 3 _ _ _ hev
  have b4 := cell_of_row _ _ 4 _ _ _ hev
  have hS0 : (fun w' : World => w'.cell? ⟨w.heap.size, 1, none⟩ = some (.int .i64 1) ∧ w'.cell? ⟨A, 0, none⟩ = some (.slice (some ⟨lb, 0, none⟩) 1 c) ∧ w'.cell? ⟨lb, 0, none⟩ = some (.pointer (some ⟨L, 0, none⟩)) ∧ w'.cell? ⟨L, 1, none⟩ = some (.int .i64 (-1))) W.drew := ⟨cell_of_row _ _ 1 _ _ _ hev, cell_of_row _ _ 0 _ _ _ hLW.all, (owns_at hLW.row (by decide)).2.2.1 0 _ rfl, cell_of_row _ _ 1 _ _ _ hLW.life⟩
  have hS1 : (fun w' : World => w'.cell? ⟨w.heap.size, 1, none⟩ = some (.int .i64 1) ∧ w'.cell? ⟨A, 0, none⟩ = some (.slice (some ⟨lb, 0, none⟩) 1 c) ∧ w'.cell? ⟨lb, 0, none⟩ = some (.pointer (some ⟨L, 0, none⟩)) ∧ w'.cell? ⟨L, 1, none⟩ = some (.int .i64 (-1))) W.drew.drew := hS0
  have hL2 : Life B W.drew.drew A lb c L m1 m2 (-1) false #[] 0 := (hLW.below ((Below.refl _ W).drew)).below ((Below.refl _ W.drew).drew)
  have C1 := Lib.hid (step1 B A lb c L m1 m2 W.drew.drew hL2)
  have HB2 := Lib.hid ((hbW.mono hBw).drew.drew)
  clear hL2
  clear h hev hbW hLW
  go_enter Tryz.func170, Tryz.ntmps170
  go_upto_region 1 with fail
  rw [← hW]
  clear hW
  go_upto_region 5 with fail
  clear b1 b2 b3 b4
  refine hregion (fun w' : World => w'.cell? ⟨w.heap.size, 1, none⟩ = some (.int .i64 1) ∧ w'.cell? ⟨A, 0, none⟩ = some (.slice (some ⟨lb, 0, none⟩) 1 c) ∧ w'.cell? ⟨lb, 0, none⟩ = some (.pointer (some ⟨L, 0, none⟩)) ∧ w'.cell? ⟨L, 1, none⟩ = some (.int .i64 (-1))) hS0 (fun hHeld => ?_)
  clear hS0
  refine hd 0 (v := ?_) ?_ ?_; rotate_left; · rintro w ⟨hS1, hS2, hS3, hS4⟩; go_simp; try with_reducible rfl
  simp only [Act.put, pt1, pt2, pt3]
  refine hd 1 (v := ?_) ?_ ?_; rotate_left; · rintro w ⟨hS1, hS2, hS3, hS4⟩; go_simp; try with_reducible rfl
  simp only [Act.put, pt1, pt2, pt3]
  refine hd 2 (v := ?_) ?_ ?_; rotate_left; · rintro w ⟨hS1, hS2, hS3, hS4⟩; go_simp; try with_reducible rfl
  simp only [Act.put, pt1, pt2, pt3]
  refine hd 3 (v := ?_) ?_ ?_; rotate_left; · rintro w ⟨hS1, hS2, hS3, hS4⟩; go_simp; try with_reducible rfl
  simp only [Act.put, pt1, pt2, pt3]
  refine hd 4 (v := ?_) ?_ ?_; rotate_left; · rintro w ⟨hS1, hS2, hS3, hS4⟩; go_simp; try with_reducible rfl
  simp only [Act.put, pt1, pt2, pt3]
  refine hd 5 (v := ?_) ?_ ?_; rotate_left; · rintro w ⟨hS1, hS2, hS3, hS4⟩; go_simp; try with_reducible rfl
  simp only [Act.put, pt1, pt2, pt3]
  refine hd 6 (v := ?_) ?_ ?_; rotate_left; · rintro w ⟨hS1, hS2, hS3, hS4⟩; go_simp; try with_reducible rfl
  simp only [Act.put, pt1, pt2, pt3]
  refine hd 7 (v := ?_) ?_ ?_; rotate_left; · rintro w ⟨hS1, hS2, hS3, hS4⟩; go_simp; try with_reducible rfl
  simp only [Act.put, pt1, pt2, pt3]
  refine hd 8 (v := ?_) ?_ ?_; rotate_left; · rintro w ⟨hS1, hS2, hS3, hS4⟩; go_simp; try with_reducible rfl
  simp only [Act.put, pt1, pt2, pt3]
  refine hd 9 (v := ?_) ?_ ?_; rotate_left; · rintro w ⟨hS1, hS2, hS3, hS4⟩; go_simp; try with_reducible rfl
  simp only [Act.put, pt1, pt2, pt3]
  refine hd 10 (v := ?_) ?_ ?_; rotate_left; · rintro w ⟨hS1, hS2, hS3, hS4⟩; go_simp; try with_reducible rfl
  simp only [Act.put, pt1, pt2, pt3]
  refine hd 11 (v := ?_) ?_ ?_; rotate_left; · rintro w ⟨hS1, hS2, hS3, hS4⟩; go_simp; try with_reducible rfl
  simp only [Act.put, pt1, pt2, pt3]
  refine hd 12 (v := ?_) ?_ ?_; rotate_left; · rintro w ⟨hS1, hS2, hS3, hS4⟩; go_simp; try with_reducible rfl
  simp only [Act.put, pt1, pt2, pt3]
  refine hd 13 (v := ?_) ?_ ?_; rotate_left; · rintro w ⟨hS1, hS2, hS3, hS4⟩; go_simp; try with_reducible rfl
  simp only [Act.put, pt1, pt2, pt3]
  refine hd 14 (v := ?_) ?_ ?_; rotate_left; · rintro w ⟨hS1, hS2, hS3, hS4⟩; go_simp; try with_reducible rfl
  simp only [Act.put, pt1, pt2, pt3]
  refine hd 15 (v := ?_) ?_ ?_; rotate_left; · rintro w ⟨hS1, hS2, hS3, hS4⟩; go_simp; try with_reducible rfl
  simp only [Act.put, pt1, pt2, pt3]
  refine hd 16 (v := ?_) ?_ ?_; rotate_left; · rintro w ⟨hS1, hS2, hS3, hS4⟩; go_simp; try with_reducible rfl
  simp only [Act.put, pt1, pt2, pt3]
  refine hd 17 (v := ?_) ?_ ?_; rotate_left; · rintro w ⟨hS1, hS2, hS3, hS4⟩; go_simp; try with_reducible rfl
  simp only [Act.put, pt1, pt2, pt3]
  refine hd 18 (v := .int .i64 0) (fun _ _ => by kernel_rfl) ?_
  simp only [Act.put, pt1, pt2, pt3]
  refine hd 19 (v := ?_) ?_ ?_; rotate_left; · rintro w ⟨hS1, hS2, hS3, hS4⟩; go_simp; try with_reducible rfl
  simp only [Act.put, pt1, pt2, pt3]
  refine hd 20 (v := ?_) ?_ ?_; rotate_left; · rintro w ⟨hS1, hS2, hS3, hS4⟩; go_simp; try with_reducible rfl
  simp only [Act.put, pt1, pt2, pt3]
  refine hd 21 (v := ?_) ?_ ?_; rotate_left; · rintro w ⟨hS1, hS2, hS3, hS4⟩; go_simp; try with_reducible rfl
  simp only [Act.put, pt1, pt2, pt3]
  refine hd 22 (v := ?_) ?_ ?_; rotate_left; · rintro w ⟨hS1, hS2, hS3, hS4⟩; go_simp; try with_reducible rfl
  simp only [Act.put, pt1, pt2, pt3]
  refine hd 23 (v := ?_) ?_ ?_; rotate_left; · rintro w ⟨hS1, hS2, hS3, hS4⟩; go_simp; try with_reducible rfl
  simp only [Act.put, pt1, pt2, pt3]
  refine hd 24 (v := ?_) ?_ ?_; rotate_left; · rintro w ⟨hS1, hS2, hS3, hS4⟩; go_simp; try with_reducible rfl
  simp only [Act.put, pt1, pt2, pt3]
  refine hd 25 (v := ?_) ?_ ?_; rotate_left; · rintro w ⟨hS1, hS2, hS3, hS4⟩; go_simp; try with_reducible rfl
  simp only [Act.put, pt1, pt2, pt3]
  refine hend ?_
  clear hHeld
  go_upto_region 7 with fail
  refine hregion (fun w' : World => w'.cell? ⟨w.heap.size, 1, none⟩ = some (.int .i64 1) ∧ w'.cell? ⟨A, 0, none⟩ = some (.slice (some ⟨lb, 0, none⟩) 1 c) ∧ w'.cell? ⟨lb, 0, none⟩ = some (.pointer (some ⟨L, 0, none⟩)) ∧ w'.cell? ⟨L, 1, none⟩ = some (.int .i64 (-1))) hS1 (fun hHeld => ?_)
  clear hS1
  refine hd 0 (v := ?_) ?_ ?_; rotate_left; · rintro w ⟨hS1, hS2, hS3, hS4⟩; go_simp; try with_reducible rfl
  simp only [Act.put, pt1, pt2, pt3]
  refine hd 1 (v := ?_) ?_ ?_; rotate_left; · rintro w ⟨hS1, hS2, hS3, hS4⟩; go_simp; try with_reducible rfl
  simp only [Act.put, pt1, pt2, pt3]
  refine hd 2 (v := ?_) ?_ ?_; rotate_left; · rintro w ⟨hS1, hS2, hS3, hS4⟩; go_simp; try with_reducible rfl
  simp only [Act.put, pt1, pt2, pt3]
  refine hd 3 (v := ?_) ?_ ?_; rotate_left; · rintro w ⟨hS1, hS2, hS3, hS4⟩; go_simp; try with_reducible rfl
  simp only [Act.put, pt1, pt2, pt3]
  refine hd 4 (v := ?_) ?_ ?_; rotate_left; · rintro w ⟨hS1, hS2, hS3, hS4⟩; go_simp; try with_reducible rfl
  simp only [Act.put, pt1, pt2, pt3]
  refine hd 5 (v := .int .i64 0) (fun _ _ => by kernel_rfl) ?_
  simp only [Act.put, pt1, pt2, pt3]
  refine hd 6 (v := ?_) ?_ ?_; rotate_left; · rintro w ⟨hS1, hS2, hS3, hS4⟩; go_simp; try with_reducible rfl
  simp only [Act.put, pt1, pt2, pt3]
  refine hd 7 (v := ?_) ?_ ?_; rotate_left; · rintro w ⟨hS1, hS2, hS3, hS4⟩; go_simp; try with_reducible rfl
  simp only [Act.put, pt1, pt2, pt3]
  refine hd 8 (v := ?_) ?_ ?_; rotate_left; · rintro w ⟨hS1, hS2, hS3, hS4⟩; go_simp; try with_reducible rfl
  simp only [Act.put, pt1, pt2, pt3]
  refine hend ?_
  clear hHeld
  have hev2 : W.drew.drew.heap[w.heap.size]? = some (.cells #[.int .i64 2, .int .i64 1, .int .i64 0, .int .i64 1, .int .i64 7] 193 (0, 0)) := HEV.out
  have b0 := cell_of_row _ _ 0 _ _ _ hev2
  have b1 := cell_of_row _ _ 1 _ _ _ hev2
  have b2 := cell_of_row _ _ 2 _ _ _ hev2
  have b3 := cell_of_row _ _ 3 _ _ _ hev2
  have b4 := cell_of_row _ _ 4 _ _ _ hev2
  clear hev2
  go_wp2_with fail
  refine (C1.out).mono ?_
  rintro en y ⟨rfl, hl, hby⟩
  have HF := Lib.hid (And.intro hl (HB2.out.trans hby))
  clear hl hby C1 b0 b1 b2 b3 b4
  go_wp2_with fail
  go_ret
  exact ⟨rfl, HF.out.1, HF.out.2⟩
set_option maxRecDepth 100000 in
theorem take2 (B A lb c L m1 m2 : Nat) (w : World) (h : Life B w A lb c L m1 m2 (-1) false ents1 1) :
    Calls Tryz.prog 170 #[.pointer (some ⟨A, 0, none⟩), .int .i64 2, .agg #[.int .i64 3, .int .i64 1, .int .i64 0, .int .i64 0, .int .i64 0]] w fun en w' => en = .returned (.bool true) ∧ Life B w' A lb c L m1 m2 2 true ents1 1 ∧ Below B w w' := by
  obtain ⟨W, hW⟩ : ∃ W, W = w.alloc (.cells #[.int .i64 3, .int .i64 1, .int .i64 0, .int .i64 0, .int .i64 0] 193) := ⟨_, rfl⟩
  have hbW : Below w.heap.size w W := by rw [hW]; exact (Below.refl _ _).alloc (Nat.le_refl _) _
  have hev : W.heap[w.heap.size]? = some (.cells #[.int .i64 3, .int .i64 1, .int .i64 0, .int .i64 0, .int .i64 0] 193 (0, 0)) := by rw [hW]; exact Go.heap_alloc_new _ _
  have hBw : B ≤ w.heap.size := Nat.le_trans h.base.1 (Nat.le_of_lt (block_lt h.life))
  have hLW := h.below hbW
  have HL := Lib.hid hLW
  have HEV := Lib.hid hev
  have HBW := Lib.hid hbW
  have b0 := cell_of_row _ _ 0 _ _ _ hev
  have b1 := cell_of_row _ _ 1 _ _ _ hev
  have b2 := cell_of_row _ _ 2 _ _ _ hev
  have b3 := cell_of_row _ _ 3 _ _ _ hev
  have b4 := cell_of_row _ _ 4 _ _ _ hev
  have hS0 : (fun w' : World => w'.cell? ⟨w.heap.size, 1, none⟩ = some (.int .i64 1) ∧ w'.cell? ⟨A, 0, none⟩ = some (.slice (some ⟨lb, 0, none⟩) 1 c) ∧ w'.cell? ⟨lb, 0, none⟩ = some (.pointer (some ⟨L, 0, none⟩)) ∧ w'.cell? ⟨L, 1, none⟩ = some (.int .i64 (-1))) W.drew := ⟨cell_of_row _ _ 1 _ _ _ hev, cell_of_row _ _ 0 _ _ _ hLW.all, (owns_at hLW.row (by decide)).2.2.1 0 _ rfl, cell_of_row _ _ 1 _ _ _ hLW.life⟩
  have hS1 : (fun w' : World => w'.cell? ⟨w.heap.size, 1, none⟩ = some (.int .i64 1) ∧ w'.cell? ⟨A, 0, none⟩ = some (.slice (some ⟨lb, 0, none⟩) 1 c) ∧ w'.cell? ⟨lb, 0, none⟩ = some (.pointer (some ⟨L, 0, none⟩)) ∧ w'.cell? ⟨L, 1, none⟩ = some (.int .i64 (-1))) W.drew.drew := hS0
  have hL2 : Life B W.drew.drew.drew A lb c L m1 m2 (-1) false ents1 1 := ((hLW.below ((Below.refl _ W).drew)).below ((Below.refl _ W.drew).drew)).below ((Below.refl _ W.drew.drew).drew)
  have HL2 := Lib.hid hL2
  have HOV := Lib.hid (hL2.over 2 true)
  have HB2 := Lib.hid ((hbW.mono hBw).drew.drew.drew)
  clear hL2
  clear h hev hbW hLW
  go_enter Tryz.func170, Tryz.ntmps170
  go_upto_region 1 with fail
  rw [← hW]
  clear hW
  go_upto_region 5 with fail
  clear b1 b2 b3 b4
  refine hregion (fun w' : World => w'.cell? ⟨w.heap.size, 1, none⟩ = some (.int .i64 1) ∧ w'.cell? ⟨A, 0, none⟩ = some (.slice (some ⟨lb, 0, none⟩) 1 c) ∧ w'.cell? ⟨lb, 0, none⟩ = some (.pointer (some ⟨L, 0, none⟩)) ∧ w'.cell? ⟨L, 1, none⟩ = some (.int .i64 (-1))) hS0 (fun hHeld => ?_)
  clear hS0
  refine hd 0 (v := ?_) ?_ ?_; rotate_left; · rintro w ⟨hS1, hS2, hS3, hS4⟩; go_simp; try with_reducible rfl
  simp only [Act.put, pt1, pt2, pt3]
  refine hd 1 (v := ?_) ?_ ?_; rotate_left; · rintro w ⟨hS1, hS2, hS3, hS4⟩; go_simp; try with_reducible rfl
  simp only [Act.put, pt1, pt2, pt3]
  refine hd 2 (v := ?_) ?_ ?_; rotate_left; · rintro w ⟨hS1, hS2, hS3, hS4⟩; go_simp; try with_reducible rfl
  simp only [Act.put, pt1, pt2, pt3]
  refine hd 3 (v := ?_) ?_ ?_; rotate_left; · rintro w ⟨hS1, hS2, hS3, hS4⟩; go_simp; try with_reducible rfl
  simp only [Act.put, pt1, pt2, pt3]
  refine hd 4 (v := ?_) ?_ ?_; rotate_left; · rintro w ⟨hS1, hS2, hS3, hS4⟩; go_simp; try with_reducible rfl
  simp only [Act.put, pt1, pt2, pt3]
  refine hd 5 (v := ?_) ?_ ?_; rotate_left; · rintro w ⟨hS1, hS2, hS3, hS4⟩; go_simp; try with_reducible rfl
  simp only [Act.put, pt1, pt2, pt3]
  refine hd 6 (v := ?_) ?_ ?_; rotate_left; · rintro w ⟨hS1, hS2, hS3, hS4⟩; go_simp; try with_reducible rfl
  simp only [Act.put, pt1, pt2, pt3]
  refine hd 7 (v := ?_) ?_ ?_; rotate_left; · rintro w ⟨hS1, hS2, hS3, hS4⟩; go_simp; try with_reducible rfl
  simp only [Act.put, pt1, pt2, pt3]
  refine hd 8 (v := ?_) ?_ ?_; rotate_left; · rintro w ⟨hS1, hS2, hS3, hS4⟩; go_simp; try with_reducible rfl
  simp only [Act.put, pt1, pt2, pt3]
  refine hd 9 (v := ?_) ?_ ?_; rotate_left; · rintro w ⟨hS1, hS2, hS3, hS4⟩; go_simp; try with_reducible rfl
  simp only [Act.put, pt1, pt2, pt3]
  refine hd 10 (v := ?_) ?_ ?_; rotate_left; · rintro w ⟨hS1, hS2, hS3, hS4⟩; go_simp; try with_reducible rfl
  simp only [Act.put, pt1, pt2, pt3]
  refine hd 11 (v := ?_) ?_ ?_; rotate_left; · rintro w ⟨hS1, hS2, hS3, hS4⟩; go_simp; try with_reducible rfl
  simp only [Act.put, pt1, pt2, pt3]
  refine hd 12 (v := ?_) ?_ ?_; rotate_left; · rintro w ⟨hS1, hS2, hS3, hS4⟩; go_simp; try with_reducible rfl
  simp only [Act.put, pt1, pt2, pt3]
  refine hd 13 (v := ?_) ?_ ?_; rotate_left; · rintro w ⟨hS1, hS2, hS3, hS4⟩; go_simp; try with_reducible rfl
  simp only [Act.put, pt1, pt2, pt3]
  refine hd 14 (v := ?_) ?_ ?_; rotate_left; · rintro w ⟨hS1, hS2, hS3, hS4⟩; go_simp; try with_reducible rfl
  simp only [Act.put, pt1, pt2, pt3]
  refine hd 15 (v := ?_) ?_ ?_; rotate_left; · rintro w ⟨hS1, hS2, hS3, hS4⟩; go_simp; try with_reducible rfl
  simp only [Act.put, pt1, pt2, pt3]
  refine hd 16 (v := ?_) ?_ ?_; rotate_left; · rintro w ⟨hS1, hS2, hS3, hS4⟩; go_simp; try with_reducible rfl
  simp only [Act.put, pt1, pt2, pt3]
  refine hd 17 (v := ?_) ?_ ?_; rotate_left; · rintro w ⟨hS1, hS2, hS3, hS4⟩; go_simp; try with_reducible rfl
  simp only [Act.put, pt1, pt2, pt3]
  refine hd 18 (v := .int .i64 0) (fun _ _ => by kernel_rfl) ?_
  simp only [Act.put, pt1, pt2, pt3]
  refine hd 19 (v := ?_) ?_ ?_; rotate_left; · rintro w ⟨hS1, hS2, hS3, hS4⟩; go_simp; try with_reducible rfl
  simp only [Act.put, pt1, pt2, pt3]
  refine hd 20 (v := ?_) ?_ ?_; rotate_left; · rintro w ⟨hS1, hS2, hS3, hS4⟩; go_simp; try with_reducible rfl
  simp only [Act.put, pt1, pt2, pt3]
  refine hd 21 (v := ?_) ?_ ?_; rotate_left; · rintro w ⟨hS1, hS2, hS3, hS4⟩; go_simp; try with_reducible rfl
  simp only [Act.put, pt1, pt2, pt3]
  refine hd 22 (v := ?_) ?_ ?_; rotate_left; · rintro w ⟨hS1, hS2, hS3, hS4⟩; go_simp; try with_reducible rfl
  simp only [Act.put, pt1, pt2, pt3]
  refine hd 23 (v := ?_) ?_ ?_; rotate_left; · rintro w ⟨hS1, hS2, hS3, hS4⟩; go_simp; try with_reducible rfl
  simp only [Act.put, pt1, pt2, pt3]
  refine hd 24 (v := ?_) ?_ ?_; rotate_left; · rintro w ⟨hS1, hS2, hS3, hS4⟩; go_simp; try with_reducible rfl
  simp only [Act.put, pt1, pt2, pt3]
  refine hd 25 (v := ?_) ?_ ?_; rotate_left; · rintro w ⟨hS1, hS2, hS3, hS4⟩; go_simp; try with_reducible rfl
  simp only [Act.put, pt1, pt2, pt3]
  refine hend ?_
  clear hHeld
  go_upto_region 7 with fail
  refine hregion (fun w' : World => w'.cell? ⟨w.heap.size, 1, none⟩ = some (.int .i64 1) ∧ w'.cell? ⟨A, 0, none⟩ = some (.slice (some ⟨lb, 0, none⟩) 1 c) ∧ w'.cell? ⟨lb, 0, none⟩ = some (.pointer (some ⟨L, 0, none⟩)) ∧ w'.cell? ⟨L, 1, none⟩ = some (.int .i64 (-1))) hS1 (fun hHeld => ?_)
  clear hS1
  refine hd 0 (v := ?_) ?_ ?_; rotate_left; · rintro w ⟨hS1, hS2, hS3, hS4⟩; go_simp; try with_reducible rfl
  simp only [Act.put, pt1, pt2, pt3]
  refine hd 1 (v := ?_) ?_ ?_; rotate_left; · rintro w ⟨hS1, hS2, hS3, hS4⟩; go_simp; try with_reducible rfl
  simp only [Act.put, pt1, pt2, pt3]
  refine hd 2 (v := ?_) ?_ ?_; rotate_left; · rintro w ⟨hS1, hS2, hS3, hS4⟩; go_simp; try with_reducible rfl
  simp only [Act.put, pt1, pt2, pt3]
  refine hd 3 (v := ?_) ?_ ?_; rotate_left; · rintro w ⟨hS1, hS2, hS3, hS4⟩; go_simp; try with_reducible rfl
  simp only [Act.put, pt1, pt2, pt3]
  refine hd 4 (v := ?_) ?_ ?_; rotate_left; · rintro w ⟨hS1, hS2, hS3, hS4⟩; go_simp; try with_reducible rfl
  simp only [Act.put, pt1, pt2, pt3]
  refine hd 5 (v := .int .i64 0) (fun _ _ => by kernel_rfl) ?_
  simp only [Act.put, pt1, pt2, pt3]
  refine hd 6 (v := ?_) ?_ ?_; rotate_left; · rintro w ⟨hS1, hS2, hS3, hS4⟩; go_simp; try with_reducible rfl
  simp only [Act.put, pt1, pt2, pt3]
  refine hd 7 (v := ?_) ?_ ?_; rotate_left; · rintro w ⟨hS1, hS2, hS3, hS4⟩; go_simp; try with_reducible rfl
  simp only [Act.put, pt1, pt2, pt3]
  refine hd 8 (v := ?_) ?_ ?_; rotate_left; · rintro w ⟨hS1, hS2, hS3, hS4⟩; go_simp; try with_reducible rfl
  simp only [Act.put, pt1, pt2, pt3]
  refine hend ?_
  clear hHeld
  have hev2 : W.drew.drew.heap[w.heap.size]? = some (.cells #[.int .i64 3, .int .i64 1, .int .i64 0, .int .i64 0, .int .i64 0] 193 (0, 0)) := HEV.out
  have b0 := cell_of_row _ _ 0 _ _ _ hev2
  have b1 := cell_of_row _ _ 1 _ _ _ hev2
  have b2 := cell_of_row _ _ 2 _ _ _ hev2
  have b3 := cell_of_row _ _ 3 _ _ _ hev2
  have b4 := cell_of_row _ _ 4 _ _ _ hev2
  clear hev2
  go_upto_region 14 with fail
  have hS0 : (fun w' : World => w'.cell? ⟨w.heap.size, 0, none⟩ = some (.int .i64 3)) W.drew.drew.drew := b0
  clear b0 b1 b2 b3 b4
  have hne : w.heap.size ≠ L := fun e => by
    have h1 := HL.out.life
    rw [← e, HEV.out] at h1
    cases h1
  refine hregion (fun w' : World => w'.cell? ⟨w.heap.size, 0, none⟩ = some (.int .i64 3)) hS0 (fun hHeld => ?_)
  have HH := Lib.hid hS0
  clear hS0
  generalize W.drew.drew.drew = V at *
  refine hd 0 (v := ?_) ?_ ?_; rotate_left; · rintro w hS; go_simp; try with_reducible rfl
  simp only [Act.put, pt1, pt2, pt3]
  refine hd 1 (v := ?_) ?_ ?_; rotate_left; · rintro w hS; go_simp; try with_reducible rfl
  simp only [Act.put, pt1, pt2, pt3]
  refine hd 2 (v := ?_) ?_ ?_; rotate_left; · rintro w hS; go_simp; try with_reducible rfl
  simp only [Act.put, pt1, pt2, pt3]
  refine hd 3 (v := ?_) ?_ ?_; rotate_left; · rintro w hS; go_simp; try with_reducible rfl
  simp only [Act.put, pt1, pt2, pt3]
  refine hd 4 (v := ?_) ?_ ?_; rotate_left; · rintro w hS; go_simp; try with_reducible rfl
  simp only [Act.put, pt1, pt2, pt3]
  refine hd 5 (v := ?_) ?_ ?_; rotate_left; · rintro w hS; go_simp; try with_reducible rfl
  simp only [Act.put, pt1, pt2, pt3]
  refine hd 6 (v := ?_) ?_ ?_; rotate_left; · rintro w hS; go_simp; try with_reducible rfl
  simp only [Act.put, pt1, pt2, pt3]
  refine hd 7 (v := ?_) ?_ ?_; rotate_left; · rintro w hS; go_simp; try with_reducible rfl
  simp only [Act.put, pt1, pt2, pt3]
  refine hcl 8 (fun K' hK => ?_)
  have l1 := cell_of_row _ _ 1 _ _ _ HL2.out.life
  have lf := frozen_of_row _ _ 1 _ _ HL2.out.life
  go_simp
  refine hK.out _ _ ?_ (fun hHeld => ?_)
  · exact (World.cell?_setCell_other _ _ _ _ (by simp)).trans HH.out
  clear hK K'
  try simp only [Act.put, pt1, pt2, pt3]
  refine hd 9 (v := ?_) ?_ ?_; rotate_left; · rintro w hS; go_simp; try with_reducible rfl
  simp only [Act.put, pt1, pt2, pt3]
  refine hd 10 (v := ?_) ?_ ?_; rotate_left; · rintro w hS; go_simp; try with_reducible rfl
  simp only [Act.put, pt1, pt2, pt3]
  refine hcl 11 (fun K' hK => ?_)
  have hx := heap_setCell_same V L 1 _ _ (.int .i64 2) HL2.out.life
  have l1 := cell_of_row _ _ 2 _ _ _ hx
  have lf := frozen_of_row _ _ 2 _ _ hx
  go_simp
  refine hK.out _ _ ?_ (fun hHeld => ?_)
  · exact (World.cell?_setCell_other _ _ _ _ (by simp)).trans hHeld
  clear hK K'
  try simp only [Act.put, pt1, pt2, pt3]
  refine hend ?_
  clear hHeld
  go_wp2_with fail
  go_ret
  exact ⟨rfl, HOV.out.1, HB2.out.trans HOV.out.2⟩
end Go.Proofs.YteflpdhgojcmcaaGreatDoor
namespace Go.Proofs.YteflpdhgojcmcaaGreatDoor
open Go.RowKit PSet PMat
theorem Life.again {B : Nat} {w : World} {A lb c L m1 m2 : Nat} {en : Int} {com : Bool} {e2 : Array MapEntry} {c2 : Nat} (h : Life B w A lb c L m1 m2 en com e2 c2) : Life B (w.setCell ⟨A, 0, none⟩ (.slice (some ⟨lb, 0, none⟩) 1 c)) A lb c L m1 m2 en com e2 c2 := by
  have hk : ∀ {k : Nat}, k ≠ A → (w.setCell ⟨A, 0, none⟩ (.slice (some ⟨lb, 0, none⟩) 1 c)).heap[k]? = w.heap[k]? := fun hk => heap_setCell_other _ ⟨A, 0, none⟩ _ _ hk
  have hm : ∀ {k : Nat} {e : Array MapEntry} {n : Nat}, w.heap[k]? = some (.map e n) → k ≠ A := fun hk' e => by
    rw [e, h.all] at hk'
    cases hk'
  have hl : L ≠ A := fun e => by
    have := h.life
    rw [e, h.all] at this
    cases this
  exact ⟨heap_setCell_same w A 0 _ _ _ h.all, ownsRow_setCell_other h.row (a := ⟨A, 0, none⟩) (owns_type h.row h.all (by decide)) _, (hk hl).trans h.life, h.base, h.ne, (hk (hm h.reads)).trans h.reads, (hk (hm h.writes)).trans h.writes⟩
/-- The fixed run's events. -/
def evs3 : List EvM := [⟨0, 1, 0, 0, 0⟩, ⟨2, 1, 0, 1, 7⟩, ⟨3, 1, 0, 0, 0⟩]
/-- A history in memory. -/
def HistAt (w : World) (b off : Nat) : Prop := b < w.heap.size ∧ w.rangeAt b off (evsC evs3)
theorem HistAt.below {w w' : World} {b off : Nat} (h : HistAt w b off) (hb : Below w.heap.size w w') : HistAt w' b off :=
  ⟨Nat.lt_of_lt_of_le h.1 hb.size, fun j v hj => (hb.cell (p := ⟨b, off + j, none⟩) h.1).trans (h.2 j v hj)⟩
/-- Two results: a slice that lies in memory, and one that doesn't. -/
theorem results_slice_tmp {fn : Func} {p t : Tmp} (h : fn.results = #[.cell p 243, .tmp t]) (tmps : Array Value) (w : World) (g : Nat) (a : Option Addr) (n c : Nat)
    (hg : w.cell? ⟨g, 0, none⟩ = some (.slice a n c)) (hp : tmps.getD p undef = .pointer (some ⟨g, 0, none⟩)) :
    (results fn tmps).run Tryz.prog w = .ok (.tuple #[.slice a n c, tmps.getD t undef]) w := by
  have hp' : tmps[p]?.getD undef = .pointer (some ⟨g, 0, none⟩) := by simpa using hp
  simp [results, h, hp', asAddr]
  go_simp
theorem HistAt.under {w w' : World} {b off B : Nat} (h : HistAt w b off) (hB : b < B) (hb : Below B w w') : HistAt w' b off :=
  ⟨Nat.lt_of_lt_of_le h.1 hb.size, fun j v hj => (hb.cell (p := ⟨b, off + j, none⟩) hB).trans (h.2 j v hj)⟩
set_option maxRecDepth 100000 in
theorem hiLived (b off cap : Nat) (w : World) (h : HistAt w b off) :
    Calls Tryz.prog 136 #[.slice (some ⟨b, off, none⟩) 3 cap] w fun en w' => ∃ A lb c L m1 m2, en = .returned (.tuple #[.slice (some ⟨lb, 0, none⟩) 1 c, .bool true]) ∧ Life w.heap.size w' A lb c L m1 m2 2 true ents1 1 ∧ Below w.heap.size w w' := by
  obtain ⟨W0, hW0⟩ : ∃ W0, W0 = w.alloc (.cells #[.slice none 0 0] 243) := ⟨_, rfl⟩
  have hb0 : Below w.heap.size w W0 := by rw [hW0]; exact (Below.refl _ _).alloc (Nat.le_refl _) _
  have hA0 : W0.heap[w.heap.size]? = some (.cells #[.slice none 0 0] 243 (0, 0)) := by rw [hW0]; exact Go.heap_alloc_new _ _
  have hbw := h.1
  have HH := Lib.hid (h.below hb0)
  have HB0 := Lib.hid hb0
  have HA0 := Lib.hid hA0
  clear h hb0 hA0
  go_enter Tryz.func136, Tryz.ntmps136
  go_upto_region 1 with fail
  rw [← hW0]
  clear hW0
  go_wp2_with fail
  refine wp_loop_rounds 4 ?_
  rw [rounds_succ]
  have c0 : W0.cell? ⟨b, off + 0, none⟩ = some (.int .i64 0) := HH.out.2 0 _ rfl
  have c1 : W0.cell? ⟨b, off + 1, none⟩ = some (.int .i64 1) := HH.out.2 1 _ rfl
  have c2 : W0.cell? ⟨b, off + 2, none⟩ = some (.int .i64 0) := HH.out.2 2 _ rfl
  have c3 : W0.cell? ⟨b, off + 3, none⟩ = some (.int .i64 0) := HH.out.2 3 _ rfl
  have c4 : W0.cell? ⟨b, off + 4, none⟩ = some (.int .i64 0) := HH.out.2 4 _ rfl
  simp only [Nat.add_zero] at c0
  go_upto_region 6 with fail
  have hby : Below W0.heap.size W0 (W0.alloc (.cells #[.int .i64 0, .int .i64 1, .int .i64 0, .int .i64 0, .int .i64 0] 193)) := (Below.refl _ _).alloc (Nat.le_refl _) _
  have hev := Go.heap_alloc_new W0 (.cells #[.int .i64 0, .int .i64 1, .int .i64 0, .int .i64 0, .int .i64 0] 193)
  generalize W0.alloc (.cells #[.int .i64 0, .int .i64 1, .int .i64 0, .int .i64 0, .int .i64 0] 193) = V0 at *
  have c0 := cell_of_row _ _ 0 _ _ _ hev
  have c1 := cell_of_row _ _ 1 _ _ _ hev
  have c2 := cell_of_row _ _ 2 _ _ _ hev
  have c3 := cell_of_row _ _ 3 _ _ _ hev
  have c4 := cell_of_row _ _ 4 _ _ _ hev
  have C := Lib.hid (take0 w.heap.size w.heap.size V0 ((hby.block _ (block_lt HA0.out)).trans HA0.out) (Nat.le_refl _) (Nat.le_trans HB0.out.size hby.size))
  have HH := Lib.hid (HH.out.below hby)
  have HBV := Lib.hid (HB0.out.trans (hby.mono HB0.out.size))
  clear HB0 HA0
  clear hby hev
  go_wp2_with fail
  refine (C.out).mono ?_
  rintro en y0 ⟨lb, c, L, m1, m2, rfl, hl, hbl⟩
  have HF := Lib.hid (And.intro hl (HBV.out.trans hbl))
  have HH := Lib.hid (HistAt.under HH.out hbw hbl)
  clear hl hbl C c0 c1 c2 c3 c4 HBV
  go_wp2_with fail
  rw [rounds_succ]
  have c0 : y0.cell? ⟨b, off + 5, none⟩ = some (.int .i64 2) := HH.out.2 5 _ rfl
  have c1 : y0.cell? ⟨b, off + 6, none⟩ = some (.int .i64 1) := HH.out.2 6 _ rfl
  have c2 : y0.cell? ⟨b, off + 7, none⟩ = some (.int .i64 0) := HH.out.2 7 _ rfl
  have c3 : y0.cell? ⟨b, off + 8, none⟩ = some (.int .i64 1) := HH.out.2 8 _ rfl
  have c4 : y0.cell? ⟨b, off + 9, none⟩ = some (.int .i64 7) := HH.out.2 9 _ rfl
  go_upto_region 6 with fail
  have hby : Below y0.heap.size y0 (y0.alloc (.cells #[.int .i64 2, .int .i64 1, .int .i64 0, .int .i64 1, .int .i64 7] 193)) := (Below.refl _ _).alloc (Nat.le_refl _) _
  have hev := Go.heap_alloc_new y0 (.cells #[.int .i64 2, .int .i64 1, .int .i64 0, .int .i64 1, .int .i64 7] 193)
  generalize y0.alloc (.cells #[.int .i64 2, .int .i64 1, .int .i64 0, .int .i64 1, .int .i64 7] 193) = V1 at *
  have c0 := cell_of_row _ _ 0 _ _ _ hev
  have c1 := cell_of_row _ _ 1 _ _ _ hev
  have c2 := cell_of_row _ _ 2 _ _ _ hev
  have c3 := cell_of_row _ _ 3 _ _ _ hev
  have c4 := cell_of_row _ _ 4 _ _ _ hev
  have C := Lib.hid (take1 w.heap.size w.heap.size lb c L m1 m2 V1 (HF.out.1.below hby))
  have HH := Lib.hid (HH.out.below hby)
  have HBV := Lib.hid (HF.out.2.trans (hby.mono HF.out.2.size))
  clear HF
  clear hby hev
  go_wp2_with fail
  refine (C.out).mono ?_
  rintro en y1 ⟨rfl, hl, hbl⟩
  have HF := Lib.hid (And.intro hl (HBV.out.trans hbl))
  have HH := Lib.hid (HistAt.under HH.out hbw hbl)
  clear hl hbl C c0 c1 c2 c3 c4 HBV
  go_wp2_with fail
  rw [rounds_succ]
  have c0 : y1.cell? ⟨b, off + 10, none⟩ = some (.int .i64 3) := HH.out.2 10 _ rfl
  have c1 : y1.cell? ⟨b, off + 11, none⟩ = some (.int .i64 1) := HH.out.2 11 _ rfl
  have c2 : y1.cell? ⟨b, off + 12, none⟩ = some (.int .i64 0) := HH.out.2 12 _ rfl
  have c3 : y1.cell? ⟨b, off + 13, none⟩ = some (.int .i64 0) := HH.out.2 13 _ rfl
  have c4 : y1.cell? ⟨b, off + 14, none⟩ = some (.int .i64 0) := HH.out.2 14 _ rfl
  go_upto_region 6 with fail
  have hby : Below y1.heap.size y1 (y1.alloc (.cells #[.int .i64 3, .int .i64 1, .int .i64 0, .int .i64 0, .int .i64 0] 193)) := (Below.refl _ _).alloc (Nat.le_refl _) _
  have hev := Go.heap_alloc_new y1 (.cells #[.int .i64 3, .int .i64 1, .int .i64 0, .int .i64 0, .int .i64 0] 193)
  generalize y1.alloc (.cells #[.int .i64 3, .int .i64 1, .int .i64 0, .int .i64 0, .int .i64 0] 193) = V2 at *
  have c0 := cell_of_row _ _ 0 _ _ _ hev
  have c1 := cell_of_row _ _ 1 _ _ _ hev
  have c2 := cell_of_row _ _ 2 _ _ _ hev
  have c3 := cell_of_row _ _ 3 _ _ _ hev
  have c4 := cell_of_row _ _ 4 _ _ _ hev
  have C := Lib.hid (take2 w.heap.size w.heap.size lb c L m1 m2 V2 (HF.out.1.below hby))
  have HH := Lib.hid (HH.out.below hby)
  have HBV := Lib.hid (HF.out.2.trans (hby.mono HF.out.2.size))
  clear HF
  clear hby hev
  go_wp2_with fail
  refine (C.out).mono ?_
  rintro en y2 ⟨rfl, hl, hbl⟩
  have HF := Lib.hid (And.intro hl (HBV.out.trans hbl))
  have HH := Lib.hid (HistAt.under HH.out hbw hbl)
  clear hl hbl C c0 c1 c2 c3 c4 HBV
  go_wp2_with fail
  rw [rounds_succ]
  have hag := HF.out.1.again
  have a0 := cell_of_row _ _ 0 _ _ _ HF.out.1.all
  have fA := frozen_of_row _ _ 0 _ _ HF.out.1.all
  have a1 := cell_of_row _ _ 0 _ _ _ hag.all
  have HG := Lib.hid (And.intro hag (HF.out.2.setCell (p := ⟨w.heap.size, 0, none⟩) (Nat.le_refl _) (.slice (some ⟨lb, 0, none⟩) 1 c)))
  clear hag HF
  go_wp2_with fail
  generalize y2.setCell ⟨w.heap.size, 0, none⟩ (.slice (some ⟨lb, 0, none⟩) 1 c) = y9 at *
  refine bodyPost_ret (results_slice_tmp rfl _ _ w.heap.size _ 1 c a1 rfl) rfl ?_
  exact ⟨_, lb, c, L, m1, m2, rfl, HG.out.1, HG.out.2⟩
end Go.Proofs.YteflpdhgojcmcaaGreatDoor
namespace Go.Proofs.YteflpdhgojcmcaaGreatDoor
open Go.RowKit PSet PMat
set_option maxRecDepth 100000 in
theorem hiRight (b off cap : Nat) (w : World) (h : HistAt w b off) :
    Calls Tryz.prog 91 #[.slice (some ⟨b, off, none⟩) 3 cap] w fun en w' => en = .returned (.bool true) ∧ Below w.heap.size w w' := by
  have C1 := Lib.hid (hiLived b off cap w h)
  clear h
  go_enter Tryz.func91, Tryz.ntmps91
  go_wp2_with fail
  refine (C1.out).mono ?_
  rintro en y ⟨A, lb, c, L, m1, m2, rfl, -, hby⟩
  have HB := Lib.hid hby
  clear hby
  go_wp2_with fail
  go_ret
  exact ⟨rfl, HB.out⟩
set_option maxRecDepth 100000 in
theorem hiIds (b off cap : Nat) (w : World) (h : HistAt w b off) :
    Calls Tryz.prog 88 #[.slice (some ⟨b, off, none⟩) 3 cap] w fun en w' => ∃ v, en = .returned v ∧ w'.ownsRow w.heap.size 3 1 v 1 [.int .i64 1] ∧ Below w.heap.size w w' := by
  have C1 := Lib.hid (hiLived b off cap w h)
  obtain ⟨i0, z0, hi, hz0, hz1, hz2, hz3⟩ := info_3
  clear h
  go_enter Tryz.func88, Tryz.ntmps88
  go_wp2_with fail
  refine (C1.out).mono ?_
  rintro en y ⟨A, lb, c, L, m1, m2, rfl, -, hby⟩
  have HB := Lib.hid hby
  have hwy := hby.size
  clear hby C1
  have hw1 : IntKind.i64.wrap (0 + 1) = 1 := rfl
  go_wp2_with fail
  refine wp_loop_rounds 2 ?_
  rw [rounds_succ]
  go_wp2_with (at_builtin; refine wpList_append_own _ rfl _ _ 77 rfl w.heap.size 3 i0 z0 1 8 Tryz.underlying77 hi hz0 hz1 hz2 hz3 (by decide) _ 0 [] rfl (World.ownsRow_nil _ _ _ _) ⟨y.heap.size, 0, none⟩ 1 1 [.int .i64 1] rfl rfl (by exact news_new y [.int .i64 1] 3) (by intro u hu; simp at hu; subst hu; rfl) (by unfold maxLen; omega) (by omega) (by simp; omega) ?_)
  intro v2 z2 hown2 hgrow _
  have hbZ : Below y.heap.size y (y.alloc (.cells #[.int .i64 1] 3)) := (Below.refl _ _).alloc (Nat.le_refl _) _
  have hs3 : Below (y.alloc (.cells #[.int .i64 1] 3)).heap.size (y.alloc (.cells #[.int .i64 1] 3)) z2 := Chg.to_below (F := fun _ => False) ((Chg.refl _ _).grown hgrow (fun k e => by cases e)) (Nat.le_refl _) (fun _ hi => hi.elim)
  have HF := Lib.hid (And.intro hown2 (HB.out.trans ((hbZ.trans (hs3.mono hbZ.size)).mono hwy)))
  clear hown2 hgrow hbZ hs3
  go_wp2_with fail
  rw [rounds_succ]
  go_wp2_with fail
  go_ret
  exact ⟨_, rfl, HF.out.1, HF.out.2⟩
set_option maxRecDepth 100000 in
theorem hiGraph (b off cap : Nat) (w : World) (h : HistAt w b off) :
    Calls Tryz.prog 86 #[.slice (some ⟨b, off, none⟩) 3 cap] w fun en w' => en = .returned (.tuple #[matV zeros, .bool true]) ∧ Below w.heap.size w w' := by
  obtain ⟨W, hW⟩ : ∃ W, W = w.alloc (.cells (numsV zeros) 140) := ⟨_, rfl⟩
  have hb : Below w.heap.size w W := by rw [hW]; exact (Below.refl _ _).alloc (Nat.le_refl _) _
  have hr : W.heap[w.heap.size]? = some (.cells (numsV zeros) 140 (0, 0)) := by rw [hW]; exact Go.heap_alloc_new _ _
  have C1 := Lib.hid (hiLived b off cap W (h.below hb))
  have HB := Lib.hid hb
  have HR := Lib.hid hr
  clear h hb hr
  go_enter Tryz.func86, Tryz.ntmps86
  go_upto_region 1 with fail
  change Code.wp _ _ _ _ (w.alloc (.cells (numsV zeros) 140))
  rw [← hW]
  clear hW
  go_wp2_with fail
  refine (C1.out).mono ?_
  rintro en y ⟨A, lb, c, L, m1, m2, rfl, -, hby⟩
  have HBY := Lib.hid (HB.out.trans (hby.mono HB.out.size))
  have HRY := Lib.hid ((hby.block _ (block_lt HR.out)).trans HR.out)
  clear hby C1 HB HR
  go_wp2_with fail
  refine wp_loop_rounds 2 ?_
  rw [rounds_succ]
  go_wp2_with fail
  refine wp_loop_rounds 2 ?_
  rw [rounds_succ]
  go_wp2_with fail
  rw [rounds_succ]
  go_wp2_with fail
  rw [rounds_succ]
  go_wp2_with (first | (refine wpList_load_row rfl 140 _ rfl w.heap.size rfl 140 _ (0, 0) _ HRY.out Tryz.underlying140 rfl (size_mat rfl) ?_) | (refine wpList_store_row rfl 140 _ _ rfl w.heap.size _ rfl rfl 140 _ HRY.out (size_mat rfl) rfl (one_numsV _) ?_) | fail)
  refine bodyPost_ret (results_cell_tmp rfl _ _ w.heap.size 140 _ (0, 0) _ rfl (block_setRow_same HRY.out) Tryz.underlying140 rfl (size_mat rfl)) rfl ⟨rfl, ?_⟩
  exact below_setRow' HBY.out (Nat.le_refl _) _
end Go.Proofs.YteflpdhgojcmcaaGreatDoor
