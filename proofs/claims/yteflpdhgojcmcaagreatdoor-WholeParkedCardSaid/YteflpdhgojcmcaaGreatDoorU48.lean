/- The walk of trial's One, of the fixed run's job. The walk of trial's Fits, at the fixed run. No conditions but those that each theorem names. -/
import Derived.Test.YteflpdhgojcmcaaGreatDoorU01
import Derived.Test.YteflpdhgojcmcaaGreatDoorU43
import Derived.Test.YteflpdhgojcmcaaGreatDoorU47
import Derived.Test.YteflpdhgojcmcaaGreatDoorU46
import Derived.Test.YteflpdhgojcmcaaGreatDoorU08
namespace Go.Proofs.YteflpdhgojcmcaaGreatDoor
open Go.RowKit PSet PMat
def regs7 : List Value := [.int .i64 2, .int .i64 0, .int .i64 1, .int .i64 7, .int .i64 0, .int .i64 0, .int .i64 0, .int .i64 0, .int .i64 0, .int .i64 0, .int .i64 0, .int .i64 0, .int .i64 0, .int .i64 0, .int .i64 0, .int .i64 0]
def res168 (tv : Value) : Array Value := #[.int .i64 0, .int .i64 3, .int .i64 2, .int .i64 0, .int .i64 1, .int .i64 7, .int .i64 0, .int .i64 0, .int .i64 0, .int .i64 0, .int .i64 0, .int .i64 0, .int .i64 0, .int .i64 0, .int .i64 0, .int .i64 0, .int .i64 0, .int .i64 0, tv]
theorem regs7_one : AllOne regs7 := by
  intro v hv
  simp [regs7] at hv
  rcases hv with rfl | rfl | rfl | rfl | rfl <;> rfl
theorem info_55 : ∃ i z, Tryz.prog.info? 55 = some i ∧ i.zero = some z ∧ i.size = 16 ∧ i.bytes = 128 ∧ z.cells.size = 16 := by
  have h : (Tryz.prog.info? 55).map (fun i => (i.size, i.bytes, i.zero.map fun z => z.cells.size)) = some (16, 128, some 16) := by kernel_rfl
  cases hi : Tryz.prog.info? 55 with
  | none => rw [hi] at h; cases h
  | some i =>
    rw [hi] at h
    simp only [Option.map_some, Option.some.injEq, Prod.mk.injEq] at h
    obtain ⟨h1, h2, h3⟩ := h
    cases hz : i.zero with
    | none => rw [hz] at h3; cases h3
    | some z =>
      rw [hz] at h3
      exact ⟨i, z, rfl, hz, h1, h2, by simpa using h3⟩
theorem res_range {w : World} {b : Nat} {tv : Value} (h : w.heap[b]? = some (.cells (res168 tv) 168 (0, 0))) : w.rangeAt b 2 regs7 := fun j v hj => by
  have hl : j < 16 := (List.getElem?_eq_some_iff.1 hj).1
  rw [cell_of_row _ _ _ _ _ _ h]
  rcases j with _ | _ | _ | _ | _ | _ | _ | _ | _ | _ | _ | _ | _ | _ | _ | _ | j <;> first | (exact hj) | omega
theorem job_regs {w : World} {d : Nat} {lv : Value} (h : w.heap[d]? = some (.cells (jobC lv 9).toArray 57 (0, 0))) : w.rangeAt d 1 [.int .i64 0, .int .i64 0, .int .i64 0, .int .i64 0, .int .i64 0, .int .i64 0, .int .i64 0, .int .i64 0, .int .i64 0, .int .i64 0, .int .i64 0, .int .i64 0, .int .i64 0, .int .i64 0, .int .i64 0, .int .i64 0] := fun j v hj => by
  have hl : j < 16 := (List.getElem?_eq_some_iff.1 hj).1
  rw [cell_of_row _ _ _ _ _ _ h]
  rcases j with _ | _ | _ | _ | _ | _ | _ | _ | _ | _ | _ | _ | _ | _ | _ | _ | j <;> first | (exact hj) | omega
set_option maxRecDepth 100000 in
set_option maxHeartbeats 1000000 in
theorem one43 (jb jc ob oc lb lc : Nat) (w : World) (hj : w.rangeAt jb 0 (jobC (.slice (some ⟨lb, 0, none⟩) 3 lc) 9)) (hjl : jb < w.heap.size) (ho : w.cell? ⟨ob, 0, none⟩ = some (.int .i64 1)) (hops : OpsAt w lb 0 (writerOps 0 6)) :
    Calls Tryz.prog 43 #[.slice (some ⟨jb, 0, none⟩) 1 jc, .slice (some ⟨ob, 0, none⟩) 1 oc, .int .i64 1] w fun e w' => ∃ vb vc rb rc, e = .returned (.agg #[.slice (some ⟨vb, 0, none⟩) 1 vc, .slice (some ⟨rb, 0, none⟩) 1 rc, .bool true]) ∧ (vb < w'.heap.size ∧ w'.rangeAt vb 0 [.int .i64 1, .int .i64 7]) ∧ (rb < w'.heap.size ∧ w'.rangeAt rb 0 regs7) ∧ Below w.heap.size w w' := by
  obtain ⟨W, hW⟩ : ∃ W, W = w.alloc (.cells #[.slice none 0 0, .slice none 0 0, .bool false] 110) := ⟨_, rfl⟩
  have hbW : Below w.heap.size w W := by rw [hW]; exact (Below.refl _ _).alloc (Nat.le_refl _) _
  have hrW : W.heap[w.heap.size]? = some (.cells #[.slice none 0 0, .slice none 0 0, .bool false] 110 (0, 0)) := by rw [hW]; exact Go.heap_alloc_new _ _
  have hol := block_lt_of_cell ho
  have C1 := Lib.hid (begin81 1 W (by decide) (by decide))
  have HJ := Lib.hid hj
  have HO := Lib.hid ho
  have HP := Lib.hid hops
  have HB := Lib.hid hbW
  have HR := Lib.hid hrW
  obtain ⟨i0, z0, hi, hz0, hz1, hz2, hz3⟩ := info_55
  clear hj ho hops hbW hrW
  go_enter Tryz.func43, Tryz.ntmps43
  go_upto_region 1 with fail
  rw [← hW]
  clear hW
  go_wp2_with fail
  refine (C1.out).mono ?_
  rintro en y ⟨v, rfl, hown, hby⟩
  obtain ⟨bb, bc, rfl, -, -, -, -⟩ := owns_block hown (by decide)
  have HOW := Lib.hid hown
  have HBY := Lib.hid (HB.out.trans (hby.mono HB.out.size))
  have HRY := Lib.hid ((hby.block _ (block_lt HR.out)).trans HR.out)
  clear hown hby C1 HB HR
  go_upto_region 2 with fail
  have hUo := Go.heap_alloc_new y (.cells #[.slice (some ⟨bb, 0, none⟩) 1 bc, .slice none 0 0, .bool false] 110)
  have hbU : Below y.heap.size y (y.alloc (.cells #[.slice (some ⟨bb, 0, none⟩) 1 bc, .slice none 0 0, .bool false] 110)) := (Below.refl _ _).alloc (Nat.le_refl _) _
  have hRo : w.heap.size < y.heap.size := block_lt HRY.out
  generalize y.alloc (.cells #[.slice (some ⟨bb, 0, none⟩) 1 bc, .slice none 0 0, .bool false] 110) = U at *
  have HU := Lib.hid (And.intro hUo (And.intro ((hbU.block _ (block_lt HRY.out)).trans HRY.out) (And.intro (owns_below HOW.out hbU) (HBY.out.trans (hbU.mono HBY.out.size)))))
  generalize y.heap.size = o at *
  have o0 := (HU.out.2.2.2.cell (p := ⟨ob, 0, none⟩) hol).trans HO.out
  obtain ⟨J, hJ⟩ : ∃ J, J = jobC (.slice (some ⟨lb, 0, none⟩) 3 lc) 9 := ⟨_, rfl⟩
  have HJU := Lib.hid (show U.rangeAt jb 0 J from by rw [hJ]; exact fun j v hj => (HU.out.2.2.2.cell (p := ⟨jb, 0 + j, none⟩) hjl).trans (HJ.out j v hj))
  have HI := Lib.hid (show (Tryz.prog.info? 57).map (·.size) = some J.length from by rw [hJ]; exact info57 _ _)
  have HIA := Lib.hid (show (Tryz.prog.info? 57).map (·.size) = some J.toArray.size from by rw [hJ]; exact info57a _ _)
  have HSZ := Lib.hid (show J.toArray.size = 18 from by rw [hJ]; rfl)
  have HONE := Lib.hid (show J.toArray.all (·.oneCell') = true from by rw [hJ]; exact all_of_one (jobC_one rfl 9))
  have HJE := Lib.hid hJ
  clear hUo hbU hJ HOW HBY HRY
  go_wp2_with fail
  refine wp_loop_rounds 2 ?_
  rw [rounds_succ]
  go_upto_region 8 with (first
    | (refine wpList_load_mid rfl 57 _ rfl jb 0 rfl J _ HJU.out Tryz.underlying57 rfl HI.out ?_)
    | (refine wpList_store_row rfl 57 _ _ rfl U.heap.size J.toArray rfl rfl 57 _ (Go.heap_alloc_new _ _) HIA.out (by rw [HSZ.out]; rfl) HONE.out ?_)
    | fail)
  have hx := block_setRow_same (cs := J.toArray) (Go.heap_alloc_new U (.cells #[.slice none 0 0, .int .i64 0, .int .i64 0, .int .i64 0, .int .i64 0, .int .i64 0, .int .i64 0, .int .i64 0, .int .i64 0, .int .i64 0, .int .i64 0, .int .i64 0, .int .i64 0, .int .i64 0, .int .i64 0, .int .i64 0, .int .i64 0, .int .i64 0] 57))
  have hbx : Below U.heap.size U ((U.alloc (.cells #[.slice none 0 0, .int .i64 0, .int .i64 0, .int .i64 0, .int .i64 0, .int .i64 0, .int .i64 0, .int .i64 0, .int .i64 0, .int .i64 0, .int .i64 0, .int .i64 0, .int .i64 0, .int .i64 0, .int .i64 0, .int .i64 0, .int .i64 0, .int .i64 0] 57)).setRow U.heap.size J.toArray) := below_setRow' ((Below.refl _ _).alloc (Nat.le_refl _) _) (Nat.le_refl _) _
  generalize (U.alloc (.cells #[.slice none 0 0, .int .i64 0, .int .i64 0, .int .i64 0, .int .i64 0, .int .i64 0, .int .i64 0, .int .i64 0, .int .i64 0, .int .i64 0, .int .i64 0, .int .i64 0, .int .i64 0, .int .i64 0, .int .i64 0, .int .i64 0, .int .i64 0, .int .i64 0] 57)).setRow U.heap.size J.toArray = X at *
  rw [HJE.out] at hx
  have hXo := (hbx.block _ (block_lt HU.out.1)).trans HU.out.1
  have HX := Lib.hid (And.intro hXo (And.intro ((hbx.block _ (block_lt HU.out.2.1)).trans HU.out.2.1) (And.intro (owns_below HU.out.2.2.1 hbx) (HU.out.2.2.2.trans (hbx.mono HU.out.2.2.2.size)))))
  generalize U.heap.size = d at *
  have d0 : X.cell? ⟨d, 0, none⟩ = some (.slice (some ⟨lb, 0, none⟩) 3 lc) := cell_of_row _ _ 0 _ _ _ hx
  have d17 : X.cell? ⟨d, 17, none⟩ = some (.int .i64 9) := cell_of_row _ _ 17 _ _ _ hx
  have x0 := cell_of_row _ _ 0 _ _ _ hXo
  have HJR := Lib.hid (job_regs hx)
  have C2 := Lib.hid (run82 lb 0 lc bc (some ⟨bb, 0, none⟩) X (HP.out.below HX.out.2.2.2))
  clear hx hbx hXo o0 HU HJU HI HIA HSZ HONE
  go_wp2_with (first
    | (refine wpList_load_mid rfl 55 _ rfl d 1 rfl [.int .i64 0, .int .i64 0, .int .i64 0, .int .i64 0, .int .i64 0, .int .i64 0, .int .i64 0, .int .i64 0, .int .i64 0, .int .i64 0, .int .i64 0, .int .i64 0, .int .i64 0, .int .i64 0, .int .i64 0, .int .i64 0] _ HJR.out Tryz.underlying55 rfl (by kernel_rfl) ?_)
    | fail)
  refine (C2.out).mono ?_
  rintro en y1 ⟨tv, rfl, hown, hby⟩
  obtain ⟨tg, tc, rfl, -, -, -, -⟩ := owns_block hown (by decide)
  have H1 := Lib.hid (And.intro ((hby.block _ (block_lt HX.out.1)).trans HX.out.1) (And.intro ((hby.block _ (block_lt HX.out.2.1)).trans HX.out.2.1) (And.intro (owns_below HX.out.2.2.1 hby) (And.intro (HX.out.2.2.2.trans (hby.mono HX.out.2.2.2.size)) hown))))
  clear hown hby C2 HX d0 d17 x0 HJR
  go_upto_region 9 with (first
    | (refine wpList_store_row rfl 168 _ _ rfl y1.heap.size (res168 (.slice (some ⟨tg, 0, none⟩) 1 tc)) rfl rfl 168 zero168 (Go.heap_alloc_new _ _) (by kernel_rfl) rfl (by kernel_rfl) ?_)
    | fail)
  have hy := block_setRow_same (cs := res168 (.slice (some ⟨tg, 0, none⟩) 1 tc)) (Go.heap_alloc_new y1 (.cells zero168 168))
  have hbY : Below y1.heap.size y1 ((y1.alloc (.cells zero168 168)).setRow y1.heap.size (res168 (.slice (some ⟨tg, 0, none⟩) 1 tc))) := below_setRow' ((Below.refl _ _).alloc (Nat.le_refl _) _) (Nat.le_refl _) _
  change Code.wp _ _ _ _ ((y1.alloc (.cells zero168 168)).setRow y1.heap.size (res168 (.slice (some ⟨tg, 0, none⟩) 1 tc)))
  generalize (y1.alloc (.cells zero168 168)).setRow y1.heap.size (res168 (.slice (some ⟨tg, 0, none⟩) 1 tc)) = Y at *
  have hYo := (hbY.block _ (block_lt H1.out.1)).trans H1.out.1
  have HY := Lib.hid (And.intro hYo (And.intro ((hbY.block _ (block_lt H1.out.2.1)).trans H1.out.2.1) (And.intro (owns_below H1.out.2.2.1 hbY) (And.intro (H1.out.2.2.2.1.trans (hbY.mono H1.out.2.2.2.1.size)) (And.intro (owns_below H1.out.2.2.2.2 hbY) hy)))))
  generalize y1.heap.size = rs at *
  have r0 : Y.cell? ⟨rs, 0, none⟩ = some (.int .i64 0) := cell_of_row _ _ 0 _ _ _ hy
  have r18 : Y.cell? ⟨rs, 18, none⟩ = some (.slice (some ⟨tg, 0, none⟩) 1 tc) := cell_of_row _ _ 18 _ _ _ hy
  have x0 := cell_of_row _ _ 0 _ _ _ hYo
  clear hy hbY hYo H1
  go_upto_region 11 with fail
  have hS0 : (fun w' : World => w'.cell? ⟨o, 0, none⟩ = some (.slice (some ⟨bb, 0, none⟩) 1 bc) ∧ w'.cell? ⟨rs, 18, none⟩ = some (.slice (some ⟨tg, 0, none⟩) 1 tc)) Y.drew := ⟨x0, r18⟩
  have C3 := Lib.hid (txnWrites (some step7) (.slice (some ⟨tg, 0, none⟩) 1 tc) Y.drew (RowAt.of_owns (owns_below HY.out.2.2.2.2.1 ((Below.refl _ Y).drew))) (fun s hs => by cases hs; decide))
  have HYd := Lib.hid (And.intro (show Y.drew.heap[o]? = _ from HY.out.1) (And.intro (show Y.drew.heap[w.heap.size]? = _ from HY.out.2.1) (And.intro (owns_below HY.out.2.2.1 ((Below.refl _ Y).drew)) (And.intro HY.out.2.2.2.1.drew (show Y.drew.heap[rs]? = _ from HY.out.2.2.2.2.2)))))
  clear r0 r18 x0 HY
  refine zRegion 11 (S := (fun w' : World => w'.cell? ⟨o, 0, none⟩ = some (.slice (some ⟨bb, 0, none⟩) 1 bc) ∧ w'.cell? ⟨rs, 18, none⟩ = some (.slice (some ⟨tg, 0, none⟩) 1 tc))) (by kernel_rfl) hS0 (fun hHeld => ?_)
  clear hS0
  refine zd 0 (v := ?_) ?_ ?_; rotate_left; · rintro w ⟨hS1, hS2⟩; go_simp; try with_reducible rfl
  simp only [Act.put, pt1, pt2, pt3]
  refine zd 1 (v := ?_) ?_ ?_; rotate_left; · rintro w ⟨hS1, hS2⟩; go_simp; try with_reducible rfl
  simp only [Act.put, pt1, pt2, pt3]
  refine zd 2 (v := ?_) ?_ ?_; rotate_left; · rintro w ⟨hS1, hS2⟩; go_simp; try with_reducible rfl
  simp only [Act.put, pt1, pt2, pt3]
  refine zd 3 (v := ?_) ?_ ?_; rotate_left; · rintro w ⟨hS1, hS2⟩; go_simp; try with_reducible rfl
  simp only [Act.put, pt1, pt2, pt3]
  refine zcl 4 (fun K' hK => ?_)
  go_simp
  go_at_call 84
  refine (C3.out).mono ?_
  rintro e z ⟨wv, rfl, hown, -, hby⟩
  have hown : z.ownsRow Y.drew.heap.size 155 4 wv 1 step7.cells := hown
  obtain ⟨wb, wc, rfl, -, hwl, hwr, -⟩ := owns_block hown (by decide)
  have H3 := Lib.hid (And.intro ((hby.block _ (block_lt HYd.out.1)).trans HYd.out.1) (And.intro ((hby.block _ (block_lt HYd.out.2.1)).trans HYd.out.2.1) (And.intro (owns_below HYd.out.2.2.1 hby) (And.intro (HYd.out.2.2.2.1.trans (hby.mono HYd.out.2.2.2.1.size)) ((hby.block _ (block_lt HYd.out.2.2.2.2)).trans HYd.out.2.2.2.2)))))
  have C4 := Lib.hid (does83 0 false (some ⟨bb, 0, none⟩) 1 bc wb wc _ z (by decide) (by decide) (RowAt.of_owns H3.out.2.2.1) (by intro v hv; simp [reps] at hv; rcases hv with rfl | rfl <;> rfl) hwl hwr)
  clear hown hby hwl hwr C3 HYd
  go_wp2_with fail
  refine hK.out _ _ ?_ (fun hHeld => ?_)
  · exact ⟨cell_of_row _ _ 0 _ _ _ H3.out.1, cell_of_row _ _ 18 _ _ _ H3.out.2.2.2.2⟩
  clear hK K'
  try simp only [Act.put, pt1, pt2, pt3]
  refine zd 5 (v := ?_) ?_ ?_; rotate_left; · rintro w ⟨hS1, hS2⟩; go_simp; try with_reducible rfl
  simp only [Act.put, pt1, pt2, pt3]
  refine zcl 6 (fun K' hK => ?_)
  go_simp
  go_at_call 83
  refine (C4.out).mono ?_
  rintro e z2 ⟨v2, rfl, hown, hby⟩
  obtain ⟨vb, vc, rfl, -, -, -, -⟩ := owns_block hown (by decide)
  have H4 := Lib.hid (And.intro ((hby.block _ (block_lt H3.out.1)).trans H3.out.1) (And.intro ((hby.block _ (block_lt H3.out.2.1)).trans H3.out.2.1) (And.intro hown (And.intro (H3.out.2.2.2.1.trans (hby.mono H3.out.2.2.2.1.size)) ((hby.block _ (block_lt H3.out.2.2.2.2)).trans H3.out.2.2.2.2)))))
  have hz : w.heap.size ≤ z.heap.size := H3.out.2.2.2.1.size
  clear hown hby C4 H3
  go_wp2_with fail
  refine hK.out _ _ ?_ (fun hHeld => ?_)
  · exact ⟨cell_of_row _ _ 0 _ _ _ H4.out.1, cell_of_row _ _ 18 _ _ _ H4.out.2.2.2.2⟩
  clear hK K'
  try simp only [Act.put, pt1, pt2, pt3]
  refine zd 7 (v := ?_) ?_ ?_; rotate_left; · rintro w ⟨hS1, hS2⟩; go_simp; try with_reducible rfl
  simp only [Act.put, pt1, pt2, pt3]
  refine zd 8 (v := ?_) ?_ ?_; rotate_left; · rintro w ⟨hS1, hS2⟩; go_simp; try with_reducible rfl
  simp only [Act.put, pt1, pt2, pt3]
  refine zp 9 (v := ?_) ?_ ?_; rotate_left; · intro w; go_simp; try with_reducible rfl
  simp only [Act.put, pt1, pt2, pt3]
  refine zd 10 (v := ?_) ?_ ?_; rotate_left; · rintro w ⟨hS1, hS2⟩; go_simp; try with_reducible rfl
  simp only [Act.put, pt1, pt2, pt3]
  have x0 := cell_of_row _ _ 0 _ _ _ H4.out.1
  have f0 := frozen_of_row _ _ 0 _ _ H4.out.1
  refine zla (fun K' hK => ?_)
  go_simp
  have g1 := heap_setCell_same z2 o 0 _ _ (.slice (some ⟨vb, 0, none⟩) 1 vc) H4.out.1
  have n1 : w.heap.size ≠ o := by omega
  have n2 : rs ≠ o := blk_ne H4.out.2.2.2.2 H4.out.1 (by decide)
  have g2 := (heap_setCell_other z2 ⟨o, 0, none⟩ w.heap.size (.slice (some ⟨vb, 0, none⟩) 1 vc) n1).trans H4.out.2.1
  have g3 := ownsRow_setCell_other H4.out.2.2.1 (a := ⟨o, 0, none⟩) (owns_type H4.out.2.2.1 H4.out.1 (by decide)) (.slice (some ⟨vb, 0, none⟩) 1 vc)
  have g4 := H4.out.2.2.2.1.setCell (p := ⟨o, 0, none⟩) (Nat.le_of_lt hRo) (.slice (some ⟨vb, 0, none⟩) 1 vc)
  have g5 := (heap_setCell_other z2 ⟨o, 0, none⟩ rs (.slice (some ⟨vb, 0, none⟩) 1 vc) n2).trans H4.out.2.2.2.2
  generalize z2.setCell ⟨o, 0, none⟩ (.slice (some ⟨vb, 0, none⟩) 1 vc) = V at *
  have H5 := Lib.hid (And.intro g1 (And.intro g2 (And.intro g3 (And.intro g4 g5))))
  clear g1 g2 g3 g4 g5 x0 f0 n1 n2
  refine hK.out _ _ ?_
  clear hK K'
  try simp only [Act.put, pt1, pt2, pt3]
  have x1 := cell_of_row _ _ 1 _ _ _ H5.out.1
  have HRG := Lib.hid (res_range H5.out.2.2.2.2)
  have hwV := H5.out.2.2.2.1.size
  go_wp2_with (first
    | (refine wpList_load_mid rfl 55 _ rfl rs 2 rfl regs7 _ HRG.out Tryz.underlying55 rfl (by kernel_rfl) ?_; simp only [regs7])
    | (at_builtin; refine wpList_append_own _ rfl _ _ 108 rfl w.heap.size 55 i0 z0 16 128 Tryz.underlying108 hi hz0 hz1 hz2 hz3 (by decide) _ 0 [] rfl (World.ownsRow_nil _ _ _ _) ⟨V.heap.size, 0, none⟩ 1 1 regs7 rfl rfl (by exact news_new V regs7 55) regs7_one (by unfold maxLen; omega) (by omega) (by simp; omega) ?_)
    | fail)
  intro v3 z3 hown3 hgrow _
  obtain ⟨rb, rc, rfl, -, hrl, hrr, -⟩ := owns_block hown3 (by decide)
  have hbZ : Below V.heap.size V (V.alloc (.cells #[.int .i64 2, .int .i64 0, .int .i64 1, .int .i64 7, .int .i64 0, .int .i64 0, .int .i64 0, .int .i64 0, .int .i64 0, .int .i64 0, .int .i64 0, .int .i64 0, .int .i64 0, .int .i64 0, .int .i64 0, .int .i64 0] 55)) := (Below.refl _ _).alloc (Nat.le_refl _) _
  have hs3 : Below (V.alloc (.cells #[.int .i64 2, .int .i64 0, .int .i64 1, .int .i64 7, .int .i64 0, .int .i64 0, .int .i64 0, .int .i64 0, .int .i64 0, .int .i64 0, .int .i64 0, .int .i64 0, .int .i64 0, .int .i64 0, .int .i64 0, .int .i64 0] 55)).heap.size (V.alloc (.cells #[.int .i64 2, .int .i64 0, .int .i64 1, .int .i64 7, .int .i64 0, .int .i64 0, .int .i64 0, .int .i64 0, .int .i64 0, .int .i64 0, .int .i64 0, .int .i64 0, .int .i64 0, .int .i64 0, .int .i64 0, .int .i64 0] 55)) z3 := Chg.to_below (F := fun _ => False) ((Chg.refl _ _).grown hgrow (fun k e => by cases e)) (Nat.le_refl _) (fun _ hi => hi.elim)
  have hbz := hbZ.trans (hs3.mono hbZ.size)
  have H6 := Lib.hid (And.intro ((hbz.block _ (block_lt H5.out.1)).trans H5.out.1) (And.intro ((hbz.block _ (block_lt H5.out.2.1)).trans H5.out.2.1) (And.intro (owns_below H5.out.2.2.1 hbz) (And.intro (H5.out.2.2.2.1.trans (hbz.mono hwV)) hown3))))
  clear hown3 hgrow hbZ hs3 hbz hrl hrr HRG x1
  have x1 := cell_of_row _ _ 1 _ _ _ H6.out.1
  have f1 := frozen_of_row _ _ 1 _ _ H6.out.1
  go_upto_region 13 with fail
  have g1 := heap_setCell_same z3 o 1 _ _ (.slice (some ⟨rb, 0, none⟩) 1 rc) H6.out.1
  have n1 : w.heap.size ≠ o := by omega
  have g2 := (heap_setCell_other z3 ⟨o, 1, none⟩ w.heap.size (.slice (some ⟨rb, 0, none⟩) 1 rc) n1).trans H6.out.2.1
  have g3 := ownsRow_setCell_other H6.out.2.2.1 (a := ⟨o, 1, none⟩) (owns_type H6.out.2.2.1 H6.out.1 (by decide)) (.slice (some ⟨rb, 0, none⟩) 1 rc)
  have g4 := H6.out.2.2.2.1.setCell (p := ⟨o, 1, none⟩) (Nat.le_of_lt hRo) (.slice (some ⟨rb, 0, none⟩) 1 rc)
  have g5 := ownsRow_setCell_other H6.out.2.2.2.2 (a := ⟨o, 1, none⟩) (owns_type H6.out.2.2.2.2 H6.out.1 (by decide)) (.slice (some ⟨rb, 0, none⟩) 1 rc)
  generalize z3.setCell ⟨o, 1, none⟩ (.slice (some ⟨rb, 0, none⟩) 1 rc) = V2 at *
  have H7 := Lib.hid (And.intro g1 (And.intro g2 (And.intro g3 (And.intro g4 g5))))
  clear g1 g2 g3 g4 g5 x1 f1 H6
  have x2 := cell_of_row _ _ 2 _ _ _ H7.out.1
  have f2 := frozen_of_row _ _ 2 _ _ H7.out.1
  go_wp2_with fail
  rw [rounds_succ]
  go_upto_region 15 with fail
  have g1 := heap_setCell_same V2 o 2 _ _ (.bool true) H7.out.1
  have g2 := (heap_setCell_other V2 ⟨o, 2, none⟩ w.heap.size (.bool true) n1).trans H7.out.2.1
  have g3 := ownsRow_setCell_other H7.out.2.2.1 (a := ⟨o, 2, none⟩) (owns_type H7.out.2.2.1 H7.out.1 (by decide)) (.bool true)
  have g4 := H7.out.2.2.2.1.setCell (p := ⟨o, 2, none⟩) (Nat.le_of_lt hRo) (.bool true)
  have g5 := ownsRow_setCell_other H7.out.2.2.2.2 (a := ⟨o, 2, none⟩) (owns_type H7.out.2.2.2.2 H7.out.1 (by decide)) (.bool true)
  generalize V2.setCell ⟨o, 2, none⟩ (.bool true) = V3 at *
  have g1 : V3.heap[o]? = some (.cells #[.slice (some ⟨vb, 0, none⟩) 1 vc, .slice (some ⟨rb, 0, none⟩) 1 rc, .bool true] 110 (0, 0)) := g1
  have H8 := Lib.hid (And.intro g1 (And.intro g2 (And.intro g3 (And.intro g4 g5))))
  clear g1 g2 g3 g4 g5 x2 f2 H7
  go_wp2_with (first
    | (refine wpList_load_row rfl 110 _ rfl o rfl 110 _ (0, 0) _ H8.out.1 Tryz.underlying110 rfl (by kernel_rfl) ?_)
    | (refine wpList_store_row rfl 110 _ _ rfl w.heap.size #[.slice (some ⟨vb, 0, none⟩) 1 vc, .slice (some ⟨rb, 0, none⟩) 1 rc, .bool true] rfl rfl 110 _ H8.out.2.1 (by kernel_rfl) rfl (by kernel_rfl) ?_)
    | fail)
  have e1 := owns_chg (F := fun b => b = w.heap.size) H8.out.2.2.1 (Chg.setRow (F := fun b => b = w.heap.size) (Chg.refl _ _) (g := w.heap.size) (.inl rfl) #[.slice (some ⟨vb, 0, none⟩) 1 vc, .slice (some ⟨rb, 0, none⟩) 1 rc, .bool true]) (fun b cs hf hs => by subst hf; exact blk_ne H8.out.2.1 hs (by decide) rfl)
  have e2 := owns_chg (F := fun b => b = w.heap.size) H8.out.2.2.2.2 (Chg.setRow (F := fun b => b = w.heap.size) (Chg.refl _ _) (g := w.heap.size) (.inl rfl) #[.slice (some ⟨vb, 0, none⟩) 1 vc, .slice (some ⟨rb, 0, none⟩) 1 rc, .bool true]) (fun b cs hf hs => by subst hf; exact blk_ne H8.out.2.1 hs (by decide) rfl)
  obtain ⟨-, p1, p2, -⟩ := owns_at e1 (by decide)
  obtain ⟨-, q1, q2, -⟩ := owns_at e2 (by decide)
  refine bodyPost_ret (results_cell_row rfl _ _ w.heap.size 110 #[.slice (some ⟨vb, 0, none⟩) 1 vc, .slice (some ⟨rb, 0, none⟩) 1 rc, .bool true] (0, 0) _ rfl (block_setRow_same H8.out.2.1) Tryz.underlying110 rfl (by kernel_rfl)) rfl ⟨_, _, _, _, rfl, ⟨p1, p2⟩, ⟨q1, q2⟩, below_setRow' H8.out.2.2.2.1 (Nat.le_refl _) _⟩
end Go.Proofs.YteflpdhgojcmcaaGreatDoor
namespace Go.Proofs.YteflpdhgojcmcaaGreatDoor
open Go.RowKit PSet PMat
/-- What the fixed run leaves of a world. -/
structure Fixed (M : WorM) (m : SeatM) (e0 : EntM) : Prop where
  seats : M.seats = [m]
  ops : m.thr.ops = writerOps 0 6
  fuel : m.thr.fuel = 9
  state : m.thr.state = 3
  id : m.thr.id = 1
  regs : m.thr.cpu.regs = [(2, 0), (1, 7), (0, 0), (0, 0), (0, 0), (0, 0), (0, 0), (0, 0)]
  live : M.eng.live = none
  log : M.eng.log = [e0]
  eid : e0.id = 1
  com : e0.com = true
  vals : M.eng.vals = [(1, 7)]
set_option maxRecDepth 100000 in
set_option maxHeartbeats 1000000 in
theorem fits20 (B : Nat) (w : World) (q g : Nat) (M : WorM) (m : SeatM) (e0 : EntM) (h : WorS ⟨false, g⟩ B w q M) (hf : Fixed M m e0) :
    Calls Tryz.prog 20 #[.pointer (some ⟨q, 0, none⟩)] w fun en w' => en = .returned (.bool true) ∧ Below w.heap.size w w' := by
  have hfew : m.thr.ops.length ≤ 100000 := by rw [hf.ops]; decide
  have C1 := Lib.hid (order42 B w q g M m e0 h hf.seats hfew hf.state hf.id hf.live hf.log hf.eid hf.com)
  have HW := Lib.hid h
  have HF := Lib.hid hf
  have HN := Lib.hid hfew
  clear h hf hfew
  go_enter Tryz.func20, Tryz.ntmps20
  go_wp2_with fail
  refine (C1.out).mono ?_
  rintro en y ⟨v, rfl, hown, hby⟩
  obtain ⟨ob, oc, rfl, -, -, hr, -⟩ := owns_block hown (by decide)
  have o0 : y.cell? ⟨ob, 0, none⟩ = some (.int .i64 1) := hr 0 _ rfl
  have hol := block_lt_of_cell o0
  have c2 := scValues (HW.out.later hby)
  rw [HF.out.vals] at c2
  have C2 := Lib.hid c2
  have HB := Lib.hid hby
  have HO := Lib.hid o0
  clear c2 hown hr hby C1 o0
  go_wp2_with fail
  refine (C2.out).mono ?_
  rintro en y2 ⟨v, rfl, hown, hby⟩
  obtain ⟨nb, nc, rfl, -, -, hr, -⟩ := owns_block hown (by decide)
  have n0 : y2.cell? ⟨nb, 0, none⟩ = some (.int .i64 1) := hr 0 _ rfl
  have n1 : y2.cell? ⟨nb, 1, none⟩ = some (.int .i64 7) := hr 1 _ rfl
  have hnl := block_lt_of_cell n0
  have HB2 := Lib.hid (HB.out.trans (hby.mono HB.out.size))
  have HO2 := Lib.hid ((hby.cell (p := ⟨ob, 0, none⟩) hol).trans HO.out)
  have hol := block_lt_of_cell HO2.out
  have HN2 := Lib.hid (And.intro n0 n1)
  have c3 := scJobs m (HW.out.later HB2.out) HF.out.seats HN.out
  rw [HF.out.ops, HF.out.fuel] at c3
  have C3 := Lib.hid c3
  clear c3 hown hr hby C2 HB HO n0 n1
  simp only [List.length_cons, List.length_nil, Nat.zero_add]
  go_wp2_with fail
  refine (C3.out).mono ?_
  rintro en y3 ⟨v, lv, rfl, hown, hops, hby⟩
  obtain ⟨jb, jc, rfl, -, hjl, hr, -⟩ := owns_block hown (by decide)
  obtain ⟨lb, lc, rfl, -, hll, hlr, -⟩ := owns_block hops (by decide)
  have o3 := (hby.cell (p := ⟨ob, 0, none⟩) hol).trans HO2.out
  have C4 := Lib.hid (one43 jb jc ob oc lb lc y3 hr hjl o3 (ops_of_range hll hlr))
  have HB3 := Lib.hid (HB2.out.trans (hby.mono HB2.out.size))
  have HN3 := Lib.hid (And.intro ((hby.cell (p := ⟨nb, 0, none⟩) hnl).trans HN2.out.1) ((hby.cell (p := ⟨nb, 1, none⟩) hnl).trans HN2.out.2))
  have hnl := block_lt_of_cell HN3.out.1
  have HO3 := Lib.hid o3
  have hol := block_lt_of_cell o3
  clear hown hops hr hlr hby C3 HO2 HN2 HB2 o3 hjl hll
  go_wp2_with fail
  refine (C4.out).mono ?_
  rintro en y4 ⟨vb, vc, rb, rc, rfl, ⟨hvl, hvr⟩, ⟨hrl, hrr⟩, hby⟩
  have HB4 := Lib.hid (HB3.out.trans (hby.mono HB3.out.size))
  have HN4 := Lib.hid (And.intro ((hby.cell (p := ⟨nb, 0, none⟩) hnl).trans HN3.out.1) ((hby.cell (p := ⟨nb, 1, none⟩) hnl).trans HN3.out.2))
  have HO4 := Lib.hid ((hby.cell (p := ⟨ob, 0, none⟩) hol).trans HO3.out)
  have HV4 := Lib.hid (And.intro hvl (And.intro hvr (And.intro hrl hrr)))
  have hnl := block_lt_of_cell HN4.out.1
  have hol := block_lt_of_cell HO4.out
  clear hby hvl hvr hrl hrr C4 HB3 HN3 HO3
  go_upto_region 3 with fail
  have hd := Go.heap_alloc_new y4 (.cells #[.slice (some ⟨vb, 0, none⟩) 1 vc, .slice (some ⟨rb, 0, none⟩) 1 rc, .bool true] 110)
  have hbZ : Below y4.heap.size y4 (y4.alloc (.cells #[.slice (some ⟨vb, 0, none⟩) 1 vc, .slice (some ⟨rb, 0, none⟩) 1 rc, .bool true] 110)) := (Below.refl _ _).alloc (Nat.le_refl _) _
  generalize y4.alloc (.cells #[.slice (some ⟨vb, 0, none⟩) 1 vc, .slice (some ⟨rb, 0, none⟩) 1 rc, .bool true] 110) = Z at *
  have HBZ := Lib.hid (HB4.out.trans (hbZ.mono HB4.out.size))
  have hvZ : Z.rangeAt vb 0 [.int .i64 1, .int .i64 7] := fun j v hj => (hbZ.cell (p := ⟨vb, 0 + j, none⟩) HV4.out.1).trans (HV4.out.2.1 j v hj)
  have hrZ : Z.rangeAt rb 0 regs7 := fun j v hj => (hbZ.cell (p := ⟨rb, 0 + j, none⟩) HV4.out.2.2.1).trans (HV4.out.2.2.2 j v hj)
  have hrbl : rb < Z.heap.size := Nat.lt_of_lt_of_le HV4.out.2.2.1 hbZ.size
  have C5 := Lib.hid (equal44 vb nb vc nc Z (hvZ 0 _ rfl) ((hbZ.cell (p := ⟨nb, 0, none⟩) hnl).trans HN4.out.1) (hvZ 1 _ rfl) ((hbZ.cell (p := ⟨nb, 1, none⟩) hnl).trans HN4.out.2))
  have HOZ := Lib.hid ((hbZ.cell (p := ⟨ob, 0, none⟩) hol).trans HO4.out)
  have HRZ := Lib.hid (And.intro hd (And.intro hrZ hrbl))
  have holz := block_lt_of_cell HOZ.out
  clear hol hnl
  have d0 := cell_of_row _ _ 0 _ _ _ hd
  have d2 := cell_of_row _ _ 2 _ _ _ hd
  generalize y4.heap.size = o at *
  clear hd hbZ hvZ hrZ hrbl HV4 HN4 HB4 HO4
  go_wp2_with fail
  refine (C5.out).mono ?_
  rintro en y5 ⟨rfl, hby⟩
  have HB5 := Lib.hid (HBZ.out.trans (hby.mono HBZ.out.size))
  have HO5 := Lib.hid ((hby.cell (p := ⟨ob, 0, none⟩) holz).trans HOZ.out)
  have hol := block_lt_of_cell HO5.out
  have HR5 := Lib.hid (And.intro ((hby.block _ (block_lt HRZ.out.1)).trans HRZ.out.1) (And.intro (show y5.rangeAt rb 0 regs7 from fun j v hj => (hby.cell (p := ⟨rb, 0 + j, none⟩) HRZ.out.2.2).trans (HRZ.out.2.1 j v hj)) (Nat.lt_of_lt_of_le HRZ.out.2.2 hby.size)))
  have C6 := Lib.hid (done45 m (HW.out.later HB5.out) HF.out.seats HN.out HF.out.state HF.out.id)
  clear hby C5 HBZ HOZ HRZ d0 d2
  go_wp2_with fail
  refine (C6.out).mono ?_
  rintro en y6 ⟨mb, rfl, hmb, hby⟩
  have hmb' : y6.heap[mb]? = some (.map #[{ key := .int .i64 1, val := .int .i64 1, born := 0 }] 1) := hmb
  have HB6 := Lib.hid (HB5.out.trans (hby.mono HB5.out.size))
  have HO6 := Lib.hid ((hby.cell (p := ⟨ob, 0, none⟩) hol).trans HO5.out)
  have HR6 := Lib.hid (And.intro ((hby.block _ (block_lt HR5.out.1)).trans HR5.out.1) (And.intro (show y6.rangeAt rb 0 regs7 from fun j v hj => (hby.cell (p := ⟨rb, 0 + j, none⟩) HR5.out.2.2).trans (HR5.out.2.1 j v hj)) (Nat.lt_of_lt_of_le HR5.out.2.2 hby.size)))
  clear hby hmb C6 HB5 HO5 HR5
  have hlen := run_len_map (P := Tryz.prog) (w := y6) 32 3 mb _ 1 (by kernel_rfl) hmb'
  simp only [List.size_toArray, List.length_cons, List.length_nil, Nat.zero_add] at hlen
  clear hmb'
  have o0 := HO6.out
  go_wp2_with fail
  clear hlen
  refine wp_loop_rounds 2 ?_
  rw [rounds_succ]
  go_upto_region 8 with fail
  have hR8 : y6.drew.heap[o]? = some (.cells #[.slice (some ⟨vb, 0, none⟩) 1 vc, .slice (some ⟨rb, 0, none⟩) 1 rc, .bool true] 110 (0, 0)) := HR6.out.1
  have hW8 := HW.out.later HB6.out.drew
  obtain ⟨t, r, hth, -, hc10⟩ := scThreadM hW8 0 m (by rw [HF.out.seats]; rfl)
  have C7 := Lib.hid (contains46_empty (.int .i64 1) (some ⟨ob, 0, none⟩) oc y6.drew)
  have C8 := Lib.hid hc10
  have C9 := Lib.hid (thRegs B y6.drew t r m.thr 2 0 1 7 0 0 0 0 0 0 0 0 0 0 0 0 hth HF.out.regs)
  have hS0 : (fun w' : World => w'.cell? ⟨o, 1, none⟩ = some (.slice (some ⟨rb, 0, none⟩) 1 rc) ∧ w'.rangeAt rb 0 regs7) y6.drew := ⟨cell_of_row _ _ 1 _ _ _ hR8, HR6.out.2.1⟩
  have HR8 := Lib.hid (And.intro hR8 (And.intro hS0.2 (show rb < y6.drew.heap.size from HR6.out.2.2)))
  have HB8 := Lib.hid HB6.out.drew
  clear hR8 hW8 hth hc10 o0 HR6 HB6 HO6
  refine hregion (fun w' : World => w'.cell? ⟨o, 1, none⟩ = some (.slice (some ⟨rb, 0, none⟩) 1 rc) ∧ w'.rangeAt rb 0 regs7) hS0 (fun hHeld => ?_)
  clear hS0
  refine hd 0 (v := ?_) ?_ ?_; rotate_left; · rintro w ⟨hS1, hS2⟩; go_simp; try with_reducible rfl
  simp only [Act.put, pt1, pt2, pt3]
  refine hd 1 (v := ?_) ?_ ?_; rotate_left; · rintro w ⟨hS1, hS2⟩; go_simp; try with_reducible rfl
  simp only [Act.put, pt1, pt2, pt3]
  refine hd 2 (v := ?_) ?_ ?_; rotate_left; · rintro w ⟨hS1, hS2⟩; go_simp; try with_reducible rfl
  simp only [Act.put, pt1, pt2, pt3]
  refine hd 3 (v := ?_) ?_ ?_; rotate_left; · rintro w ⟨hS1, hS2⟩; go_simp; try with_reducible rfl
  simp only [Act.put, pt1, pt2, pt3]
  refine hcl 4 (fun K' hK => ?_)
  go_simp
  go_at_call 46
  refine (C7.out).mono ?_
  rintro e z ⟨rfl, rfl⟩
  go_wp2_with fail
  refine hK.out _ _ ?_ (fun hHeld => ?_)
  · exact hHeld
  clear hK K'
  try simp only [Act.put, pt1, pt2, pt3]
  refine hd 5 (v := ?_) ?_ ?_; rotate_left; · rintro w ⟨hS1, hS2⟩; go_simp; try with_reducible rfl
  simp only [Act.put, pt1, pt2, pt3]
  refine hd 6 (v := ?_) ?_ ?_; rotate_left; · rintro w ⟨hS1, hS2⟩; go_simp; try with_reducible rfl
  simp only [Act.put, pt1, pt2, pt3]
  refine hd 7 (v := ?_) ?_ ?_; rotate_left; · rintro w ⟨hS1, hS2⟩; go_simp; try with_reducible rfl
  simp only [Act.put, pt1, pt2, pt3]
  refine hd 10 (v := ?_) ?_ ?_; rotate_left; · rintro w ⟨hS1, hS2⟩; go_simp; try with_reducible rfl
  simp only [Act.put, pt1, pt2, pt3]
  refine hd 11 (v := ?_) ?_ ?_; rotate_left; · rintro w ⟨hS1, hS2⟩; go_simp; try with_reducible rfl
  simp only [Act.put, pt1, pt2, pt3]
  refine hd 12 (v := ?_) ?_ ?_; rotate_left; · rintro w ⟨hS1, hS2⟩; go_simp; try with_reducible rfl
  simp only [Act.put, pt1, pt2, pt3]
  refine hd 13 (v := ?_) ?_ ?_; rotate_left; · rintro w ⟨hS1, hS2⟩; go_simp; try with_reducible rfl
  simp only [Act.put, pt1, pt2, pt3]
  refine held_long 14 55 _ rb 0 regs7 _ rfl rfl (by kernel_rfl) (by kernel_rfl) (by kernel_rfl) (fun _ _ _ h => h) (by rfl) rfl Tryz.underlying55 rfl (by kernel_rfl) (fun _ h => h.2) (by assumption) ?_
  simp only [Act.put, pt1, pt2, pt3]
  refine hcl 8 (fun K' hK => ?_)
  go_simp
  go_at_call 10
  refine (C8.out).mono ?_
  rintro e z ⟨rfl, rfl⟩
  go_wp2_with fail
  refine hK.out _ _ ?_ (fun hHeld => ?_)
  · exact hHeld
  clear hK K'
  try simp only [Act.put, pt1, pt2, pt3]
  refine hcl 9 (fun K' hK => ?_)
  go_simp
  go_at_call 18
  refine (C9.out).mono ?_
  rintro e z ⟨rfl, hby⟩
  have HB9 := Lib.hid (HB8.out.trans (hby.mono HB8.out.size))
  have hro := (hby.block _ (block_lt HR8.out.1)).trans HR8.out.1
  have hrr : z.rangeAt rb 0 regs7 := fun j v hj => (hby.cell (p := ⟨rb, 0 + j, none⟩) HR8.out.2.2).trans (HR8.out.2.1 j v hj)
  have HR9 := Lib.hid (And.intro hro hrr)
  clear hby hro hrr
  go_wp2_with fail
  refine hK.out _ _ ?_ (fun hHeld => ?_)
  · exact ⟨cell_of_row _ _ 1 _ _ _ HR9.out.1, HR9.out.2⟩
  clear hK K'
  try simp only [Act.put, pt1, pt2, pt3]
  refine hd 15 (v := .bool false) (fun _ _ => by kernel_rfl) ?_
  simp only [Act.put, pt1, pt2, pt3]
  refine hd 16 (v := ?_) ?_ ?_; rotate_left; · rintro w ⟨hS1, hS2⟩; go_simp; try with_reducible rfl
  simp only [Act.put, pt1, pt2, pt3]
  refine hend ?_
  clear hHeld
  go_wp2_with fail
  rw [rounds_succ]
  go_wp2_with fail
  go_ret
  exact ⟨rfl, HB9.out⟩
end Go.Proofs.YteflpdhgojcmcaaGreatDoor
