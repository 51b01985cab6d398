/- The walk of history's listed, of a map with none or the fixed run's one. The walks of the runner's answer, at an ask to go on and at the fixed run's write. The walks of replay's strange and Does, of an entry that writes the fixed run's step. The walks of replay's Begin and All; slices.Equal at one number; judge's timely. The walks of slices.Equal at one number and at one value. A scope through which the run goes a known number of times. No conditions but those that each theorem names. -/
import Derived.Test.YteflpdhgojcmcaaGreatDoorU01
import Derived.Test.YteflpdhgojcmcaaGreatDoorU43
import Derived.Test.YteflpdhgojcmcaaGreatDoorU45
import Derived.Test.YteflpdhgojcmcaaGreatDoorU19
import Derived.Test.YteflpdhgojcmcaaGreatDoorU06
import Derived.Test.YteflpdhgojcmcaaGreatDoorU05
import Derived.Test.YteflpdhgojcmcaaGreatDoorU03
namespace Go.Proofs.YteflpdhgojcmcaaGreatDoor
open Go.RowKit PSet PMat
def told1 : ToldM := ⟨1, 0, 1, 7, true⟩
def step7 : StepM := ⟨0, 1, 7, true⟩
set_option maxRecDepth 100000 in
theorem listed_none (b : Nat) (w : World) (hb : w.heap[b]? = some (.map #[] 0)) :
    Calls Tryz.prog 145 #[.map (some b)] w fun e w' => e = .returned (.slice none 0 0) ∧ Below w.heap.size w w' := by
  have C1 := Lib.hid (values183_any (some b) w)
  have hbel : Below w.heap.size w (w.alloc (.cells #[.map (some b)] 253)) := (Below.refl _ _).alloc (Nat.le_refl _) _
  have C2 := Lib.hid (fun f => sorted182 none w.heap.size b f _ (new_cell w #[.map (some b)] 253 0) (by simp) ((hbel.block _ (block_lt hb)).trans hb))
  have HB := Lib.hid hbel
  clear hbel hb
  go_enter Tryz.func145, Tryz.ntmps145
  go_wp2_with fail
  refine (C1.out).mono ?_
  rintro e y ⟨rfl, rfl⟩
  go_wp2_with fail
  refine (C2.out _).mono ?_
  rintro e y ⟨v, rfl, -, hnil, hB⟩
  obtain rfl := hnil.2 trivial
  have HF := Lib.hid (HB.out.trans (hB.mono HB.out.size))
  clear hnil hB
  go_wp2_with fail
  refine wp_loop_rounds 1 ?_
  rw [rounds_succ]
  go_wp2_with fail
  go_ret
  exact ⟨rfl, HF.out⟩
set_option maxRecDepth 100000 in
theorem listed_one (b : Nat) (w : World) (hb : w.heap[b]? = some (.map ents1 1)) :
    Calls Tryz.prog 145 #[.map (some b)] w fun e w' => ∃ v, e = .returned v ∧ w'.ownsRow w.heap.size 155 4 v 1 step7.cells ∧ Below w.heap.size w w' := by
  have C1 := Lib.hid (values183_any (some b) w)
  have hbel : Below w.heap.size w (w.alloc (.cells #[.map (some b)] 253)) := (Below.refl _ _).alloc (Nat.le_refl _) _
  have C2 := Lib.hid (fun f => sorted182 (some told1) w.heap.size b f _ (new_cell w #[.map (some b)] 253 0) (by simp) ((hbel.block _ (block_lt hb)).trans hb))
  have HB := Lib.hid hbel
  obtain ⟨i0, z0, hi, hz0, hz1, hz2, hz3⟩ := info_155
  clear hbel hb
  go_enter Tryz.func145, Tryz.ntmps145
  go_wp2_with fail
  refine (C1.out).mono ?_
  rintro e y ⟨rfl, rfl⟩
  go_wp2_with fail
  refine (C2.out _).mono ?_
  rintro e y ⟨v, rfl, hown, -, hB⟩
  obtain ⟨g, gc, rfl, -, -, hr, -⟩ := owns_block hown (by decide)
  have c0 : y.cell? ⟨g, 0, none⟩ = some (.int .i64 1) := hr 0 _ rfl
  have c1 : y.cell? ⟨g, 1, none⟩ = some (.int .i64 0) := hr 1 _ rfl
  have c2 : y.cell? ⟨g, 2, none⟩ = some (.int .i64 1) := hr 2 _ rfl
  have c3 : y.cell? ⟨g, 3, none⟩ = some (.int .i64 7) := hr 3 _ rfl
  have c4 : y.cell? ⟨g, 4, none⟩ = some (.bool true) := hr 4 _ rfl
  have HF := Lib.hid (HB.out.trans (hB.mono HB.out.size))
  clear hown hB hr C1 C2
  simp only [optTN]
  go_wp2_with fail
  refine wp_loop_rounds 2 ?_
  rw [rounds_succ]
  go_upto_region 4 with fail
  have hbZ : Below y.heap.size y (y.alloc (.cells #[.int .i64 1, .int .i64 0, .int .i64 1, .int .i64 7, .bool true] 300)) := (Below.refl _ _).alloc (Nat.le_refl _) _
  have hd := Go.heap_alloc_new y (.cells #[.int .i64 1, .int .i64 0, .int .i64 1, .int .i64 7, .bool true] 300)
  have HFZ := Lib.hid (HF.out.trans (hbZ.mono HF.out.size))
  generalize y.alloc (.cells #[.int .i64 1, .int .i64 0, .int .i64 1, .int .i64 7, .bool true] 300) = Z at *
  generalize y.heap.size = d at *
  have d1 := cell_of_row _ _ 1 _ _ _ hd
  have d2 := cell_of_row _ _ 2 _ _ _ hd
  have d3 := cell_of_row _ _ 3 _ _ _ hd
  have d4 := cell_of_row _ _ 4 _ _ _ hd
  have hwZ := HFZ.out.size
  clear hd hbZ HF c0 c1 c2 c3 c4
  go_wp2_with (at_builtin; refine wpList_append_own _ rfl _ _ 40 rfl w.heap.size 155 i0 z0 4 32 Tryz.underlying40 hi hz0 hz1 hz2 hz3 (by decide) _ 0 [] rfl (World.ownsRow_nil _ _ _ _) ⟨Z.heap.size, 0, none⟩ 1 1 step7.cells rfl rfl (by exact news_new Z step7.cells 155) step7.one (by unfold maxLen; omega) (by omega) (by simp; omega) ?_)
  intro v2 z2 hown2 hgrow _
  have hbZ : Below Z.heap.size Z (Z.alloc (.cells #[.int .i64 0, .int .i64 1, .int .i64 7, .bool true] 155)) := (Below.refl _ _).alloc (Nat.le_refl _) _
  have hs3 : Below (Z.alloc (.cells #[.int .i64 0, .int .i64 1, .int .i64 7, .bool true] 155)).heap.size (Z.alloc (.cells #[.int .i64 0, .int .i64 1, .int .i64 7, .bool true] 155)) z2 := Chg.to_below (F := fun _ => False) ((Chg.refl _ _).grown hgrow (fun k e => by cases e)) (Nat.le_refl _) (fun _ hi => hi.elim)
  have HF := Lib.hid (And.intro hown2 (HFZ.out.trans ((hbZ.trans (hs3.mono hbZ.size)).mono hwZ)))
  clear hown2 hgrow hbZ hs3
  go_wp2_with fail
  rw [rounds_succ]
  go_wp2_with fail
  go_ret
  exact ⟨_, rfl, HF.out.1, HF.out.2⟩
end Go.Proofs.YteflpdhgojcmcaaGreatDoor
namespace Go.Proofs.YteflpdhgojcmcaaGreatDoor
open Go.RowKit PSet PMat
/-- A runner in memory. -/
def RunAt (w : World) (r : Nat) (c : CpuM) (tv nv : Value) : Prop := w.heap[r]? = some (.cells (c.cells ++ [tv, nv]).toArray 235 (0, 0))
theorem RunAt.cell {w : World} {r : Nat} {c : CpuM} {tv nv : Value} (h : RunAt w r c tv nv) (hc : c.regs.length = 8) : w.cell? ⟨r, 19, none⟩ = some tv ∧ w.frozen? ⟨r, 19, none⟩ = false := by
  have hl := CpuM.len hc
  refine ⟨?_, frozen_of_row _ _ 19 _ _ h⟩
  rw [cell_of_row _ _ 19 _ _ _ h, List.getElem?_toArray, List.getElem?_append_right (by omega), hl]
  rfl
theorem RunAt.below {w w' : World} {r : Nat} {c : CpuM} {tv nv : Value} (h : RunAt w r c tv nv) (hb : Below w.heap.size w w') : RunAt w' r c tv nv := (hb.block _ (block_lt h)).trans h
theorem RunAt.setTxn {w : World} {r : Nat} {c : CpuM} {tv nv : Value} (h : RunAt w r c tv nv) (hc : c.regs.length = 8) (v : Value) : RunAt (w.setCell ⟨r, 19, none⟩ v) r c v nv := by
  have h1 := heap_setCell_same w r 19 _ _ v h
  have hl := CpuM.len hc
  have e : (c.cells ++ [tv, nv]).toArray.setIfInBounds 19 v = (c.cells ++ [v, nv]).toArray := by
    rw [List.setIfInBounds_toArray, List.set_append_right _ _ (by omega), hl]
    rfl
  rw [e] at h1
  exact h1
set_option maxRecDepth 100000 in
theorem ansGo (r : Nat) (w : World) : Calls Tryz.prog 130 #[.pointer (some ⟨r, 0, none⟩), .agg #[.int .i64 0, .int .i64 0, .int .i64 0, .int .i64 0, .int .i64 0, .int .i64 0, .int .i64 0]] w fun e w' => e = .returned (.int .i64 0) ∧ Below w.heap.size w w' := by
  have hb : Below w.heap.size w (w.alloc (.cells #[.int .i64 0, .int .i64 0, .int .i64 0, .int .i64 0, .int .i64 0, .int .i64 0, .int .i64 0] 217)) := (Below.refl _ _).alloc (Nat.le_refl _) _
  have HB := Lib.hid hb
  clear hb
  go_enter Tryz.func130, Tryz.ntmps130
  go_wp2_with fail
  go_ret
  exact ⟨rfl, HB.out⟩
set_option maxRecDepth 100000 in
theorem ansWrite (r : Nat) (c : CpuM) (nv : Value) (w : World) (h : RunAt w r c (.slice none 0 0) nv) (hc : c.regs.length = 8) :
    Calls Tryz.prog 130 #[.pointer (some ⟨r, 0, none⟩), .agg #[.int .i64 2, .int .i64 0, .int .i64 0, .int .i64 0, .int .i64 1, .int .i64 7, .int .i64 0]] w fun e w' => ∃ tv, e = .returned (.int .i64 0) ∧ RunAt w' r c tv nv ∧ w'.ownsRow w.heap.size 155 4 tv 1 step7.cells ∧ Chg (fun b => b = r) w w' := by
  obtain ⟨W, hW⟩ : ∃ W, W = w.alloc (.cells #[.int .i64 2, .int .i64 0, .int .i64 0, .int .i64 0, .int .i64 1, .int .i64 7, .int .i64 0] 217) := ⟨_, rfl⟩
  have hbW : Below w.heap.size w W := by rw [hW]; exact (Below.refl _ _).alloc (Nat.le_refl _) _
  have hk : W.heap[w.heap.size]? = some (.cells #[.int .i64 2, .int .i64 0, .int .i64 0, .int .i64 0, .int .i64 1, .int .i64 7, .int .i64 0] 217 (0, 0)) := by rw [hW]; exact Go.heap_alloc_new _ _
  have hrW : RunAt W.drew r c (.slice none 0 0) nv := h.below hbW.drew
  have C := Lib.hid (txnWrite_nil 0 1 7 W.drew (by decide) (by decide) (by decide))
  have hS0 : (fun w' : World => w'.cell? ⟨r, 19, none⟩ = some (.slice none 0 0) ∧ w'.cell? ⟨w.heap.size, 1, none⟩ = some (.int .i64 0) ∧ w'.cell? ⟨w.heap.size, 4, none⟩ = some (.int .i64 1) ∧ w'.cell? ⟨w.heap.size, 5, none⟩ = some (.int .i64 7)) W.drew := ⟨(hrW.cell hc).1, cell_of_row _ _ 1 _ _ _ hk, cell_of_row _ _ 4 _ _ _ hk, cell_of_row _ _ 5 _ _ _ hk⟩
  have k0 := cell_of_row _ _ 0 _ _ _ hk
  have HR := Lib.hid (And.intro hrW (And.intro hk hbW.drew))
  have hwW : w.heap.size ≤ W.drew.heap.size := hbW.size
  clear h hrW hk hbW
  go_enter Tryz.func130, Tryz.ntmps130
  go_upto_region 1 with fail
  rw [← hW]
  clear hW
  go_upto_region 5 with fail
  refine zRegion 15 (S := (fun w' : World => w'.cell? ⟨r, 19, none⟩ = some (.slice none 0 0) ∧ w'.cell? ⟨w.heap.size, 1, none⟩ = some (.int .i64 0) ∧ w'.cell? ⟨w.heap.size, 4, none⟩ = some (.int .i64 1) ∧ w'.cell? ⟨w.heap.size, 5, none⟩ = some (.int .i64 7))) (by kernel_rfl) hS0 (fun hHeld => ?_)
  clear hS0 k0
  refine zd 0 (v := ?_) ?_ ?_; rotate_left; · rintro w ⟨hS1, hS2, hS3, hS4⟩; go_simp; try with_reducible rfl
  simp only [Act.put, pt1, pt2, pt3]
  refine zd 1 (v := ?_) ?_ ?_; rotate_left; · rintro w ⟨hS1, hS2, hS3, hS4⟩; go_simp; try with_reducible rfl
  simp only [Act.put, pt1, pt2, pt3]
  refine zd 2 (v := ?_) ?_ ?_; rotate_left; · rintro w ⟨hS1, hS2, hS3, hS4⟩; go_simp; try with_reducible rfl
  simp only [Act.put, pt1, pt2, pt3]
  refine zd 3 (v := ?_) ?_ ?_; rotate_left; · rintro w ⟨hS1, hS2, hS3, hS4⟩; go_simp; try with_reducible rfl
  simp only [Act.put, pt1, pt2, pt3]
  refine zd 4 (v := ?_) ?_ ?_; rotate_left; · rintro w ⟨hS1, hS2, hS3, hS4⟩; go_simp; try with_reducible rfl
  simp only [Act.put, pt1, pt2, pt3]
  refine zd 5 (v := ?_) ?_ ?_; rotate_left; · rintro w ⟨hS1, hS2, hS3, hS4⟩; go_simp; try with_reducible rfl
  simp only [Act.put, pt1, pt2, pt3]
  refine zd 6 (v := ?_) ?_ ?_; rotate_left; · rintro w ⟨hS1, hS2, hS3, hS4⟩; go_simp; try with_reducible rfl
  simp only [Act.put, pt1, pt2, pt3]
  refine zd 7 (v := ?_) ?_ ?_; rotate_left; · rintro w ⟨hS1, hS2, hS3, hS4⟩; go_simp; try with_reducible rfl
  simp only [Act.put, pt1, pt2, pt3]
  refine zd 8 (v := ?_) ?_ ?_; rotate_left; · rintro w ⟨hS1, hS2, hS3, hS4⟩; go_simp; try with_reducible rfl
  simp only [Act.put, pt1, pt2, pt3]
  refine zcl 9 (fun K' hK => ?_)
  go_simp
  go_at_call 163
  refine (C.out).mono ?_
  rintro e y ⟨v', rfl, hown, hby⟩
  obtain ⟨g, gc, rfl, -, -, -, -⟩ := owns_block hown (by decide)
  have hky := (hby.block _ (block_lt HR.out.2.1)).trans HR.out.2.1
  have HY := Lib.hid (And.intro (HR.out.1.below hby) (And.intro hky (And.intro hown (HR.out.2.2.trans (hby.mono hwW)))))
  clear hky hown hby C
  go_wp2_with fail
  refine hK.out _ _ ?_ (fun hHeld => ?_)
  · exact ⟨(HY.out.1.cell hc).1, cell_of_row _ _ 1 _ _ _ HY.out.2.1, cell_of_row _ _ 4 _ _ _ HY.out.2.1, cell_of_row _ _ 5 _ _ _ HY.out.2.1⟩
  clear hK K'
  try simp only [Act.put, pt1, pt2, pt3]
  refine zd 10 (v := ?_) ?_ ?_; rotate_left; · rintro w ⟨hS1, hS2, hS3, hS4⟩; go_simp; try with_reducible rfl
  simp only [Act.put, pt1, pt2, pt3]
  refine zd 11 (v := ?_) ?_ ?_; rotate_left; · rintro w ⟨hS1, hS2, hS3, hS4⟩; go_simp; try with_reducible rfl
  simp only [Act.put, pt1, pt2, pt3]
  refine zp 12 (v := ?_) ?_ ?_; rotate_left; · intro w; go_simp; try with_reducible rfl
  simp only [Act.put, pt1, pt2, pt3]
  refine zp 13 (v := ?_) ?_ ?_; rotate_left; · intro w; go_simp; try with_reducible rfl
  simp only [Act.put, pt1, pt2, pt3]
  refine zd 14 (v := ?_) ?_ ?_; rotate_left; · rintro w ⟨hS1, hS2, hS3, hS4⟩; go_simp; try with_reducible rfl
  simp only [Act.put, pt1, pt2, pt3]
  have r19 := (HY.out.1.cell hc).1
  have f19 := (HY.out.1.cell hc).2
  refine zFree 15 rfl (by kernel_rfl) (by kernel_rfl) (fun K' hK => ?_)
  go_simp
  have h1 := HY.out.1.setTxn hc (.slice (some ⟨g, 0, none⟩) 1 gc)
  have hrt : ∀ cs, y.heap[r]? = some (.cells cs 235 (0, 0)) → (Value.slice (some ⟨g, 0, none⟩) 1 gc).ownBlock ≠ some r := fun cs hcs => owns_type HY.out.2.2.1 hcs (by decide)
  have h2 := ownsRow_setCell_other HY.out.2.2.1 (a := ⟨r, 19, none⟩) (hrt _ HY.out.1) (.slice (some ⟨g, 0, none⟩) 1 gc)
  have h3 : Chg (fun b => b = r) w (y.setCell ⟨r, 19, none⟩ (.slice (some ⟨g, 0, none⟩) 1 gc)) := Chg.setCell (F := fun b => b = r) (Chg.of_below HY.out.2.2.2) (p := ⟨r, 19, none⟩) (.inl rfl) _
  generalize y.setCell ⟨r, 19, none⟩ (.slice (some ⟨g, 0, none⟩) 1 gc) = Y at *
  have HF := Lib.hid (And.intro h1 (And.intro (owns_mono h2 hwW) h3))
  clear h1 h2 h3 hrt r19 f19
  refine hK.out _ _ ?_
  clear hK K'
  try simp only [Act.put]
  refine zFree 16 rfl (by kernel_rfl) (by kernel_rfl) (fun K' hK => ?_)
  go_simp
  refine hK.out _ _ ?_
  clear hK K'
  try simp only [Act.put, pt1, pt2, pt3]
  refine zDone (by kernel_rfl) ?_ _
  go_wp2_with fail
  go_ret
  exact ⟨_, rfl, HF.out.1, HF.out.2.1, HF.out.2.2⟩
end Go.Proofs.YteflpdhgojcmcaaGreatDoor
namespace Go.Proofs.YteflpdhgojcmcaaGreatDoor
open Go.RowKit PSet PMat
set_option maxRecDepth 100000 in
theorem strange133 (a : Option Addr) (n c : Nat) (w : World) (hn : 1 ≤ n) :
    Calls Tryz.prog 133 #[.slice a n c, .agg #[.int .i64 0, .int .i64 1, .int .i64 7, .bool true]] w fun e w' => e = .returned (.bool false) ∧ Below w.heap.size w w' := by
  have h1 : ¬ n = 0 := by omega
  have hb : Below w.heap.size w (w.alloc (.cells #[.int .i64 0, .int .i64 1, .int .i64 7, .bool true] 155)) := (Below.refl _ _).alloc (Nat.le_refl _) _
  have HB := Lib.hid hb
  clear hb
  go_enter Tryz.func133, Tryz.ntmps133
  go_wp2_with fail
  go_ret
  exact ⟨rfl, HB.out⟩
set_option maxRecDepth 100000 in
theorem contains131_nil (f : Value) (w : World) : Calls Tryz.prog 131 #[.slice none 0 0, f] w fun e w' => e = .returned (.bool false) ∧ w = w' := by
  have C : Calls Tryz.prog 166 #[.slice none 0 0, f] w fun e w' => e = .returned (.int .i64 (-1)) ∧ w = w' := by
    go_enter Tryz.func166, Tryz.ntmps166
    go_wp2_with fail
    refine wp_loop_rounds 1 ?_
    rw [rounds_succ]
    go_wp2_with fail
    go_ret
    exact ⟨rfl, rfl⟩
  have C := Lib.hid C
  go_enter Tryz.func131, Tryz.ntmps131
  go_wp2_with fail
  refine (C.out).mono ?_
  rintro e y ⟨rfl, rfl⟩
  go_wp2_with fail
  go_ret
  exact ⟨rfl, rfl⟩
set_option maxRecDepth 100000 in
theorem index166_one (a : Option Addr) (n c wb wc : Nat) (w : World) (hn : 1 ≤ n) (hr : w.rangeAt wb 0 step7.cells) :
    Calls Tryz.prog 166 #[.slice (some ⟨wb, 0, none⟩) 1 wc, .func (.func 133) #[.slice a n c] #[]] w fun e w' => e = .returned (.int .i64 (-1)) ∧ Below w.heap.size w w' := by
  have c0 : w.cell? ⟨wb, 0, none⟩ = some (.int .i64 0) := hr 0 _ rfl
  have c1 : w.cell? ⟨wb, 1, none⟩ = some (.int .i64 1) := hr 1 _ rfl
  have c2 : w.cell? ⟨wb, 2, none⟩ = some (.int .i64 7) := hr 2 _ rfl
  have c3 : w.cell? ⟨wb, 3, none⟩ = some (.bool true) := hr 3 _ rfl
  have C := Lib.hid (strange133 a n c w hn)
  clear hr
  go_enter Tryz.func166, Tryz.ntmps166
  go_wp2_with fail
  refine wp_loop_rounds 2 ?_
  rw [rounds_succ]
  go_wp2_with fail
  refine (C.out).mono ?_
  rintro e y ⟨rfl, hby⟩
  have HB := Lib.hid hby
  clear hby c0 c1 c2 c3
  go_wp2_with fail
  rw [rounds_succ]
  go_wp2_with fail
  go_ret
  exact ⟨rfl, HB.out⟩
set_option maxRecDepth 100000 in
theorem contains131_one (a : Option Addr) (n c wb wc : Nat) (w : World) (hn : 1 ≤ n) (hr : w.rangeAt wb 0 step7.cells) :
    Calls Tryz.prog 131 #[.slice (some ⟨wb, 0, none⟩) 1 wc, .func (.func 133) #[.slice a n c] #[]] w fun e w' => e = .returned (.bool false) ∧ Below w.heap.size w w' := by
  have C := Lib.hid (index166_one a n c wb wc w hn hr)
  clear hr
  go_enter Tryz.func131, Tryz.ntmps131
  go_wp2_with fail
  refine (C.out).mono ?_
  rintro e y ⟨rfl, hby⟩
  have HB := Lib.hid hby
  clear hby
  go_wp2_with fail
  go_ret
  exact ⟨rfl, HB.out⟩
set_option maxRecDepth 100000 in
theorem does83 (i : Int) (ov : Bool) (a : Option Addr) (n c wb wc : Nat) (xs : List Value) (w : World) (hn : 1 ≤ n) (hn2 : n ≤ 1000) (hv : RowAt w (.slice a n c) n 2 xs) (h1 : AllOne xs) (hwb : wb < w.heap.size) (hr : w.rangeAt wb 0 step7.cells) :
    Calls Tryz.prog 83 #[.slice a n c, .agg #[.int .i64 i, .bool true, .bool ov, .slice none 0 0, .slice (some ⟨wb, 0, none⟩) 1 wc]] w fun e w' => ∃ v, e = .returned (.tuple #[v, .bool true]) ∧ w'.ownsRow w.heap.size 53 2 v n ((xs.set 0 (.int .i64 1)).set 1 (.int .i64 7)) ∧ Below w.heap.size w w' := by
  obtain ⟨W, hW⟩ : ∃ W, W = w.alloc (.cells #[.int .i64 i, .bool true, .bool ov, .slice none 0 0, .slice (some ⟨wb, 0, none⟩) 1 wc] 42) := ⟨_, rfl⟩
  have hbW : Below w.heap.size w W := by rw [hW]; exact (Below.refl _ _).alloc (Nat.le_refl _) _
  have he : W.heap[w.heap.size]? = some (.cells #[.int .i64 i, .bool true, .bool ov, .slice none 0 0, .slice (some ⟨wb, 0, none⟩) 1 wc] 42 (0, 0)) := by rw [hW]; exact Go.heap_alloc_new _ _
  have hrU : ∀ U, Below w.heap.size w U → U.rangeAt wb 0 step7.cells := fun U hU j v hj => (hU.cell (p := ⟨wb, 0 + j, none⟩) hwb).trans (hr j v hj)
  have C0 := Lib.hid (contains131_nil (.func (.func 132) #[.slice a n c] #[]) W)
  have C1 := Lib.hid (contains131_one a n c wb wc W hn (hrU W hbW))
  have C2 := Lib.hid (fun (X : World) (hX : Below w.heap.size w X) => clone134 (.slice a n c) n xs X (hv.below hX) h1 (by omega))
  have HRU := Lib.hid hrU
  have HE := Lib.hid he
  have HB := Lib.hid hbW
  have e1 := cell_of_row _ _ 1 _ _ _ he
  have e3 := cell_of_row _ _ 3 _ _ _ he
  have e4 := cell_of_row _ _ 4 _ _ _ he
  clear hv hr hrU hbW he
  go_enter Tryz.func83, Tryz.ntmps83
  go_upto_region 1 with fail
  rw [← hW]
  clear hW
  go_wp2_with fail
  refine (C0.out).mono ?_
  rintro e y ⟨rfl, rfl⟩
  go_wp2_with fail
  refine (C1.out).mono ?_
  rintro e y ⟨rfl, hby⟩
  have hey := (hby.block _ (block_lt HE.out)).trans HE.out
  have e1 := cell_of_row _ _ 1 _ _ _ hey
  have HEY := Lib.hid hey
  have HBY := Lib.hid (HB.out.trans (hby.mono HB.out.size))
  have C2' := Lib.hid (C2.out y HBY.out)
  clear hey hby C0 C1 C2 e3 e4
  go_wp2_with fail
  refine (C2'.out).mono ?_
  rintro e z ⟨v, rfl, hown, hbz⟩
  obtain ⟨g, gc, rfl, hgy, hgz, hgr, hgf⟩ := owns_block hown hn
  have hez := (hbz.block _ (block_lt HEY.out)).trans HEY.out
  have e4 := cell_of_row _ _ 4 _ _ _ hez
  have HZ := Lib.hid (And.intro hown (HBY.out.trans (hbz.mono HBY.out.size)))
  have hrz := HRU.out z HZ.out.2
  have c0 : z.cell? ⟨wb, 0, none⟩ = some (.int .i64 0) := hrz 0 _ rfl
  have c1 : z.cell? ⟨wb, 1, none⟩ = some (.int .i64 1) := hrz 1 _ rfl
  have c2 : z.cell? ⟨wb, 2, none⟩ = some (.int .i64 7) := hrz 2 _ rfl
  have c3 : z.cell? ⟨wb, 3, none⟩ = some (.bool true) := hrz 3 _ rfl
  have hwy : w.heap.size ≤ y.heap.size := HBY.out.size
  clear hrz hez hbz C2' e1 hown hgr hgf
  go_wp2_with fail
  refine wp_loop_rounds 2 ?_
  rw [rounds_succ]
  go_upto_region 10 with fail
  have hd := Go.heap_alloc_new z (.cells #[.int .i64 0, .int .i64 1, .int .i64 7, .bool true] 155)
  have hbU : Below z.heap.size z (z.alloc (.cells #[.int .i64 0, .int .i64 1, .int .i64 7, .bool true] 155)) := (Below.refl _ _).alloc (Nat.le_refl _) _
  generalize z.alloc (.cells #[.int .i64 0, .int .i64 1, .int .i64 7, .bool true] 155) = U at *
  have HU := Lib.hid (And.intro (owns_below HZ.out.1 hbU) (HZ.out.2.trans (hbU.mono HZ.out.2.size)))
  generalize z.heap.size = d at *
  have d0 := cell_of_row _ _ 0 _ _ _ hd
  have d1 := cell_of_row _ _ 1 _ _ _ hd
  have d2 := cell_of_row _ _ 2 _ _ _ hd
  obtain ⟨-, -, hgr, hgf⟩ := owns_at HU.out.1 hn
  have hxl : xs.length = n * 2 := HU.out.1.1
  obtain ⟨x0, hx0⟩ : ∃ x0, xs[0]? = some x0 := ⟨_, List.getElem?_eq_getElem (by omega)⟩
  obtain ⟨x1, hx1⟩ : ∃ x1, xs[1]? = some x1 := ⟨_, List.getElem?_eq_getElem (by omega)⟩
  have g0 := hgr 0 _ hx0
  have g1 := hgr 1 _ hx1
  have f0 := hgf 0
  have f1 := hgf 1
  have hn0 : (0 : Int) < (n : Int) := by omega
  simp only [Nat.zero_add] at g0 g1
  clear hd hbU hgr hgf hx0 hx1 hxl c0 c1 c2 c3 e4
  go_wp2_with fail
  have o1 := owns_set (owns_set HU.out.1 0 (.int .i64 1)) 1 (.int .i64 7)
  have o2 : Below w.heap.size w ((U.setCell ⟨g, 0, none⟩ (.int .i64 1)).setCell ⟨g, 1, none⟩ (.int .i64 7)) := (HU.out.2.setCell (p := ⟨g, 0, none⟩) (Nat.le_trans hwy hgy) _).setCell (p := ⟨g, 1, none⟩) (Nat.le_trans hwy hgy) _
  generalize (U.setCell ⟨g, 0, none⟩ (.int .i64 1)).setCell ⟨g, 1, none⟩ (.int .i64 7) = V at *
  have HV := Lib.hid (And.intro (owns_mono o1 hwy) o2)
  clear o1 o2 g0 g1 f0 f1 d0 d1 d2
  rw [rounds_succ]
  go_wp2_with fail
  go_ret2
  exact ⟨_, rfl, HV.out.1, HV.out.2⟩
end Go.Proofs.YteflpdhgojcmcaaGreatDoor
namespace Go.Proofs.YteflpdhgojcmcaaGreatDoor
open Go.RowKit PSet PMat
set_option maxRecDepth 100000 in
theorem begin81 (n : Nat) (w : World) (h1 : 1 ≤ n) (h2 : n ≤ 64) :
    Calls Tryz.prog 81 #[.int .i64 (n : Int)] w fun e w' => ∃ v, e = .returned v ∧ w'.ownsRow w.heap.size 53 2 v n (reps [.int .i64 1, .int .i64 0] n) ∧ Below w.heap.size w w' := by
  have hmx : max (n : Int) 0 = (n : Int) := by omega
  have hmn : min (n : Int) 64 = (n : Int) := by omega
  have hb : Below w.heap.size w (w.alloc (.cells #[.int .i64 1, .int .i64 0] 53)) := (Below.refl _ _).alloc (Nat.le_refl _) _
  have hr : RowAt (w.alloc (.cells #[.int .i64 1, .int .i64 0] 53)) (.slice (some ⟨w.heap.size, 0, none⟩) 1 1) 1 2 [.int .i64 1, .int .i64 0] :=
    ⟨rfl, some ⟨w.heap.size, 0, none⟩, 1, rfl, fun _ => ⟨w.heap.size, 0, rfl, by simp, range_of_block (Go.heap_alloc_new w (.cells #[.int .i64 1, .int .i64 0] 53))⟩⟩
  have C := Lib.hid (repeat129 (some ⟨w.heap.size, 0, none⟩) 1 [.int .i64 1, .int .i64 0] n _ hr (by intro v hv; simp at hv; rcases hv with rfl | rfl <;> rfl) h1 (by omega))
  have HB := Lib.hid hb
  clear hb hr
  go_enter Tryz.func81, Tryz.ntmps81
  go_wp2_with fail
  refine (C.out).mono ?_
  rintro e y ⟨v, rfl, hown, hby⟩
  have HF := Lib.hid (And.intro (owns_mono hown (show w.heap.size ≤ _ by simp)) (HB.out.trans (hby.mono HB.out.size)))
  clear hown hby C
  go_wp2_with fail
  go_ret
  exact ⟨_, rfl, HF.out.1, HF.out.2⟩
set_option maxRecDepth 100000 in
theorem all98 (a : Option Addr) (n c eb ec wb wc : Nat) (xs : List Value) (w : World) (hn : 1 ≤ n) (hn2 : n ≤ 1000) (hv : RowAt w (.slice a n c) n 2 xs) (h1 : AllOne xs) (hwb : wb < w.heap.size) (hr : w.rangeAt wb 0 step7.cells)
    (he : w.rangeAt eb 0 [.int .i64 1, .bool true, .bool true, .slice none 0 0, .slice (some ⟨wb, 0, none⟩) 1 wc]) :
    Calls Tryz.prog 98 #[.slice a n c, .slice (some ⟨eb, 0, none⟩) 1 ec] w fun e w' => ∃ v, e = .returned (.tuple #[v, .int .i64 (-1)]) ∧ Below w.heap.size w w' := by
  have c0 : w.cell? ⟨eb, 0, none⟩ = some (.int .i64 1) := he 0 _ rfl
  have c1 : w.cell? ⟨eb, 1, none⟩ = some (.bool true) := he 1 _ rfl
  have c2 : w.cell? ⟨eb, 2, none⟩ = some (.bool true) := he 2 _ rfl
  have c3 : w.cell? ⟨eb, 3, none⟩ = some (.slice none 0 0) := he 3 _ rfl
  have c4 : w.cell? ⟨eb, 4, none⟩ = some (.slice (some ⟨wb, 0, none⟩) 1 wc) := he 4 _ rfl
  obtain ⟨U, hU⟩ : ∃ U, U = w.alloc (.cells #[.int .i64 1, .bool true, .bool true, .slice none 0 0, .slice (some ⟨wb, 0, none⟩) 1 wc] 42) := ⟨_, rfl⟩
  have hbU : Below w.heap.size w U := by rw [hU]; exact (Below.refl _ _).alloc (Nat.le_refl _) _
  have hd : U.heap[w.heap.size]? = some (.cells #[.int .i64 1, .bool true, .bool true, .slice none 0 0, .slice (some ⟨wb, 0, none⟩) 1 wc] 42 (0, 0)) := by rw [hU]; exact Go.heap_alloc_new _ _
  have C := Lib.hid (does83 1 true a n c wb wc xs U hn hn2 (hv.below hbU) h1 (Nat.lt_of_lt_of_le hwb hbU.size) (fun j v hj => (hbU.cell (p := ⟨wb, 0 + j, none⟩) hwb).trans (hr j v hj)))
  have d0 := cell_of_row _ _ 0 _ _ _ hd
  have d1 := cell_of_row _ _ 1 _ _ _ hd
  have d2 := cell_of_row _ _ 2 _ _ _ hd
  have d3 := cell_of_row _ _ 3 _ _ _ hd
  have d4 := cell_of_row _ _ 4 _ _ _ hd
  have HB := Lib.hid hbU
  clear hv hr he hd hbU
  go_enter Tryz.func98, Tryz.ntmps98
  go_wp2_with fail
  refine wp_loop_rounds 2 ?_
  rw [rounds_succ]
  go_upto_region 4 with fail
  rw [← hU]
  clear hU
  go_wp2_with fail
  refine (C.out).mono ?_
  rintro e y ⟨v, rfl, hown, hby⟩
  obtain ⟨g, gc, rfl, -, -, -, -⟩ := owns_block hown hn
  have HF := Lib.hid (HB.out.trans (hby.mono HB.out.size))
  clear hown hby C c0 c1 c2 c3 c4 d0 d1 d2 d3 d4
  go_wp2_with fail
  rw [rounds_succ]
  go_wp2_with fail
  go_ret2
  exact ⟨_, rfl, HF.out⟩
set_option maxRecDepth 100000 in
theorem timely95 (a : Option Addr) (c b bc : Nat) (w : World) (h : w.cell? ⟨b, 0, none⟩ = some (.int .i64 1)) :
    Calls Tryz.prog 95 #[.slice a 1 c, .slice (some ⟨b, 0, none⟩) 1 bc] w fun e w' => e = .returned (.bool true) ∧ w = w' := by
  go_enter Tryz.func95, Tryz.ntmps95
  go_wp2_with fail
  refine wp_loop_rounds 2 ?_
  rw [rounds_succ]
  go_wp2_with fail
  refine wp_loop_rounds 1 ?_
  rw [rounds_succ]
  go_wp2_with fail
  rw [rounds_succ]
  go_wp2_with fail
  go_ret
  exact ⟨rfl, rfl⟩
end Go.Proofs.YteflpdhgojcmcaaGreatDoor
namespace Go.Proofs.YteflpdhgojcmcaaGreatDoor
open Go.RowKit PSet PMat
set_option maxRecDepth 100000 in
theorem equal94 (p q c d : Nat) (w : World) (h0 : w.cell? ⟨p, 0, none⟩ = some (.int .i64 1)) (k0 : w.cell? ⟨q, 0, none⟩ = some (.int .i64 1)) :
    Calls Tryz.prog 94 #[.slice (some ⟨p, 0, none⟩) 1 c, .slice (some ⟨q, 0, none⟩) 1 d] w fun e w' => e = .returned (.bool true) ∧ Below w.heap.size w w' := by
  have hS0 : (fun w' : World => w'.cell? ⟨p, 0, none⟩ = some (.int .i64 1) ∧ w'.cell? ⟨q, 0, none⟩ = some (.int .i64 1)) w.drew := ⟨h0, k0⟩
  go_enter Tryz.func94, Tryz.ntmps94
  go_wp2_with fail
  refine wp_loop_rounds 2 ?_
  rw [rounds_succ]
  go_upto_region 6 with fail
  refine hregion (fun w' : World => w'.cell? ⟨p, 0, none⟩ = some (.int .i64 1) ∧ w'.cell? ⟨q, 0, none⟩ = some (.int .i64 1)) hS0 (fun hHeld => ?_)
  clear hS0
  refine hd 0 (v := ?_) ?_ ?_; rotate_left; · rintro w ⟨hS1, hS2⟩; go_simp; try with_reducible rfl
  simp only [Act.put, pt1, pt2, pt3]
  refine hd 1 (v := ?_) ?_ ?_; rotate_left; · rintro w ⟨hS1, hS2⟩; go_simp; try with_reducible rfl
  simp only [Act.put, pt1, pt2, pt3]
  refine hd 2 (v := ?_) ?_ ?_; rotate_left; · rintro w ⟨hS1, hS2⟩; go_simp; try with_reducible rfl
  simp only [Act.put, pt1, pt2, pt3]
  refine hd 3 (v := ?_) ?_ ?_; rotate_left; · rintro w ⟨hS1, hS2⟩; go_simp; try with_reducible rfl
  simp only [Act.put, pt1, pt2, pt3]
  refine hd 4 (v := ?_) ?_ ?_; rotate_left; · rintro w ⟨hS1, hS2⟩; go_simp; try with_reducible rfl
  simp only [Act.put, pt1, pt2, pt3]
  refine hd 5 (v := ?_) ?_ ?_; rotate_left; · rintro w ⟨hS1, hS2⟩; go_simp; try with_reducible rfl
  simp only [Act.put, pt1, pt2, pt3]
  refine hd 6 (v := ?_) ?_ ?_; rotate_left; · rintro w ⟨hS1, hS2⟩; go_simp; try with_reducible rfl
  simp only [Act.put, pt1, pt2, pt3]
  refine hd 7 (v := ?_) ?_ ?_; rotate_left; · rintro w ⟨hS1, hS2⟩; go_simp; try with_reducible rfl
  simp only [Act.put, pt1, pt2, pt3]
  refine hd 8 (v := .bool false) (fun _ _ => by kernel_rfl) ?_
  simp only [Act.put, pt1, pt2, pt3]
  refine hend ?_
  clear hHeld
  go_wp2_with fail
  rw [rounds_succ]
  go_wp2_with fail
  go_ret
  exact ⟨rfl, (Below.refl _ w).drew⟩
set_option maxRecDepth 100000 in
theorem equal44 (p q c d : Nat) (w : World) (h0 : w.cell? ⟨p, 0, none⟩ = some (.int .i64 1)) (k0 : w.cell? ⟨q, 0, none⟩ = some (.int .i64 1)) (h1 : w.cell? ⟨p, 1, none⟩ = some (.int .i64 7)) (k1 : w.cell? ⟨q, 1, none⟩ = some (.int .i64 7)) :
    Calls Tryz.prog 44 #[.slice (some ⟨p, 0, none⟩) 1 c, .slice (some ⟨q, 0, none⟩) 1 d] w fun e w' => e = .returned (.bool true) ∧ Below w.heap.size w w' := by
  have hS0 : (fun w' : World => w'.cell? ⟨p, 0, none⟩ = some (.int .i64 1) ∧ w'.cell? ⟨p, 1, none⟩ = some (.int .i64 7) ∧ w'.cell? ⟨q, 0, none⟩ = some (.int .i64 1) ∧ w'.cell? ⟨q, 1, none⟩ = some (.int .i64 7)) w.drew := ⟨h0, h1, k0, k1⟩
  go_enter Tryz.func44, Tryz.ntmps44
  go_wp2_with fail
  refine wp_loop_rounds 2 ?_
  rw [rounds_succ]
  go_upto_region 6 with fail
  refine hregion (fun w' : World => w'.cell? ⟨p, 0, none⟩ = some (.int .i64 1) ∧ w'.cell? ⟨p, 1, none⟩ = some (.int .i64 7) ∧ w'.cell? ⟨q, 0, none⟩ = some (.int .i64 1) ∧ w'.cell? ⟨q, 1, none⟩ = some (.int .i64 7)) hS0 (fun hHeld => ?_)
  clear hS0
  refine hd 0 (v := ?_) ?_ ?_; rotate_left; · rintro w ⟨hS1, hS2, hS3, hS4⟩; go_simp; try with_reducible rfl
  simp only [Act.put, pt1, pt2, pt3]
  refine hd 1 (v := ?_) ?_ ?_; rotate_left; · rintro w ⟨hS1, hS2, hS3, hS4⟩; go_simp; try with_reducible rfl
  simp only [Act.put, pt1, pt2, pt3]
  refine hd 2 (v := ?_) ?_ ?_; rotate_left; · rintro w ⟨hS1, hS2, hS3, hS4⟩; go_simp; try with_reducible rfl
  simp only [Act.put, pt1, pt2, pt3]
  refine hd 3 (v := ?_) ?_ ?_; rotate_left; · rintro w ⟨hS1, hS2, hS3, hS4⟩; go_simp; try with_reducible rfl
  simp only [Act.put, pt1, pt2, pt3]
  refine hd 4 (v := ?_) ?_ ?_; rotate_left; · rintro w ⟨hS1, hS2, hS3, hS4⟩; go_simp; try with_reducible rfl
  simp only [Act.put, pt1, pt2, pt3]
  refine hd 5 (v := ?_) ?_ ?_; rotate_left; · rintro w ⟨hS1, hS2, hS3, hS4⟩; go_simp; try with_reducible rfl
  simp only [Act.put, pt1, pt2, pt3]
  refine hd 6 (v := ?_) ?_ ?_; rotate_left; · rintro w ⟨hS1, hS2, hS3, hS4⟩; go_simp; try with_reducible rfl
  simp only [Act.put, pt1, pt2, pt3]
  refine hd 7 (v := ?_) ?_ ?_; rotate_left; · rintro w ⟨hS1, hS2, hS3, hS4⟩; go_simp; try with_reducible rfl
  simp only [Act.put, pt1, pt2, pt3]
  refine hd 8 (v := .bool false) (fun _ _ => by kernel_rfl) ?_
  simp only [Act.put, pt1, pt2, pt3]
  refine hend ?_
  clear hHeld
  go_wp2_with fail
  rw [rounds_succ]
  go_wp2_with fail
  go_ret
  exact ⟨rfl, (Below.refl _ w).drew⟩
end Go.Proofs.YteflpdhgojcmcaaGreatDoor
namespace Go.Proofs.YteflpdhgojcmcaaGreatDoor
/-- At the label, with n passes at most to come. -/
def passes (P : Program) (body : Code) (l : Nat) (Q : Exit → Act → World → Prop) : Nat → Act → World → Prop
  | 0, _, _ => False
  | n + 1, a, w => body.wp P (Exit.jump l (passes P body l Q n) Q) a w
theorem passes_succ {P : Program} {body : Code} {l : Nat} {Q : Exit → Act → World → Prop} {n : Nat} {a : Act} {w : World} : passes P body l Q (n + 1) a w = body.wp P (Exit.jump l (passes P body l Q n) Q) a w := rfl
theorem least_of {p : Nat → Prop} : ∀ (m : Nat), p m → ∃ k, p k ∧ ∀ i, p i → k ≤ i := by
  intro m
  induction m using Nat.strongRecOn with
  | _ m ih =>
    intro hm
    by_cases h : ∃ i, i < m ∧ p i
    · obtain ⟨i, hi, hp⟩ := h
      exact ih i hi hp
    · exact ⟨m, hm, fun i hp => Nat.le_of_not_lt fun hi => h ⟨i, hi, hp⟩⟩
open Classical in
noncomputable def leastN (p : Nat → Prop) : Nat := if h : ∃ m, p m then Classical.choose (least_of (Classical.choose h) (Classical.choose_spec h)) else 0
theorem leastN_spec {p : Nat → Prop} (h : ∃ m, p m) : p (leastN p) ∧ ∀ i, p i → leastN p ≤ i := by
  unfold leastN
  rw [dif_pos h]
  exact Classical.choose_spec (least_of (Classical.choose h) (Classical.choose_spec h))
theorem wp_scope_passes {P : Program} {a : Act} {w : World} {Q : Exit → Act → World → Prop} {c body : Code} (l n : Nat) (hf : findLabel c l = some (Code.skip.seq body))
    (first : c.wp P (Exit.jump l (passes P body l Q n) Q) a w) : (Code.scope c).wp P Q a w := by
  refine wp_scope_jumps l (fun a w => ∃ m, passes P body l Q m a w) (fun a w => leastN fun m => passes P body l Q m a w) hf (Go.wp_mono first fun e a' w' hq => ?_) fun a w h => ?_
  · cases e <;> first | exact hq | exact ⟨hq.1, _, hq.2⟩
  · obtain ⟨h1, h2⟩ := leastN_spec h
    refine wp_seq (wp_skip ?_)
    revert h1 h2
    generalize (leastN fun m => passes P body l Q m a w) = m
    intro h1 h2
    cases m with
    | zero => exact h1.elim
    | succ k =>
      refine Go.wp_mono h1 fun e a' w' hq => ?_
      cases e <;> first | exact hq | exact ⟨hq.1, ⟨k, hq.2⟩, Nat.lt_succ_of_le ((leastN_spec ⟨k, hq.2⟩).2 k hq.2)⟩
end Go.Proofs.YteflpdhgojcmcaaGreatDoor
