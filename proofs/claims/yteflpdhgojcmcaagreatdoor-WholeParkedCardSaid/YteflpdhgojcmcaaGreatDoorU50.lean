/- The walks of judge's Fits and Opaque, at the fixed run's events. The walk of works: the fixed run. What the cards of this seat share: the table of math/bits off the row's list, a world that holds it, and what a law's end owes where it returned true and nothing old has turned. No conditions but those that each theorem names. -/
import Derived.Test.YteflpdhgojcmcaaGreatDoorU01
import Derived.Test.YteflpdhgojcmcaaGreatDoorU47
import Derived.Test.YteflpdhgojcmcaaGreatDoorU49
import Derived.Test.YteflpdhgojcmcaaGreatDoorU48
import Derived.Test.YteflpdhgojcmcaaGreatDoorU35
import Derived.Test.YteflpdhgojcmcaaGreatDoorCards
import Derived.Test.YteflpdhgojcmcaaGreatDoorTie
import Derived.WalkKit
import Derived.ProofKit
import Derived.OpenShut
import Derived.Carry
import Derived.Deep.DeepHandedRow
import Derived.Lib.LaidTab
import Derived.Shelf.Spec.TrailingZeros
import Derived.Test.YteflpdhgojcmcaaGreatDoorU02
namespace Go.Proofs.YteflpdhgojcmcaaGreatDoor
open Go.RowKit PSet PMat
def zero42 : Array Value := #[.int .i64 0, .bool false, .bool false, .slice none 0 0, .slice none 0 0]
theorem make38 (y : World) : (Instr.makeSlice 38 (.int .i64 0) (.int .i64 1)).run Tryz.prog y = .ok (.slice (some ⟨y.heap.size, 0, none⟩) 0 1) (y.alloc (.cells zero42 42)) := by kernel_rfl
theorem owns_make {y : World} {b B : Nat} (h : y.heap[b]? = some (.cells zero42 42 (0, 0))) (hB : B ≤ b) : y.ownsRow B 42 5 (.slice (some ⟨b, 0, none⟩) 0 1) 0 [] :=
  ⟨rfl, .inr ⟨b, 1, zero42, rfl, hB, h, by decide, by unfold maxLen; decide, rfl, rfl⟩⟩
set_option maxRecDepth 100000 in
theorem juFits (b off cap ob oc : Nat) (w : World) (h : HistAt w b off) (ho : w.cell? ⟨ob, 0, none⟩ = some (.int .i64 1)) :
    Calls Tryz.prog 48 #[.slice (some ⟨b, off, none⟩) 3 cap, .slice (some ⟨ob, 0, none⟩) 1 oc] w fun e w' => e = .returned (.bool true) ∧ Below w.heap.size w w' := by
  have hol := block_lt_of_cell ho
  have C1 := Lib.hid (hiRight b off cap w h)
  have HH := Lib.hid h
  have HO := Lib.hid ho
  obtain ⟨i0, z0, hi, hz0, hz1, hz2, hz3⟩ := info_42
  clear h ho
  go_enter Tryz.func48, Tryz.ntmps48
  go_wp2_with fail
  refine (C1.out).mono ?_
  rintro en y ⟨rfl, hby⟩
  have HB := Lib.hid hby
  have hwy := hby.size
  have C2 := Lib.hid (values93 (some ⟨ob, 0, none⟩) 1 oc y)
  clear hby C1
  go_wp2_with fail
  refine (C2.out).mono ?_
  rintro en y1 ⟨rfl, hy1⟩
  have hb1 : Below y.heap.size y y1 := by rw [hy1]; exact (Below.refl _ _).alloc (Nat.le_refl _) _
  have hn1 : y1.heap[y.heap.size]? = some (.cells #[.slice (some ⟨ob, 0, none⟩) 1 oc] 77 (0, 0)) := by rw [hy1]; exact Go.heap_alloc_new _ _
  have hbw1 := HB.out.trans (hb1.mono hwy)
  have C3 := Lib.hid (sorted92 y.heap.size ob 0 oc y1 (cell_of_row _ _ 0 _ _ _ hn1) (block_lt hn1) (Nat.lt_of_lt_of_le hol hbw1.size) ((hbw1.cell (p := ⟨ob, 0, none⟩) hol).trans HO.out))
  have HB1 := Lib.hid hbw1
  clear hb1 hn1 hbw1 hy1 C2 HB
  go_wp2_with fail
  refine (C3.out).mono ?_
  rintro en y2 ⟨v, rfl, hown, hby⟩
  obtain ⟨sb, sc, rfl, -, -, hr, -⟩ := owns_block hown (by decide)
  have s0 : y2.cell? ⟨sb, 0, none⟩ = some (.int .i64 1) := hr 0 _ rfl
  have hsl := block_lt_of_cell s0
  have HB2 := Lib.hid (HB1.out.trans (hby.mono HB1.out.size))
  have HS := Lib.hid s0
  have C4 := Lib.hid (hiIds b off cap y2 (HH.out.below HB2.out))
  clear hby hown hr C3 HB1 s0
  go_wp2_with fail
  refine (C4.out).mono ?_
  rintro en y3 ⟨v, rfl, hown, hby⟩
  obtain ⟨ib, ic, rfl, -, -, hr, -⟩ := owns_block hown (by decide)
  have s0 : y3.cell? ⟨ib, 0, none⟩ = some (.int .i64 1) := hr 0 _ rfl
  have HB3 := Lib.hid (HB2.out.trans (hby.mono HB2.out.size))
  have C5 := Lib.hid (equal94 sb ib sc ic y3 ((hby.cell (p := ⟨sb, 0, none⟩) hsl).trans HS.out) s0)
  clear hby hown hr C4 HB2 s0
  go_wp2_with fail
  refine (C5.out).mono ?_
  rintro en y4 ⟨rfl, hby⟩
  have HB4 := Lib.hid (HB3.out.trans (hby.mono HB3.out.size))
  have C6 := Lib.hid (hiSpans b off cap y4 (HH.out.below HB4.out))
  clear hby C5 HB3
  go_wp2_with fail
  refine (C6.out).mono ?_
  rintro en y5 ⟨pa, pc, rfl, hby⟩
  have HB5 := Lib.hid (HB4.out.trans (hby.mono HB4.out.size))
  have C7 := Lib.hid (timely95 pa pc ob oc y5 ((HB5.out.cell (p := ⟨ob, 0, none⟩) hol).trans HO.out))
  have C8 := Lib.hid (hiEntries b off cap y5 (HH.out.below HB5.out))
  clear hby C6 HB4
  go_wp2_with fail
  refine (C7.out).mono ?_
  rintro en y6 ⟨rfl, rfl⟩
  go_wp2_with fail
  refine (C8.out).mono ?_
  rintro en y6 ⟨v, wv, rfl, hown, hown2, hby⟩
  obtain ⟨eb, ec, rfl, -, hebl, her, -⟩ := owns_block hown (by decide)
  obtain ⟨wb, wc, rfl, -, hwbl, hwr, -⟩ := owns_block hown2 (by decide)
  have HB6 := Lib.hid (HB5.out.trans (hby.mono HB5.out.size))
  have HWR := Lib.hid hwr
  have HER := Lib.hid her
  clear hby hown hown2 C7 C8 HB5 hwr her
  have hmk := make38 y6
  generalize hZ4 : zero42 = Z4 at hmk
  go_upto_region 8 with fail
  have hnR : (y6.alloc (.cells Z4 42)).heap[y6.heap.size]? = some (.cells Z4 42 (0, 0)) := Go.heap_alloc_new _ _
  have hbR : Below y6.heap.size y6 (y6.alloc (.cells Z4 42)) := (Below.refl _ _).alloc (Nat.le_refl _) _
  have hw6 := HB6.out.size
  clear hmk
  generalize y6.alloc (.cells Z4 42) = y7 at *
  subst hZ4
  have hownR := owns_make hnR hw6
  have HB7 := Lib.hid (HB6.out.trans (hbR.mono hw6))
  have o0 := (HB7.out.cell (p := ⟨ob, 0, none⟩) hol).trans HO.out
  have her7 : y7.rangeAt eb 0 _ := fun j v hj => (hbR.cell (p := ⟨eb, 0 + j, none⟩) hebl).trans (HER.out j v hj)
  have e0 : y7.cell? ⟨eb, 0, none⟩ = some (.int .i64 1) := her7 0 _ rfl
  have e1 : y7.cell? ⟨eb, 1, none⟩ = some (.bool true) := her7 1 _ rfl
  have e2 : y7.cell? ⟨eb, 2, none⟩ = some (.bool true) := her7 2 _ rfl
  have e3 : y7.cell? ⟨eb, 3, none⟩ = some (.slice none 0 0) := her7 3 _ rfl
  have e4 : y7.cell? ⟨eb, 4, none⟩ = some (.slice (some ⟨wb, 0, none⟩) 1 wc) := her7 4 _ rfl
  have hwr7 : y7.rangeAt wb 0 step7.cells := fun j v hj => (hbR.cell (p := ⟨wb, 0 + j, none⟩) hwbl).trans (HWR.out j v hj)
  have hwb7 : wb < y7.heap.size := Nat.lt_of_lt_of_le hwbl hbR.size
  have HR7 := Lib.hid (And.intro hownR (And.intro hwr7 hwb7))
  have hw7 := HB7.out.size
  have ho42 : AllOne [.int .i64 1, .bool true, .bool true, .slice none 0 0, .slice (some ⟨wb, 0, none⟩) 1 wc] := by
    intro v hv
    simp at hv
    rcases hv with rfl | rfl | rfl | rfl <;> rfl
  have HO42 := Lib.hid ho42
  clear hnR hbR hownR her7 hwr7 hwb7 ho42 HB6
  generalize y6.heap.size = rb at *
  go_wp2_with fail
  refine wp_loop_rounds 2 ?_
  rw [rounds_succ]
  go_wp2_with (at_builtin; refine wpList_append_own _ rfl _ _ 38 rfl w.heap.size 42 i0 z0 5 64 Tryz.underlying38 hi hz0 hz1 hz2 hz3 (by decide) _ 0 [] rfl (HR7.out.1.alloc _) ⟨y7.heap.size, 0, none⟩ 1 1 [.int .i64 1, .bool true, .bool true, .slice none 0 0, .slice (some ⟨wb, 0, none⟩) 1 wc] rfl rfl (by exact news_new y7 [.int .i64 1, .bool true, .bool true, .slice none 0 0, .slice (some ⟨wb, 0, none⟩) 1 wc] 42) HO42.out (by unfold maxLen; omega) (by omega) (by simp; omega) ?_)
  intro v2 z2 hown2 hgrow _
  obtain ⟨vb, vc, rfl, -, hvl, hvr, -⟩ := owns_block hown2 (by decide)
  have hbA : Below y7.heap.size y7 (y7.alloc (.cells #[.int .i64 1, .bool true, .bool true, .slice none 0 0, .slice (some ⟨wb, 0, none⟩) 1 wc] 42)) := (Below.refl _ _).alloc (Nat.le_refl _) _
  have hch : Chg (fun b => b = rb) (y7.alloc (.cells #[.int .i64 1, .bool true, .bool true, .slice none 0 0, .slice (some ⟨wb, 0, none⟩) 1 wc] 42)) z2 := (Chg.refl _ _).grown hgrow (fun k e => by
    simp only [Value.ownBlock, Option.some.injEq] at e
    exact .inl e.symm)
  have hne : wb ≠ rb := by omega
  have hwbz : z2.heap[wb]? = y7.heap[wb]? := (hch.block wb (by have := hbA.size; have := HR7.out.2.2; omega) hne).trans (hbA.block wb HR7.out.2.2)
  have hwrz : z2.rangeAt wb 0 step7.cells := range_keep HR7.out.2.1 hwbz
  have hbz : Below w.heap.size w z2 := (HB7.out.trans (hbA.mono hw7)).trans (Chg.to_below (F := fun b => b = rb) hch (Nat.le_trans hw7 hbA.size) (fun _ hi => by rw [hi]; exact hw6))
  have hwbl2 : wb < z2.heap.size := by have := hch.size; have := hbA.size; have := HR7.out.2.2; omega
  have HZ := Lib.hid (And.intro hwrz (And.intro hwbl2 (And.intro hvl (And.intro hvr hbz))))
  have C9 := Lib.hid (begin81 64 z2 (by decide) (by decide))
  clear hown2 hgrow hbA hch hwbz hwrz hbz hwbl2 hvl hvr e0 e1 e2 e3 e4 o0
  go_wp2_with fail
  rw [rounds_succ]
  go_wp2_with fail
  refine (C9.out).mono ?_
  rintro en z3 ⟨bv, rfl, hown, hby⟩
  obtain ⟨bb, bc, rfl, -, -, -, -⟩ := owns_block hown (by decide)
  have hvr3 : z3.rangeAt vb 0 [.int .i64 1, .bool true, .bool true, .slice none 0 0, .slice (some ⟨wb, 0, none⟩) 1 wc] := fun j v hj => (hby.cell (p := ⟨vb, 0 + j, none⟩) HZ.out.2.2.1).trans (HZ.out.2.2.2.1 j v hj)
  have hwr3 : z3.rangeAt wb 0 step7.cells := fun j v hj => (hby.cell (p := ⟨wb, 0 + j, none⟩) HZ.out.2.1).trans (HZ.out.1 j v hj)
  have C10 := Lib.hid (all98 (some ⟨bb, 0, none⟩) 64 bc vb vc wb wc (reps [.int .i64 1, .int .i64 0] 64) z3 (by decide) (by decide) (RowAt.of_owns hown) (by
    intro v hv
    simp only [reps, List.mem_flatten, List.mem_replicate] at hv
    obtain ⟨l, ⟨-, rfl⟩, hl⟩ := hv
    simp at hl
    rcases hl with rfl | rfl <;> rfl) (Nat.lt_of_lt_of_le HZ.out.2.1 hby.size) hwr3 hvr3)
  have HB9 := Lib.hid (HZ.out.2.2.2.2.trans (hby.mono HZ.out.2.2.2.2.size))
  clear hown hby hvr3 hwr3 C9 HZ
  go_wp2_with fail
  refine (C10.out).mono ?_
  rintro en z4 ⟨rv, rfl, hby⟩
  have HB10 := Lib.hid (HB9.out.trans (hby.mono HB9.out.size))
  clear hby C10
  go_wp2_with fail
  go_ret
  exact ⟨rfl, HB10.out⟩
set_option maxRecDepth 100000 in
theorem juOpaque (b off cap : Nat) (w : World) (h : HistAt w b off) (hT : Tab w) :
    Calls Tryz.prog 21 #[.slice (some ⟨b, off, none⟩) 3 cap] w fun e w' => e = .returned (.bool true) ∧ Below w.heap.size w w' := by
  have C1 := Lib.hid (juFind b off cap w h hT)
  have HH := Lib.hid h
  clear h hT
  go_enter Tryz.func21, Tryz.ntmps21
  go_wp2_with fail
  refine (C1.out).mono ?_
  rintro en y ⟨v, rfl, hown, hby⟩
  obtain ⟨ob, oc, rfl, -, -, hr, -⟩ := owns_block hown (by decide)
  have C2 := Lib.hid (juFits b off cap ob oc y (HH.out.below hby) (hr 0 _ rfl))
  have HB := Lib.hid hby
  clear hown hby hr C1
  go_wp2_with fail
  refine (C2.out).mono ?_
  rintro en z ⟨rfl, hby⟩
  have HF := Lib.hid (HB.out.trans (hby.mono HB.out.size))
  clear hby C2
  go_wp2_with fail
  go_ret
  exact ⟨rfl, HF.out⟩
end Go.Proofs.YteflpdhgojcmcaaGreatDoor
namespace Go.Proofs.YteflpdhgojcmcaaGreatDoor
open Go.RowKit PSet PMat
def fixedB (M : WorM) : Bool := match M.seats, M.eng.log with
  | [m], [e] => decide (m.thr.ops = writerOps 0 6) && decide (m.thr.fuel = 9) && decide (m.thr.state = 3) && decide (m.thr.id = 1) && decide (m.thr.cpu.regs = [(2, 0), (1, 7), (0, 0), (0, 0), (0, 0), (0, 0), (0, 0), (0, 0)]) &&
    decide (M.eng.live = none) && decide (e.id = 1) && decide (e.com = true) && decide (M.eng.vals = [(1, 7)]) && decide (M.evs = evs3)
  | _, _ => false
theorem fixed_is : ((((WorM.new 1 2).add (writerOps 0 6) 9).rounds 9).any fixedB) = true := by decide +kernel
theorem fixed_says : ∃ F m e0, ((WorM.new 1 2).add (writerOps 0 6) 9).rounds 9 = some F ∧ Fixed F m e0 ∧ F.evs = evs3 := by
  have h := fixed_is
  cases hr : ((WorM.new 1 2).add (writerOps 0 6) 9).rounds 9 with
  | none => rw [hr] at h; cases h
  | some F =>
    rw [hr] at h
    simp only [Option.any_some] at h
    unfold fixedB at h
    match hs : F.seats, hl : F.eng.log, h with
    | [m], [e], h =>
      simp only [Bool.and_eq_true, decide_eq_true_eq] at h
      obtain ⟨⟨⟨⟨⟨⟨⟨⟨⟨a1, a2⟩, a3⟩, a4⟩, a5⟩, a6⟩, a7⟩, a8⟩, a9⟩, a10⟩ := h
      exact ⟨F, m, e, rfl, ⟨hs, a1, a2, a3, a4, a5, a6, hl, a7, a8, a9⟩, a10⟩
set_option maxRecDepth 100000 in
set_option maxHeartbeats 1000000 in
theorem works5 (w : World) (hT : Tab w) : Calls Tryz.prog 5 #[] w fun e w' => e = .returned (.bool true) ∧ Below w.heap.size w w' := by
  obtain ⟨F, m, e0, hF, hfx, hev⟩ := fixed_says
  have hp := hT.pos
  have C1 := Lib.hid (scNewGraph 3 1 2 w (by decide) (by decide) (by decide))
  have HF := Lib.hid (And.intro hF (And.intro hfx hev))
  have HT := Lib.hid hT
  clear hF hfx hev hT
  go_enter Tryz.func5, Tryz.ntmps5
  go_wp2_with fail
  refine (C1.out).mono ?_
  rintro en y ⟨q, g, rfl, hw, hby⟩
  have HW := Lib.hid hw
  have HB := Lib.hid hby
  have hwy := hby.size
  clear hw hby C1
  go_wp2_with fail
  have hbY : Below y.heap.size y (y.alloc (.cells (opsC (writerOps 0 6)).toArray 50)) := (Below.refl _ _).alloc (Nat.le_refl _) _
  have hnY := Go.heap_alloc_new y (.cells (opsC (writerOps 0 6)).toArray 50)
  refine (scAdd ⟨false, g⟩ w.heap.size _ q _ (writerOps 0 6) 9 y.heap.size 0 3 (HW.out.later hbY) (Nat.le_trans hwy hbY.size) (block_lt hnY) (range_of_block hnY) (by decide) (by decide)).mono ?_
  rintro en y2 ⟨rfl, hw2, hl2⟩
  have hb2 := HB.out.trans ((hbY.mono hwy).trans (Lim.to_below (E := WT) hl2 (Nat.le_trans hwy hbY.size)))
  have HW2 := Lib.hid hw2
  have HB2 := Lib.hid hb2
  have hw2s := hb2.size
  clear hw2 hl2 hb2 hbY hnY HW HB
  have C2 := Lib.hid (scRounds ⟨false, g⟩ w.heap.size y2 q _ F 9 HW2.out hw2s hp (HT.out.below hp HB2.out) (by decide) HF.out.1)
  go_wp2_with fail
  refine (C2.out).mono ?_
  rintro en y3 ⟨rfl, hw3, hl3⟩
  have hb3 := HB2.out.trans (Lim.to_below (E := WT) hl3 hw2s)
  obtain ⟨t, r, -, hcell, hc10⟩ := scThreadM hw3 0 m (by rw [HF.out.2.1.seats]; rfl)
  have hc11 := thState t m.thr.state y3 hcell
  rw [HF.out.2.1.state] at hc11
  have C3 := Lib.hid hc10
  have C4 := Lib.hid hc11
  have HW3 := Lib.hid hw3
  have HB3 := Lib.hid hb3
  have c5 := scValues hw3
  rw [HF.out.2.1.vals] at c5
  have C5 := Lib.hid c5
  clear hw3 hl3 hb3 hcell hc10 hc11 c5 C2 HW2 HB2
  go_wp2_with fail
  refine (C3.out).mono ?_
  rintro en z ⟨rfl, rfl⟩
  go_wp2_with fail
  refine (C4.out).mono ?_
  rintro en z ⟨rfl, rfl⟩
  go_wp2_with fail
  refine (C5.out).mono ?_
  rintro en y4 ⟨v, rfl, hown, hby⟩
  obtain ⟨nb, nc, rfl, -, -, hr, -⟩ := owns_block hown (by decide)
  have n0 : y4.cell? ⟨nb, 0, none⟩ = some (.int .i64 1) := hr 0 _ rfl
  have n1 : y4.cell? ⟨nb, 1, none⟩ = some (.int .i64 7) := hr 1 _ rfl
  have hb4 := HB3.out.trans (hby.mono HB3.out.size)
  have HW4 := Lib.hid (HW3.out.later hby)
  have C6 := Lib.hid (fits20 w.heap.size y4 q g F m e0 HW4.out HF.out.2.1)
  have HB4 := Lib.hid hb4
  clear hown hr hby hb4 C3 C4 C5 HW3 HB3
  simp only [List.length_cons, List.length_nil, Nat.zero_add]
  go_wp2_with fail
  refine (C6.out).mono ?_
  rintro en y5 ⟨rfl, hby⟩
  have hb5 := HB4.out.trans (hby.mono HB4.out.size)
  have c7 := scHistory (HW4.out.later hby)
  rw [HF.out.2.2] at c7
  have C7 := Lib.hid c7
  have HB5 := Lib.hid hb5
  clear hby hb5 c7 C6 HB4 HW4 n0 n1
  go_wp2_with fail
  refine (C7.out).mono ?_
  rintro en y6 ⟨v, rfl, hown, hby⟩
  obtain ⟨hb, hc, rfl, -, hhl, hr, -⟩ := owns_block hown (by decide)
  have hb6 := HB5.out.trans (hby.mono HB5.out.size)
  have C8 := Lib.hid (juOpaque hb 0 hc y6 ⟨hhl, hr⟩ (HT.out.below hp hb6))
  have HB6 := Lib.hid hb6
  clear hown hby hhl hr hb6 C7 HB5
  go_wp2_with fail
  refine (C8.out).mono ?_
  rintro en y7 ⟨rfl, hby⟩
  have HB7 := Lib.hid (HB6.out.trans (hby.mono HB6.out.size))
  clear hby C8 HB6
  go_wp2_with fail
  go_ret
  exact ⟨rfl, HB7.out⟩
end Go.Proofs.YteflpdhgojcmcaaGreatDoor
namespace Go.Proofs.YteflpdhgojcmcaaGreatDoor
open Go.ChangeShapes Go.WideShapes Go.ChangeAt Go.RowKit
theorem own : ownKnob Tryz.prog.godebug = none := by kernel_rfl
theorem laidOut : laidOutB Tryz.prog = true := by kernel_rfl
theorem gTab : Tryz.prog.globalNamed "math/bits.deBruijn64tab" = some 0 := by kernel_rfl
theorem gTabType : (Tryz.prog.globals[0]?).map (·.type) = some 373 := by kernel_rfl
theorem cells373 : Tryz.prog.cellsOf 373 = 64 := by kernel_rfl
theorem cells5 : Tryz.prog.cellsOf 5 = 1 := by kernel_rfl
/-- The table's numbers. -/
def tabI : List Int := [0, 1, 56, 2, 57, 49, 28, 3, 61, 58, 42, 50, 38, 29, 17, 4, 62, 47, 59, 36, 45, 43, 51, 22, 53, 39, 33, 30, 24, 18, 12, 5, 63, 55, 48, 27, 60, 41, 37, 16, 46, 35, 44, 21, 52, 32, 23, 11, 54, 26, 40, 15, 34, 20, 31, 10, 25, 14, 19, 9, 13, 8, 7, 6]
theorem tabI_eq : ∀ j, j < 64 → tabI.getD j 0 = ((Lib.deBruijn64tab.getD j 0 : Nat) : Int) := by decide +kernel
theorem tab_length : Lib.deBruijn64tab.length = 64 := by decide +kernel
theorem tabI_length : tabI.length = 64 := by decide +kernel
/-- WHAT THE ROW's LIST GIVES: the table's cells hold its numbers. -/
theorem tab_of_laid {W : World} (h : laidMetH Tryz.prog [("math/bits.deBruijn64tab", Rows.laid_math_bits_deBruijn64tab)] W) : TabAt 0 Lib.deBruijn64tab W := by
  have ht : Lib.TabIs Tryz.prog W "math/bits.deBruijn64tab" .u8 tabI := Lib.tabIs_of_head (rest := []) gTab gTabType Tryz.underlying373 Tryz.underlying5 cells5 cells373 h
  intro j hj
  rw [tab_length] at hj
  rw [← tabI_eq j hj]
  exact ht.cell gTab j (by rw [tabI_length]; exact hj)
/-- A world for the witness: the settled one, the table (block 0) holding what its initialiser lays. -/
noncomputable def laidWorld (os : Os) : World :=
  { World.holding Tryz.prog os ⟨#[], #[], []⟩ with heap := (World.holding Tryz.prog os ⟨#[], #[], []⟩).heap.modify 0 fun
      | .cells _ t frozen => .cells (tabI.map fun n => Value.int .u8 n).toArray t frozen
      | o => o }
/-- What a law's end owes: it returned true, below the heap's old size nothing has turned, the arguments read as they did. -/
theorem law_post {H : Type} {enc : TypeId × Value → H} {f : Func} {s : ChangeSpec} {W W' : World} {args : Array Value} {ds : List (DataW H)} {before pa : List MemPlace}
    (hW : DataW.Whole enc Tryz.prog f.params.toList s.vars false W args.toList ds [] before) (hvars : s.vars = [])
    (hfn : s.fn H (ds ++ []) = { results := [.lit (.bool true)], args := ds }) (hrt : f.resultTypes = #[4]) (hb : Below W.heap.size W W')
    (hargs : DataW.TrodAll enc Tryz.prog W' 0 (fun b => decide (b < W.heap.size)) true f.params.toList args.toList ds pa) :
    s.post enc Tryz.prog f false true false false W args (.bool true) W' := by
  refine ⟨ds, [], before, [], pa, [], hW, ?_, ?_, ?_, hb.frame _, fun h => by cases h⟩
  · rw [hfn, hrt]
    exact trodAll_mk1 (shut_bool Tryz.underlying4 _)
  · rw [hfn]
    exact hargs
  · rw [hfn, hvars]
    exact rfl
/-- A slice of small numbers that came in: its value, and what its cells read as. -/
theorem open_picks {H : Type} {enc : TypeId × Value → H} {W : World} {fuel : Nat} {v : Value} {x : DataW H × List MemPlace} (h : DataW.trod enc Tryz.prog W 0 (fun _ => true) true fuel 25 [v] = some x) :
    ∃ (a : Option Addr) (len cap : Nat) (ps : List Value), v = .slice a len cap ∧ RowAt W v len 1 ps ∧ ∀ u ∈ ps, ∃ m : Nat, m < 256 ∧ u = .int .u8 (m : Int) := by
  rcases open_ints Tryz.underlying25 Tryz.underlying5 cells5 h with ⟨hcs, _⟩ | ⟨a, len, cap, zs, hcs, _, hl, hm, hz, _, hcell, hwf⟩
  · simp at hcs
    obtain rfl := hcs
    exact ⟨none, 0, 0, [], rfl, RowAt.nil W 1, fun u hu => by simp at hu⟩
  · simp at hcs
    obtain rfl := hcs
    have hz' : zs.length = cap := by simpa using hz
    have hlen : (zs.take len).length = len := by rw [List.length_take]; omega
    refine ⟨some a, len, cap, (zs.take len).map fun n => Value.int .u8 n, rfl, ?_, ?_⟩
    · refine ⟨by rw [List.length_map, hlen, Nat.mul_one], some a, cap, rfl, fun hn => ?_⟩
      obtain ⟨b, off, rfl, hc⟩ := ints_at hcell (by omega : 0 < zs.length)
      refine ⟨b, off, rfl, World.block_lt_of_cell? _ _ (hc 0 (by omega)), ?_⟩
      intro k v hv
      have hk : k < len := by
        have := (List.getElem?_eq_some_iff.1 hv).1
        rwa [List.length_map, hlen] at this
      rw [hc k (by omega), ← hv]
      simp [List.getD, hk, show k < zs.length by omega]
    · intro u hu
      obtain ⟨n, hn, rfl⟩ := List.mem_map.1 hu
      have b := bounds_u8 (hwf n (List.mem_of_mem_take hn))
      obtain ⟨m, rfl⟩ := Int.eq_ofNat_of_zero_le b.1
      exact ⟨m, by omega, rfl⟩
end Go.Proofs.YteflpdhgojcmcaaGreatDoor
