/- A new world on the graph. What a world tells of its threads. The law's closure: a job that writes. The law's worlds, as models: a trial of all of it. The plain law of WholeParked: the few worlds that come up. Rounds that change nothing more. What the picks leave. No conditions but those that each theorem names. -/
import Derived.Test.YteflpdhgojcmcaaGreatDoorU01
import Derived.Test.YteflpdhgojcmcaaGreatDoorU34
namespace Go.Proofs.YteflpdhgojcmcaaGreatDoor
open Go.RowKit PSet PMat
theorem LogAt.base {B B' : Nat} {w : World} (hB : B' ≤ B) : ∀ {l : List EntM} {lgs : List Value}, LogAt B w lgs l → LogAt B' w lgs l
  | [], _, h => h
  | _ :: _, _, ⟨rv, wv, rest, h1, h2, h3, h4⟩ => ⟨rv, wv, rest, h1, owns_mono h2 hB, owns_mono h3 hB, LogAt.base hB h4⟩
theorem GrS.base {B B' : Nat} {w : World} {g : Nat} {e : EngM} (h : GrS B w g e) (hB : B' ≤ B) : GrS B' w g e := by
  obtain ⟨L, v, K, lg, ct, s, lgs, z, h⟩ := h
  exact ⟨L, v, K, lg, ct, s, lgs, z, { h with base := Nat.le_trans hB h.base, store := owns_mono h.store hB, log := owns_mono h.log hB, logs := LogAt.base hB h.logs, tx := fun t ht => (h.tx t ht).imp_right fun h2 => h2.imp_right fun ⟨ta, tc, a3, a4, a5⟩ => ⟨ta, tc, a3, owns_mono a4 hB, a5⟩ }⟩
set_option maxRecDepth 100000 in
theorem scNewGraph (z n : Nat) (tries : Int) (w : World) (hz : z = 3 ∨ z = 4) (hn : 1 ≤ n ∧ n ≤ 64) (ht : 1 ≤ tries) :
    Calls Tryz.prog 14 #[.bool false, .int .i64 z, .int .i64 n, .int .i64 tries] w fun en w' => ∃ q g, en = .returned (.pointer (some ⟨q, 0, none⟩)) ∧ WorS ⟨false, g⟩ w.heap.size w' q (WorM.new n tries) ∧ Below w.heap.size w w' := by
  obtain ⟨W, hW⟩ : ∃ W, W = w.alloc (.cells #[.pointer none, .nilFunc, .slice none 0 0, .slice none 0 0, .slice none 0 0, .int .i64 tries] 81) := ⟨_, rfl⟩
  have hbW : Below w.heap.size w W := by rw [hW]; exact (Below.refl _ _).alloc (Nat.le_refl _) _
  have hrW : W.heap[w.heap.size]? = some (.cells #[.pointer none, .nilFunc, .slice none 0 0, .slice none 0 0, .slice none 0 0, .int .i64 tries] 81 (0, 0)) := by rw [hW]; exact Go.heap_alloc_new _ _
  have C1 := Lib.hid (gsNew z n W hz hn)
  have HRW := Lib.hid hrW
  have HBW := Lib.hid hbW
  clear hbW hrW
  go_enter Tryz.func14, Tryz.ntmps14
  go_wp2_with fail
  rw [← hW]
  clear hW
  refine (C1.out).mono ?_
  rintro en y0 ⟨g, rfl, hg, hE, hby0⟩
  obtain ⟨y, hy⟩ : ∃ y, y = y0.alloc (.cells #[.pointer (some ⟨g, 0, none⟩)] 101) := ⟨_, rfl⟩
  have hb0 : Below y0.heap.size y0 y := by rw [hy]; exact (Below.refl _ _).alloc (Nat.le_refl _) _
  have hcy : y.heap[y0.heap.size]? = some (.cells #[.pointer (some ⟨g, 0, none⟩)] 101 (0, 0)) := by rw [hy]; exact Go.heap_alloc_new _ _
  have hby : Below W.heap.size W y := hby0.trans (hb0.mono hby0.size)
  have hE := hE.lim (E := fun _ => false) (B' := W.heap.size) (Lim.of_below hb0) rfl rfl rfl rfl
  have k0 := cell_of_row _ _ 0 _ _ _ hcy
  have HCY := Lib.hid hcy
  have HY := Lib.hid (And.intro hg (And.intro hE hby))
  have hry := (hby.block _ (block_lt HRW.out)).trans HRW.out
  have C2 := Lib.hid (reRecord 101 (.pointer (some ⟨g, 0, none⟩)) y rfl)
  have HRY := Lib.hid hry
  have q0 := cell_of_row _ _ 0 _ _ _ hry
  have q1 := cell_of_row _ _ 1 _ _ _ hry
  have hlt := block_lt hry
  clear hg hE hby hry hb0 hby0 hcy
  go_upto_region 8 with fail
  rw [← hy]
  clear hy
  generalize y0.heap.size = cn at *
  go_wp2_with fail
  refine (C2.out).mono ?_
  rintro en z2 ⟨rfl, hz2⟩
  have hbz : Below y.heap.size y z2 := by rw [hz2]; exact (Below.refl _ _).alloc (Nat.le_refl _) _
  have hrz : z2.heap[y.heap.size]? = some (.cells #[.iface 101 (.pointer (some ⟨g, 0, none⟩)), .slice none 0 0] 128 (0, 0)) := by rw [hz2]; exact Go.heap_alloc_new _ _
  obtain ⟨rn, hrn⟩ : ∃ rn, rn = y.heap.size := ⟨_, rfl⟩
  have hrq : w.heap.size < rn := by rw [hrn]; exact hlt
  have hqz := (hbz.block _ hlt).trans HRY.out
  have HE := Lib.hid (HY.out.2.1.lim (E := fun _ => false) (B' := W.heap.size) (Lim.of_below hbz) rfl rfl rfl rfl)
  have HB := Lib.hid ((HBW.out.trans (HY.out.2.2.mono HBW.out.size)).trans (hbz.mono (Nat.le_of_lt hlt)))
  rw [← hrn] at hrz ⊢
  have q0 := cell_of_row _ _ 0 _ _ _ hqz
  have q1 := cell_of_row _ _ 1 _ _ _ hqz
  have qf := fun j => frozen_of_row _ _ j _ _ hqz
  have hcz := (hbz.block _ (block_lt HCY.out)).trans HCY.out
  have HZ := Lib.hid (And.intro hqz (And.intro hrz hcz))
  clear hcz
  clear hz2 hbz hrz hqz hrn
  go_wp2_with fail
  go_ret
  have h1 := heap_setCell_same _ w.heap.size 1 _ _ (.func (.func 32) #[] #[.pointer (some ⟨cn, 0, none⟩)]) (heap_setCell_same z2 w.heap.size 0 _ _ (.pointer (some ⟨rn, 0, none⟩)) HZ.out.1)
  have hc : Chg (fun b => b = w.heap.size) z2 ((z2.setCell ⟨w.heap.size, 0, none⟩ (.pointer (some ⟨rn, 0, none⟩))).setCell ⟨w.heap.size, 1, none⟩ (.func (.func 32) #[] #[.pointer (some ⟨cn, 0, none⟩)])) := Chg.setCell (F := fun b => b = w.heap.size) (Chg.setCell (F := fun b => b = w.heap.size) (Chg.refl _ _) (p := ⟨w.heap.size, 0, none⟩) (.inl rfl) _) (p := ⟨w.heap.size, 1, none⟩) (.inl rfl) _
  have hl : Lim (fun t => t == 81) w.heap.size z2 _ := Chg.weak (F := fun b => b = w.heap.size) (G := InT (fun t => t == 81) w.heap.size z2) hc fun j hj => .inl (by subst hj; exact ⟨Nat.le_refl _, _, _, _, HZ.out.1, rfl⟩)
  refine ⟨w.heap.size, g, rfl, ⟨rn, _, _, _, _, _, WorI.begin (kd := ⟨false, g⟩) h1 (Nat.le_refl _) ⟨rfl, cn, rfl, block_lim HZ.out.2.2 hl rfl⟩ (block_lim HZ.out.2.1 hl rfl) (Nat.le_of_lt hrq) ?_⟩, (HB.out.setCell (p := ⟨w.heap.size, 0, none⟩) (Nat.le_refl _) _).setCell (p := ⟨w.heap.size, 1, none⟩) (Nat.le_refl _) _⟩
  exact EngS.lim (kd := false) (show EngS false w.heap.size z2 g (EngM.new n) from GrS.base HE.out HBW.out.size) hl (by decide)
end Go.Proofs.YteflpdhgojcmcaaGreatDoor
namespace Go.Proofs.YteflpdhgojcmcaaGreatDoor
open Go.RowKit PSet PMat
theorem scThreadM {kd : Kd} {B : Nat} {w : World} {q : Nat} {M : WorM} (h : WorS kd B w q M) (i : Nat) (m : SeatM) (hm : M.seats[i]? = some m) :
    ∃ t r, ThrS B w t r m.thr ∧ w.cell? ⟨t, 38, none⟩ = some (.int .i64 m.thr.state) ∧ Calls Tryz.prog 10 #[.pointer (some ⟨q, 0, none⟩), .int .i64 ((i + 1 : Nat) : Int)] w fun e w' => e = .returned (.pointer (some ⟨t, 0, none⟩)) ∧ w = w' := by
  obtain ⟨r, ent, sv, pv, ss, ts, h⟩ := h
  have hi : i < M.seats.length := (List.getElem?_eq_some_iff.1 hm).1
  obtain ⟨s, hs⟩ : ∃ s, ss[i]? = some s := ⟨_, List.getElem?_eq_getElem (by rw [h.len]; exact hi)⟩
  obtain ⟨t, ht⟩ : ∃ t, ts[i]? = some t := ⟨_, List.getElem?_eq_getElem (by rw [h.len2]; exact hi)⟩
  have hse := h.each i s t m hs ht hm
  obtain ⟨-, va, vc, rfl, hva⟩ := RowAt.of_owns h.seats
  obtain ⟨b, off, rfl, -, -⟩ := hva (by rw [h.len]; omega)
  obtain ⟨c0, -, c2, -, -, -⟩ := h.cells
  have hcell : w.cell? ⟨t, 38, none⟩ = some (.int .i64 m.thr.state) := by
    obtain ⟨ov, hth⟩ := hse.thr
    exact hth.cells.2.2.2.1
  exact ⟨t, r, hse.thr, hcell, scThread q r b off ss.length vc s i _ w c0 c2 (by rw [h.len]; exact hi) (by have := h.few; have := h.len; omega) (h.seatAt hs) hse.cells.1⟩
set_option maxRecDepth 100000 in
theorem thRegs (B : Nat) (w : World) (t r : Nat) (m : ThrM) (k0 n0 k1 n1 k2 n2 k3 n3 k4 n4 k5 n5 k6 n6 k7 n7 : Int) (h : ThrS B w t r m) (hr : m.cpu.regs = [(k0, n0), (k1, n1), (k2, n2), (k3, n3), (k4, n4), (k5, n5), (k6, n6), (k7, n7)]) :
    Calls Tryz.prog 18 #[.pointer (some ⟨t, 0, none⟩)] w fun en w' => en = .returned (.agg #[.int .i64 k0, .int .i64 n0, .int .i64 k1, .int .i64 n1, .int .i64 k2, .int .i64 n2, .int .i64 k3, .int .i64 n3, .int .i64 k4, .int .i64 n4, .int .i64 k5, .int .i64 n5, .int .i64 k6, .int .i64 n6, .int .i64 k7, .int .i64 n7]) ∧ Below w.heap.size w w' := by
  obtain ⟨ov, h⟩ := h
  have hT : m.row r ov = [.iface 74 (.pointer (some ⟨r, 0, none⟩)), ov, .int .i64 0, .int .i64 0, .int .i64 0, .int .i64 0, .int .i64 0, .int .i64 0, .int .i64 0, .int .i64 0, .int .i64 0, .int .i64 0, .int .i64 0, .int .i64 0, .int .i64 0, .int .i64 0, .int .i64 0, .int .i64 0, .int .i64 m.fuel, .int .i64 (m.cpu.pc : Int), .int .i64 (m.cpu.used : Int), .int .i64 k0, .int .i64 n0, .int .i64 k1, .int .i64 n1, .int .i64 k2, .int .i64 n2, .int .i64 k3, .int .i64 n3, .int .i64 k4, .int .i64 n4, .int .i64 k5, .int .i64 n5, .int .i64 k6, .int .i64 n6, .int .i64 k7, .int .i64 n7, .slice none 0 0, .int .i64 m.state, .int .i64 m.id, .int .i64 m.fin, .int .i64 m.failed, .int .u64 (m.reads : Int), .int .u64 (m.writes : Int)] := by
    simp [ThrM.row, ThrM.head, ThrM.tail, CpuM.cells, hr, regsC, regC, zeroRegs]
  obtain ⟨-, oa, oc, rfl, -⟩ := RowAt.of_owns h.ops
  obtain ⟨W, hW⟩ : ∃ W, W = w.alloc (.cells #[.int .i64 0, .int .i64 0, .int .i64 0, .int .i64 0, .int .i64 0, .int .i64 0, .int .i64 0, .int .i64 0, .int .i64 0, .int .i64 0, .int .i64 0, .int .i64 0, .int .i64 0, .int .i64 0, .int .i64 0, .int .i64 0] 55) := ⟨_, rfl⟩
  have hbW : Below w.heap.size w W := by rw [hW]; exact (Below.refl _ _).alloc (Nat.le_refl _) _
  have hrW : W.heap[w.heap.size]? = some (.cells #[.int .i64 0, .int .i64 0, .int .i64 0, .int .i64 0, .int .i64 0, .int .i64 0, .int .i64 0, .int .i64 0, .int .i64 0, .int .i64 0, .int .i64 0, .int .i64 0, .int .i64 0, .int .i64 0, .int .i64 0, .int .i64 0] 55 (0, 0)) := by rw [hW]; exact Go.heap_alloc_new _ _
  have C := Lib.hid (thSome t (m.row r (.slice oa m.ops.length oc)) W ((h.lim (E := fun _ => false) (B' := B) (Lim.of_below hbW) rfl rfl).at))
  rw [hT] at C
  have HRW := Lib.hid hrW
  have HBW := Lib.hid hbW
  clear h hT hr hbW hrW
  go_enter Tryz.func18, Tryz.ntmps18
  go_wp2_with fail
  rw [← hW]
  clear hW
  refine (C.out).mono ?_
  rintro en y ⟨rfl, hby⟩
  have hry := (hby.block _ (block_lt HRW.out)).trans HRW.out
  have HRY := Lib.hid hry
  have HB := Lib.hid (HBW.out.trans (hby.mono HBW.out.size))
  clear hby hry
  obtain ⟨RA, hRA⟩ : ∃ RA : Array Value, RA = #[.int .i64 k0, .int .i64 n0, .int .i64 k1, .int .i64 n1, .int .i64 k2, .int .i64 n2, .int .i64 k3, .int .i64 n3, .int .i64 k4, .int .i64 n4, .int .i64 k5, .int .i64 n5, .int .i64 k6, .int .i64 n6, .int .i64 k7, .int .i64 n7] := ⟨_, rfl⟩
  have hsz : RA.size = 16 := by rw [hRA]; rfl
  have hone : RA.all (·.oneCell') = true := by rw [hRA]; kernel_rfl
  have HRA := Lib.hid hRA
  clear hRA
  dsimp only
  go_step
  refine wpList_yields (v := .agg #[.int .i64 (m.cpu.pc : Int), .int .i64 (m.cpu.used : Int), .int .i64 k0, .int .i64 n0, .int .i64 k1, .int .i64 n1, .int .i64 k2, .int .i64 n2, .int .i64 k3, .int .i64 n3, .int .i64 k4, .int .i64 n4, .int .i64 k5, .int .i64 n5, .int .i64 k6, .int .i64 n6, .int .i64 k7, .int .i64 n7, .slice none 0 0]) rfl (by kernel_rfl) ?_
  simp only [Act.put, pt1, pt2, pt3]
  refine wpList_yields (v := .agg RA) rfl (by rw [HRA.out]; kernel_rfl) ?_
  simp only [Act.put, pt1, pt2, pt3]
  have hinfo : (Tryz.prog.info? 55).map (·.size) = some RA.size := by rw [hsz]; kernel_rfl
  refine wpList_store_row rfl 55 _ _ rfl w.heap.size RA rfl rfl 55 #[.int .i64 0, .int .i64 0, .int .i64 0, .int .i64 0, .int .i64 0, .int .i64 0, .int .i64 0, .int .i64 0, .int .i64 0, .int .i64 0, .int .i64 0, .int .i64 0, .int .i64 0, .int .i64 0, .int .i64 0, .int .i64 0] HRY.out hinfo (by rw [hsz]; rfl) hone ?_
  simp only [Act.put]
  go_wp2_with fail
  refine bodyPost_ret (results_cell_row rfl _ _ w.heap.size 55 RA (0, 0) _ rfl (block_setRow_same HRY.out) Tryz.underlying55 rfl hinfo) rfl ⟨by rw [HRA.out], ?_⟩
  exact below_setRow' HB.out (Nat.le_refl _) _
end Go.Proofs.YteflpdhgojcmcaaGreatDoor
namespace Go.Proofs.YteflpdhgojcmcaaGreatDoor
open Go.RowKit PSet PMat
def writerOps (x n : Int) : List OpM := [⟨2, 0, x, 0, 0⟩, ⟨0, 1, 0, 0, 1 + n⟩, ⟨9, 0, 1, 0, 0⟩]
set_option maxRecDepth 100000 in
theorem writer16 (x : Int) (n : Nat) (nb : Nat) (w : World) (hn : n < 256) (h : w.cell? ⟨nb, 0, none⟩ = some (.int .u8 (n : Int))) :
    Calls Tryz.prog 16 #[.int .i64 x, .pointer (some ⟨nb, 0, none⟩)] w fun en w' => ∃ b, en = .returned (.agg #[.slice (some ⟨b, 0, none⟩) 3 3, .int .i64 0, .int .i64 0, .int .i64 0, .int .i64 0, .int .i64 0, .int .i64 0, .int .i64 0, .int .i64 0, .int .i64 0, .int .i64 0, .int .i64 0, .int .i64 0, .int .i64 0, .int .i64 0, .int .i64 0, .int .i64 0, .int .i64 20]) ∧ b < w'.heap.size ∧ w'.rangeAt b 0 (opsC (writerOps x (n : Int))) ∧ Below w.heap.size w w' := by
  have hl := block_lt_of_cell h
  have g0 : (0 : Int) ≤ (n : Int) := by omega
  have g1 : (n : Int) < 256 := by omega
  obtain ⟨W, hW⟩ : ∃ W, W = w.alloc (.cells #[.slice none 0 0, .int .i64 0, .int .i64 0, .int .i64 0, .int .i64 0, .int .i64 0, .int .i64 0, .int .i64 0, .int .i64 0, .int .i64 0, .int .i64 0, .int .i64 0, .int .i64 0, .int .i64 0, .int .i64 0, .int .i64 0, .int .i64 0, .int .i64 0] 57) := ⟨_, rfl⟩
  have hbW : Below w.heap.size w W := by rw [hW]; exact (Below.refl _ _).alloc (Nat.le_refl _) _
  have hrW : W.heap[w.heap.size]? = some (.cells #[.slice none 0 0, .int .i64 0, .int .i64 0, .int .i64 0, .int .i64 0, .int .i64 0, .int .i64 0, .int .i64 0, .int .i64 0, .int .i64 0, .int .i64 0, .int .i64 0, .int .i64 0, .int .i64 0, .int .i64 0, .int .i64 0, .int .i64 0, .int .i64 0] 57 (0, 0)) := by rw [hW]; exact Go.heap_alloc_new _ _
  have h1 := (hbW.cell (p := ⟨nb, 0, none⟩) hl).trans h
  have HRW := Lib.hid hrW
  have HBW := Lib.hid hbW
  have hlt := block_lt hrW
  clear h hbW hrW
  go_enter Tryz.func16, Tryz.ntmps16
  go_upto_region 1 with fail
  rw [← hW]
  clear hW
  apply wp_region_lit
  refine wpList_yields (v := ?_) rfl ?_ ?_
  rotate_left
  · go_simp; try with_reducible rfl
  simp only [Act.put, pt1, pt2, pt3]
  refine wpList_yields (v := ?_) rfl ?_ ?_
  rotate_left
  · go_simp; try with_reducible rfl
  simp only [Act.put, pt1, pt2, pt3]
  refine wpList_yields (v := ?_) rfl ?_ ?_
  rotate_left
  · go_simp; try with_reducible rfl
  simp only [Act.put, pt1, pt2, pt3]
  refine wpList_yields (v := ?_) rfl ?_ ?_
  rotate_left
  · go_simp; try with_reducible rfl
  simp only [Act.put, pt1, pt2, pt3]
  refine wpList_yields (v := ?_) rfl ?_ ?_
  rotate_left
  · go_simp; try with_reducible rfl
  simp only [Act.put, pt1, pt2, pt3]
  refine wpList_yields (v := ?_) rfl ?_ ?_
  rotate_left
  · go_simp; try with_reducible rfl
  simp only [Act.put, pt1, pt2, pt3]
  refine wpList_yields (v := ?_) rfl ?_ ?_
  rotate_left
  · go_simp; try with_reducible rfl
  simp only [Act.put, pt1, pt2, pt3]
  go_step
  go_step
  go_step
  have hbY : Below W.heap.size W (W.alloc (.cells (opsC (writerOps x (n : Int))).toArray 50)) := (Below.refl _ _).alloc (Nat.le_refl _) _
  have hrY := Go.heap_alloc_new W (.cells (opsC (writerOps x (n : Int))).toArray 50)
  have hop : (opsC (writerOps x (n : Int))).toArray = #[.int .i64 2, .int .i64 0, .int .i64 x, .int .i64 0, .int .i64 0, .int .i64 0, .int .i64 1, .int .i64 0, .int .i64 0, .int .i64 (1 + (n : Int)), .int .i64 9, .int .i64 0, .int .i64 1, .int .i64 0, .int .i64 0] := rfl
  rw [← hop]
  have hHR := (hbY.block _ (block_lt HRW.out)).trans HRW.out
  have hsl : W.heap.size < (W.alloc (.cells (opsC (writerOps x (n : Int))).toArray 50)).heap.size := block_lt hrY
  generalize W.alloc (.cells (opsC (writerOps x (n : Int))).toArray 50) = Y at *
  have hwW := HBW.out.size
  generalize hbs : W.heap.size = bs at *
  obtain ⟨JA, hJA⟩ : ∃ JA : Array Value, JA = #[.slice (some ⟨bs, 0, none⟩) 3 3, .int .i64 0, .int .i64 0, .int .i64 0, .int .i64 0, .int .i64 0, .int .i64 0, .int .i64 0, .int .i64 0, .int .i64 0, .int .i64 0, .int .i64 0, .int .i64 0, .int .i64 0, .int .i64 0, .int .i64 0, .int .i64 0, .int .i64 20] := ⟨_, rfl⟩
  have hsz : JA.size = 18 := by rw [hJA]; rfl
  have hone : JA.all (·.oneCell') = true := by rw [hJA]; kernel_rfl
  have hinfo : (Tryz.prog.info? 57).map (·.size) = some JA.size := by rw [hsz]; kernel_rfl
  have HJA := Lib.hid hJA
  clear hJA
  refine wpList_yields (v := .agg JA) rfl (by rw [HJA.out]; kernel_rfl) ?_
  simp only [Act.put, pt1, pt2, pt3]
  refine wpList_store_row rfl 57 _ _ rfl w.heap.size JA rfl rfl 57 _ hHR hinfo (by rw [hsz]; rfl) hone ?_
  simp only [Act.put]
  have hfin := block_setRow_same (cs := JA) hHR
  have hoth := setRow_other Y w.heap.size bs JA (by omega)
  have hB2 : Below w.heap.size w (Y.setRow w.heap.size JA) := below_setRow' (HBW.out.trans (hbY.mono (by omega))) (Nat.le_refl _) _
  have HFIN := Lib.hid (And.intro hfin (And.intro (hoth.trans hrY) hB2))
  clear hfin hoth hB2 hrY hbY hHR hop
  go_wp2_with fail
  refine bodyPost_ret (results_cell_row rfl _ _ w.heap.size 57 JA (0, 0) _ rfl HFIN.out.1 Tryz.underlying57 rfl hinfo) rfl ⟨bs, by rw [HJA.out], block_lt HFIN.out.2.1, range_of_block HFIN.out.2.1, HFIN.out.2.2⟩
end Go.Proofs.YteflpdhgojcmcaaGreatDoor
namespace Go.Proofs.YteflpdhgojcmcaaGreatDoor
open Go.RowKit PSet PMat
def readerOps (k : Int) : List OpM := [⟨2, 0, k, 0, 0⟩, ⟨8, 1, 0, 0, 0⟩, ⟨11, 1, 0, 4, 0⟩, ⟨14, 0, 0, 0, 0⟩, ⟨16, 0, 0, 0, 0⟩]
/-- The world in which the reader waits. -/
def parkedM (k : Int) : Option WorM := ((WorM.new 4 3).add (readerOps k) 20).rounds 10
def states (M : WorM) : List (Int × Int) := M.seats.map fun m => (m.thr.state, (m.thr.cpu.regs.getD 1 (0, 0)).2)
end Go.Proofs.YteflpdhgojcmcaaGreatDoor
namespace Go.Proofs.YteflpdhgojcmcaaGreatDoor
open Go.RowKit PSet PMat
deriving instance DecidableEq for OpM
deriving instance DecidableEq for CpuM
deriving instance DecidableEq for StepM
deriving instance DecidableEq for EntM
deriving instance DecidableEq for EngM
deriving instance DecidableEq for EvM
deriving instance DecidableEq for ThrM
deriving instance DecidableEq for SeatM
deriving instance DecidableEq for WorM
end Go.Proofs.YteflpdhgojcmcaaGreatDoor
namespace Go.Proofs.YteflpdhgojcmcaaGreatDoor
open Go.RowKit PSet PMat
theorem WorM.rounds_fix {M : WorM} (h : M.turn M.seats.length = some M) : ∀ n, M.rounds n = some M
  | 0 => rfl
  | n + 1 => by rw [WorM.rounds, WorM.rounds_fix h n]; exact h
theorem WorM.rounds_add {M M2 : WorM} {a : Nat} (h : M.rounds a = some M2) : ∀ n, M.rounds (a + n) = M2.rounds n
  | 0 => h
  | n + 1 => by
    show WorM.rounds (a + n + 1) M = _
    rw [WorM.rounds, WorM.rounds_add h n, WorM.rounds]
theorem WorM.rounds_end {M M2 : WorM} {a n : Nat} (h : M.rounds a = some M2) (hf : M2.turn M2.seats.length = some M2) (ha : a ≤ n) : M.rounds n = some M2 := by
  obtain ⟨b, rfl⟩ := Nat.exists_eq_add_of_le ha
  rw [WorM.rounds_add h, WorM.rounds_fix hf]
/-- Is it fixed? -/
def WorM.still (M : WorM) : Bool := decide (M.turn M.seats.length = some M)
/-- What the law asks, where it is cheap to ask. -/
def fine2 (P : WorM) (k o n : Nat) : Bool :=
  let S := P.add (writerOps (o : Int) (n : Int)) 20
  match S.rounds 5 with
  | none => false
  | some E => E.still && decide (E.step 1 = some E) &&
    (List.range 6).all (fun j => match S.rounds j with
      | none => false
      | some M => decide (M.step 0 = some M) && (j == 5 || decide (M.step 1 = S.rounds (j + 1)))) &&
    match (E.add (writerOps (k : Int) (n : Int)) 20).rounds 12 with
    | none => false
    | some F => F.still && decide (states E = [(2, 0), (3, 1 + (n : Int))]) && decide (states F = [(3, 1 + (n : Int)), (3, 1 + (n : Int)), (3, 1 + (n : Int))])
end Go.Proofs.YteflpdhgojcmcaaGreatDoor
namespace Go.Proofs.YteflpdhgojcmcaaGreatDoor
open Go.RowKit PSet PMat
/-- What fine2 says, in words. -/
theorem fine2_says {P : WorM} {k o n : Nat} (h : fine2 P k o n = true) : ∃ E F, (P.add (writerOps (o : Int) (n : Int)) 20).rounds 5 = some E ∧ E.turn E.seats.length = some E ∧ E.step 1 = some E ∧
    (∀ j, j ≤ 5 → ∃ M, (P.add (writerOps (o : Int) (n : Int)) 20).rounds j = some M ∧ M.step 0 = some M ∧ (j = 5 ∨ M.step 1 = (P.add (writerOps (o : Int) (n : Int)) 20).rounds (j + 1))) ∧
    (E.add (writerOps (k : Int) (n : Int)) 20).rounds 12 = some F ∧ F.turn F.seats.length = some F ∧ states E = [(2, 0), (3, 1 + (n : Int))] ∧ states F = [(3, 1 + (n : Int)), (3, 1 + (n : Int)), (3, 1 + (n : Int))] := by
  unfold fine2 at h
  simp only at h
  split at h
  · cases h
  rename_i E hE
  simp only [Bool.and_eq_true, WorM.still, decide_eq_true_eq] at h
  obtain ⟨⟨⟨h1, h2⟩, h3⟩, h4⟩ := h
  split at h4
  · cases h4
  rename_i F hF
  simp only [Bool.and_eq_true, decide_eq_true_eq] at h4
  refine ⟨E, F, hE, h1, h2, ?_, hF, h4.1.1, h4.1.2, h4.2⟩
  intro j hj
  have h5 := List.all_eq_true.1 h3 j (List.mem_range.2 (by omega))
  split at h5
  · cases h5
  rename_i M hM
  simp only [Bool.and_eq_true, decide_eq_true_eq, Bool.or_eq_true, beq_iff_eq] at h5
  exact ⟨M, hM, h5.1, h5.2⟩
/-- One pick more. -/
theorem pick_next {P : WorM} {k o n : Nat} (h : fine2 P k o n = true) {j : Nat} (hj : j ≤ 5) {M : WorM} (hM : (P.add (writerOps (o : Int) (n : Int)) 20).rounds j = some M) (i : Nat) (hi : i < 2) :
    ∃ j' M', j' ≤ 5 ∧ (P.add (writerOps (o : Int) (n : Int)) 20).rounds j' = some M' ∧ M.step i = some M' := by
  obtain ⟨E, F, hE, _, h2, h3, _⟩ := fine2_says h
  obtain ⟨M2, h4, h5, h6⟩ := h3 j hj
  rw [hM] at h4
  cases h4
  rcases (show i = 0 ∨ i = 1 by omega) with rfl | rfl
  · exact ⟨j, M, hj, hM, h5⟩
  · rcases h6 with rfl | h6
    · rw [hM] at hE
      cases hE
      exact ⟨5, M, Nat.le_refl _, hM, h2⟩
    · by_cases h7 : j = 5
      · subst h7
        rw [hM] at hE
        cases hE
        exact ⟨5, M, Nat.le_refl _, hM, h2⟩
      · obtain ⟨M3, h8, _⟩ := h3 (j + 1) (by omega)
        exact ⟨j + 1, M3, by omega, h8, h6.trans h8⟩
/-- Behind the picks: twenty rounds more, and the writer is done. -/
theorem picks_end {P : WorM} {k o n : Nat} (h : fine2 P k o n = true) : ∃ E F, (∀ j M, j ≤ 5 → (P.add (writerOps (o : Int) (n : Int)) 20).rounds j = some M → M.rounds 20 = some E) ∧ (E.add (writerOps (k : Int) (n : Int)) 20).rounds 30 = some F ∧ states E = [(2, 0), (3, 1 + (n : Int))] ∧ states F = [(3, 1 + (n : Int)), (3, 1 + (n : Int)), (3, 1 + (n : Int))] := by
  obtain ⟨E, F, hE, h1, _, _, h4, h5, h6, h7⟩ := fine2_says h
  refine ⟨E, F, fun j M hj hM => ?_, WorM.rounds_end h4 h5 (by omega), h6, h7⟩
  rw [← WorM.rounds_add hM 20]
  exact WorM.rounds_end hE h1 (by omega)
end Go.Proofs.YteflpdhgojcmcaaGreatDoor
