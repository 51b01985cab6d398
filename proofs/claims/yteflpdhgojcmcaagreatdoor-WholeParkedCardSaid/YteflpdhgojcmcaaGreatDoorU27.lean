/- A thread's read and write, as a model. No conditions but those that each theorem names. -/
import Derived.Test.YteflpdhgojcmcaaGreatDoorU01
import Derived.Test.YteflpdhgojcmcaaGreatDoorU26
namespace Go.Proofs.YteflpdhgojcmcaaGreatDoor
open Go.RowKit PSet PMat
theorem ThrM.row_cpu {m : ThrM} {r : Nat} {ov : Value} (i : Nat) (v : Value) (hi : i < m.cpu.cells.length) : (m.row r ov).set (19 + i) v = m.head r ov ++ m.cpu.cells.set i v ++ m.tail := by
  have h1 := ThrM.head_len m r ov
  rw [ThrM.row, List.append_assoc, List.set_append_right _ _ (by omega), h1, Nat.add_sub_cancel_left, List.set_append_left _ _ hi, List.append_assoc]
/-- One register is another. -/
theorem ThrI.setReg {B : Nat} {w : World} {t r : Nat} {ov : Value} {m : ThrM} (h : ThrI B w t r ov m) (A : Nat) (k n : Int) (hA : A < 8) :
    ThrI B ((w.setCell ⟨t, 21 + A * 2, none⟩ (.int .i64 k)).setCell ⟨t, 21 + A * 2 + 1, none⟩ (.int .i64 n)) t r ov { m with cpu := { m.cpu with regs := m.cpu.regs.set A (k, n) } } where
  row := by
    have hl : m.cpu.cells.length = 19 := CpuM.len h.regs
    have h1 := heap_setCell_same _ t (21 + A * 2 + 1) _ _ (.int .i64 n) (heap_setCell_same w t (21 + A * 2) _ _ (.int .i64 k) h.row)
    refine h1.trans ?_
    rw [List.setIfInBounds_toArray, List.setIfInBounds_toArray, show 21 + A * 2 + 1 = 19 + (2 + A * 2 + 1) by omega, show 21 + A * 2 = 19 + (2 + A * 2) by omega, ThrM.row_cpu _ _ (by omega)]
    have e0 : ((m.cpu.cells.set (2 + A * 2) (.int .i64 k)).set (2 + A * 2 + 1) (.int .i64 n)) = CpuM.cells { m.cpu with regs := m.cpu.regs.set A (k, n) } := by
      have := CpuM.put (c := m.cpu) k n m.cpu.pc (A := A) (by rw [h.regs]; exact hA)
      rw [show m.cpu.cells.set 0 (.int .i64 m.cpu.pc) = m.cpu.cells by simp [CpuM.cells]] at this
      exact this
    have e1 : (m.head r ov ++ m.cpu.cells.set (2 + A * 2) (.int .i64 k) ++ m.tail).set (19 + (2 + A * 2 + 1)) (.int .i64 n) = m.head r ov ++ (m.cpu.cells.set (2 + A * 2) (.int .i64 k)).set (2 + A * 2 + 1) (.int .i64 n) ++ m.tail := by
      have h1 := ThrM.head_len m r ov
      rw [List.append_assoc, List.set_append_right _ _ (by omega), h1, Nat.add_sub_cancel_left, List.set_append_left _ _ (by simp; omega), List.append_assoc]
    rw [e1, e0]
    rfl
  base := h.base
  ops := owns_chg h.ops (Chg.setCell (F := fun b => b = t) (Chg.setCell (F := fun b => b = t) (Chg.refl _ _) (p := ⟨t, 21 + A * 2, none⟩) (.inl rfl) _) (p := ⟨t, 21 + A * 2 + 1, none⟩) (.inl rfl) _) fun b cs hb hs => by
      subst hb
      rw [h.row] at hs
      cases hs
  regs := by simp [h.regs]
  used := h.used
  right := h.right
theorem lim53 {B bx : Nat} {V : World} (hB : B ≤ bx) (a b : Value) {cs : Array Value} (h : V.heap[bx]? = some (.cells cs 53 (0, 0))) :
    Lim (fun t => t == 53) B V ((V.setCell ⟨bx, 0, none⟩ a).setCell ⟨bx, 1, none⟩ b) ∧ (∀ E w, w.heap.size ≤ bx → Lim E B w V → Lim E B w ((V.setCell ⟨bx, 0, none⟩ a).setCell ⟨bx, 1, none⟩ b)) ∧ ∀ t w, w.heap.size ≤ bx → LimH t B w V → LimH t B w ((V.setCell ⟨bx, 0, none⟩ a).setCell ⟨bx, 1, none⟩ b) := by
  have h1 : Chg (fun b => b = bx) V ((V.setCell ⟨bx, 0, none⟩ a).setCell ⟨bx, 1, none⟩ b) := (Chg.setCell (F := fun b => b = bx) (Chg.refl _ _) (.inl rfl) _).setCell (.inl rfl) _
  exact ⟨Chg.weak (F := fun b => b = bx) h1 fun i hi => .inl (by subst hi; exact ⟨hB, _, _, _, h, rfl⟩), fun E w hw hl => Chg.trans (F := InT E B w) (G := fun b => b = bx) hl h1 fun i hi => .inr (by omega), fun t w hw hl => Chg.trans (F := fun i => i = t ∨ InT RT B w i) (G := fun b => b = bx) hl h1 fun i hi => .inr (by omega)⟩
def ThrM.told (m : ThrM) (A : Nat) (x k n : Int) : ThrM := { m with cpu := { m.cpu with regs := m.cpu.regs.set A (k, n) }, reads := withN m.reads x }
def ThrM.wrote (m : ThrM) (x : Int) : ThrM := { m with writes := withN m.writes x }
set_option maxRecDepth 100000 in
set_option maxHeartbeats 1000000 in
theorem thRead (kd : Kd) (B : Nat) (w : World) (t r : Nat) (m : ThrM) (e : EngM) (evs : List EvM) (x A : Nat) (k n k0 vk vn fi : Int) (ht : ThrS B w t r m) (h : RecS kd B w r e evs) (hB : B ≤ w.heap.size) (hf : evs.length < 90000) (hl : e.live = some none) (hx : e.vals[x]? = some (k, n)) (hA : A < 8) (hr64 : m.reads < 2 ^ 64) (hid : m.id = (e.cnt : Int)) (hT : Tab w) :
    Calls Tryz.prog 115 #[.pointer (some ⟨t, 0, none⟩), .agg (askC k0 (x : Int) (A : Int) 0 vk vn fi)] w fun en w' => en = .returned (.int .i64 0) ∧ (ThrS B w' t r (m.told A x k n) ∧ RecS kd B w' r (e.step ⟨x, k, n, false⟩) (evs ++ [⟨1, (e.cnt : Int), (x : Int), k, n⟩])) ∧ LimH t B w w' := by
  obtain ⟨ov, ht⟩ := ht
  unfold askC
  obtain ⟨W, hW⟩ : ∃ W, W = w.alloc (.cells #[.int .i64 k0, .int .i64 (x : Int), .int .i64 (A : Int), .int .i64 0, .int .i64 vk, .int .i64 vn, .int .i64 fi] 217) := ⟨_, rfl⟩
  have hbW : Below w.heap.size w W := by rw [hW]; exact (Below.refl _ _).alloc (Nat.le_refl _) _
  have hrW : W.heap[w.heap.size]? = some (.cells #[.int .i64 k0, .int .i64 (x : Int), .int .i64 (A : Int), .int .i64 0, .int .i64 vk, .int .i64 vn, .int .i64 fi] 217 (0, 0)) := by rw [hW]; exact Go.heap_alloc_new _ _
  have hl0 : Lim (fun _ => false) B w W.drew := Lim.of_below hbW.drew
  have hBW : B ≤ W.drew.heap.size := Nat.le_trans hB hbW.size
  have hTW : Tab W.drew := hT.below hT.pos hbW.drew
  have h' : RecS kd B W.drew r e evs := h.lim hl0 (by decide)
  have C1 := Lib.hid (fun (U : World) (hU : RecS kd B U r e evs) (hBU : B ≤ U.heap.size) (hTU : Tab U) => rmRead kd B U r e evs x k n hU hBU hf hl hx hTU)
  have HH := Lib.hid (ht.lim hl0 rfl rfl)
  have CW := Lib.hid (fun (U : World) => with_any m.reads (x : Int) U hr64)
  clear hr64
  obtain ⟨y0, -, -, -, y4, -, -, -, -⟩ := HH.out.cells
  rw [hid] at y4
  have HREC := Lib.hid h'
  have HTB := Lib.hid hTW
  have HRW := Lib.hid (show W.drew.heap[w.heap.size]? = some (.cells #[.int .i64 k0, .int .i64 (x : Int), .int .i64 (A : Int), .int .i64 0, .int .i64 vk, .int .i64 vn, .int .i64 fi] 217 (0, 0)) from hrW)
  have HL0 := Lib.hid (LimH.of_below (t := t) (B := B) hbW.drew)
  have hlt : w.heap.size < W.drew.heap.size := block_lt hrW
  have y7 : W.drew.cell? ⟨w.heap.size, 1, none⟩ = some (.int .i64 (x : Int)) := cell_of_row _ _ 1 _ _ _ hrW
  clear h h' hl hT hTW hbW hrW hl0 ht hx hf
  generalize e.step ⟨x, k, n, false⟩ = e2 at *
  generalize (e.cnt : Int) = c at *
  generalize evs ++ [⟨1, c, (x : Int), k, n⟩] = evs2 at *
  have hS0 : (fun w' : World => w'.cell? ⟨t, 0, none⟩ = some (.iface 74 (.pointer (some ⟨r, 0, none⟩))) ∧ w'.cell? ⟨t, 39, none⟩ = some (.int .i64 c) ∧ w'.cell? ⟨w.heap.size, 1, none⟩ = some (.int .i64 (x : Int))) W.drew := ⟨y0, y4, y7⟩
  clear y0 y4 y7
  go_enter Tryz.func115, Tryz.ntmps115
  go_upto_region 1 with fail
  rw [← hW]
  clear hW
  refine zRegion 18 (S := (fun w' : World => w'.cell? ⟨t, 0, none⟩ = some (.iface 74 (.pointer (some ⟨r, 0, none⟩))) ∧ w'.cell? ⟨t, 39, none⟩ = some (.int .i64 c) ∧ w'.cell? ⟨w.heap.size, 1, none⟩ = some (.int .i64 (x : Int)))) (by kernel_rfl) hS0 (fun hHeld => ?_)
  clear hS0
  refine zd 0 (v := ?_) ?_ ?_
  rotate_left
  · rintro w ⟨hS1, hS2, hS3⟩; go_simp; try with_reducible rfl
  simp only [Act.put, pt1, pt2, pt3]
  refine zd 1 (v := ?_) ?_ ?_
  rotate_left
  · rintro w ⟨hS1, hS2, hS3⟩; go_simp; try with_reducible rfl
  simp only [Act.put, pt1, pt2, pt3]
  refine zd 2 (v := ?_) ?_ ?_
  rotate_left
  · rintro w ⟨hS1, hS2, hS3⟩; go_simp; try with_reducible rfl
  simp only [Act.put, pt1, pt2, pt3]
  refine zd 3 (v := ?_) ?_ ?_
  rotate_left
  · rintro w ⟨hS1, hS2, hS3⟩; go_simp; try with_reducible rfl
  simp only [Act.put, pt1, pt2, pt3]
  refine zd 4 (v := ?_) ?_ ?_
  rotate_left
  · rintro w ⟨hS1, hS2, hS3⟩; go_simp; try with_reducible rfl
  simp only [Act.put, pt1, pt2, pt3]
  refine zd 5 (v := ?_) ?_ ?_
  rotate_left
  · rintro w ⟨hS1, hS2, hS3⟩; go_simp; try with_reducible rfl
  simp only [Act.put, pt1, pt2, pt3]
  refine zd 6 (v := ?_) ?_ ?_
  rotate_left
  · rintro w ⟨hS1, hS2, hS3⟩; go_simp; try with_reducible rfl
  simp only [Act.put, pt1, pt2, pt3]
  refine zd 7 (v := ?_) ?_ ?_
  rotate_left
  · rintro w ⟨hS1, hS2, hS3⟩; go_simp; try with_reducible rfl
  simp only [Act.put, pt1, pt2, pt3]
  refine zd 8 (v := ?_) ?_ ?_
  rotate_left
  · rintro w ⟨hS1, hS2, hS3⟩; go_simp; try with_reducible rfl
  simp only [Act.put, pt1, pt2, pt3]
  refine zd 9 (v := ?_) ?_ ?_
  rotate_left
  · rintro w ⟨hS1, hS2, hS3⟩; go_simp; try with_reducible rfl
  simp only [Act.put, pt1, pt2, pt3]
  refine zd 10 (v := ?_) ?_ ?_
  rotate_left
  · rintro w ⟨hS1, hS2, hS3⟩; go_simp; try with_reducible rfl
  simp only [Act.put, pt1, pt2, pt3]
  refine zd 11 (v := ?_) ?_ ?_
  rotate_left
  · rintro w ⟨hS1, hS2, hS3⟩; go_simp; try with_reducible rfl
  simp only [Act.put, pt1, pt2, pt3]
  refine zReady (rs := [12, 16]) (by kernel_rfl) (by simp) (AllZ.cons 12 rfl (fun K' hK => ?_) (AllZ.cons 16 rfl (fun K' hK => ?_) .nil))
  · go_simp
    have C1' := Lib.hid (C1.out W.drew HREC.out hBW HTB.out)
    go_wp2_with fail
    refine (C1'.out).mono ?_
    rintro en y ⟨rfl, hE, hli⟩
    have hy := HH.out.keep hli
    obtain ⟨x0, -, -, -, x4, -, -, -, -⟩ := hy.cells
    have x7' := block_lim HRW.out hli rfl
    have x7 : y.cell? ⟨w.heap.size, 1, none⟩ = some (.int .i64 (x : Int)) := cell_of_row _ _ 1 _ _ _ x7'
    rw [hid] at x4
    have HY := Lib.hid hy
    have HX := Lib.hid x7'
    have HE := Lib.hid (And.intro hE (HL0.out.trans (rt_ht hli)))
    have ly := hli.size
    clear hE hli hy x7' C1'
    go_wp2_with fail
    refine hK.out _ _ ?_ (fun hHeld => ?_)
    · exact ⟨x0, x4, x7⟩
    clear hK K' x0 x4 x7
    try simp only [Act.put, pt1, pt2, pt3]
    refine zp 13 (v := ?_) ?_ ?_
    rotate_left
    · intro w; go_simp; try with_reducible rfl
    simp only [Act.put, pt1, pt2, pt3]
    refine zp 14 (v := ?_) ?_ ?_
    rotate_left
    · intro w; go_simp; try with_reducible rfl
    simp only [Act.put, pt1, pt2, pt3]
    refine zp 15 (v := ?_) ?_ ?_
    rotate_left
    · intro w; go_simp; try with_reducible rfl
    simp only [Act.put, pt1, pt2, pt3]
    refine zcl 16 (fun K' hK => ?_)
    go_simp
    have hb2 : Below y.heap.size y (y.alloc (.cells #[.int .i64 0, .int .i64 0] 53)) := (Below.refl _ _).alloc (Nat.le_refl _) _
    have hb3 := Go.heap_alloc_new y (.cells #[.int .i64 0, .int .i64 0] 53)
    generalize hbn : y.heap.size = bx at *
    generalize y.alloc (.cells #[.int .i64 0, .int .i64 0] 53) = V at *
    have TX := Lib.hid (HY.out.lim (E := fun _ => false) (B' := B) (Lim.of_below (hbn ▸ hb2)) rfl rfl)
    have AX := Lib.hid (block_lim (E := fun _ => false) (B := B) HX.out (Lim.of_below (hbn ▸ hb2)) rfl)
    have RX := Lib.hid (And.intro (HE.out.1.lim (E := fun _ => false) (B' := B) (Lim.of_below (hbn ▸ hb2)) (by decide)) (HE.out.2.trans (LimH.of_below (t := t) (B := B) (hbn ▸ hb2))))
    have BX := Lib.hid hb3
    have hbx : w.heap.size < bx := by omega
    obtain ⟨x0, -, -, -, x4, -, -, -, -⟩ := TX.out.cells
    rw [hid] at x4
    have x7 : V.cell? ⟨w.heap.size, 1, none⟩ = some (.int .i64 (x : Int)) := cell_of_row _ _ 1 _ _ _ AX.out
    clear hb2 hb3 HY HX HE ly hbn
    refine hK.out _ _ ?_ (fun hHeld => ?_)
    · exact ⟨x0, x4, x7⟩
    clear hK K' x0 x4 x7
    try simp only [Act.put, pt1, pt2, pt3]
    have b0 := cell_of_row _ _ 0 _ _ _ BX.out
    have b1 := cell_of_row _ _ 1 _ _ _ BX.out
    have bf := fun j => frozen_of_row _ _ j _ _ BX.out
    have hBx : B ≤ bx := by omega
    refine zcl 17 (fun K' hK => ?_)
    go_simp
    have l53 := lim53 hBx (.int .i64 k) (.int .i64 n) BX.out
    have l54 := l53.2.2 t w (Nat.le_of_lt hbx) RX.out.2
    have c53 : ((V.setCell ⟨bx, 0, none⟩ (.int .i64 k)).setCell ⟨bx, 1, none⟩ (.int .i64 n)).heap[bx]? = some (.cells #[.int .i64 k, .int .i64 n] 53 (0, 0)) := setCells_row bx 53 [.int .i64 k, .int .i64 n] _ 0 V BX.out
    have t53 := TX.out.lim l53.1 rfl rfl
    have r53 := RX.out.1.lim l53.1 (by decide)
    have a53 := block_lim AX.out l53.1 rfl
    generalize (V.setCell ⟨bx, 0, none⟩ (.int .i64 k)).setCell ⟨bx, 1, none⟩ (.int .i64 n) = X at *
    clear TX AX RX BX b0 b1 bf l53
    have TX := Lib.hid t53
    have AX := Lib.hid a53
    have RX := Lib.hid (And.intro r53 l54)
    have BX := Lib.hid c53
    clear t53 a53 r53 l54 c53
    obtain ⟨x0, -, -, -, x4, -, -, -, -⟩ := TX.out.cells
    rw [hid] at x4
    have x7 : X.cell? ⟨w.heap.size, 1, none⟩ = some (.int .i64 (x : Int)) := cell_of_row _ _ 1 _ _ _ AX.out
    refine hK.out _ _ ?_ (fun hHeld => ?_)
    · exact ⟨x0, x4, x7⟩
    clear hK K' x0 x4 x7
    try simp only [Act.put, pt1, pt2, pt3]
    refine zla (fun K' hK => ?_)
    go_simp
    refine hK.out _ _ ?_
    clear hK K'
    try simp only [Act.put, pt1, pt2, pt3]
    clear hHeld
    have lt1 : t < X.heap.size := block_lt TX.out.row
    go_upto_region 3 with fail
    have q0 : X.cell? ⟨bx, 0, none⟩ = some (.int .i64 k) := cell_of_row _ _ 0 _ _ _ BX.out
    have q1 : X.cell? ⟨bx, 1, none⟩ = some (.int .i64 n) := cell_of_row _ _ 1 _ _ _ BX.out
    have q2 : X.cell? ⟨w.heap.size, 2, none⟩ = some (.int .i64 (A : Int)) := cell_of_row _ _ 2 _ _ _ AX.out
    have hS0 : (fun w' : World => w'.cell? ⟨bx, 0, none⟩ = some (.int .i64 k) ∧ w'.cell? ⟨bx, 1, none⟩ = some (.int .i64 n) ∧ w'.cell? ⟨w.heap.size, 2, none⟩ = some (.int .i64 (A : Int))) X.drew := ⟨q0, q1, q2⟩
    clear q0 q1 q2
    refine zRegion 8 (S := fun w' : World => w'.cell? ⟨bx, 0, none⟩ = some (.int .i64 k) ∧ w'.cell? ⟨bx, 1, none⟩ = some (.int .i64 n) ∧ w'.cell? ⟨w.heap.size, 2, none⟩ = some (.int .i64 (A : Int))) (by kernel_rfl) hS0 (fun hHeld => ?_)
    clear hS0
    refine zd 0 (v := ?_) ?_ ?_
    rotate_left
    · rintro w ⟨hS1, hS2, hS3⟩; go_simp; try with_reducible rfl
    simp only [Act.put, pt1, pt2, pt3]
    refine zd 1 (v := ?_) ?_ ?_
    rotate_left
    · rintro w ⟨hS1, hS2, hS3⟩; go_simp; try with_reducible rfl
    simp only [Act.put, pt1, pt2, pt3]
    refine zd 2 (v := ?_) ?_ ?_
    rotate_left
    · rintro w ⟨hS1, hS2, hS3⟩; go_simp; try with_reducible rfl
    simp only [Act.put, pt1, pt2, pt3]
    refine zd 3 (v := ?_) ?_ ?_
    rotate_left
    · rintro w ⟨hS1, hS2, hS3⟩; go_simp; try with_reducible rfl
    simp only [Act.put, pt1, pt2, pt3]
    refine zp 4 (v := ?_) ?_ ?_
    rotate_left
    · intro w; go_simp; try with_reducible rfl
    simp only [Act.put, pt1, pt2, pt3]
    refine zp 5 (v := ?_) ?_ ?_
    rotate_left
    · intro w; go_simp; try with_reducible rfl
    simp only [Act.put, pt1, pt2, pt3]
    refine zp 6 (v := ?_) ?_ ?_
    rotate_left
    · intro w; go_simp; try with_reducible rfl
    simp only [Act.put, pt1, pt2, pt3]
    have hA' : (0 : Int) ≤ (A : Int) ∧ (A : Int) < 8 := by omega
    refine zcl 7 (fun K' hK => ?_)
    go_simp
    refine hK.out _ _ (by assumption) (fun hHeld => ?_)
    clear hK K'
    try simp only [Act.put, pt1, pt2, pt3]
    obtain ⟨p0, P0⟩ : ∃ v, X.cell? ⟨t, 21 + A * 2, none⟩ = some v := by
      have := (TX.out.there (2 + A * 2) (by omega)).1
      rw [show 19 + (2 + A * 2) = 21 + A * 2 by omega] at this
      exact Option.isSome_iff_exists.1 this
    obtain ⟨p1, P1⟩ : ∃ v, X.cell? ⟨t, 21 + A * 2 + 1, none⟩ = some v := by
      have := (TX.out.there (3 + A * 2) (by omega)).1
      rw [show 19 + (3 + A * 2) = 21 + A * 2 + 1 by omega] at this
      exact Option.isSome_iff_exists.1 this
    have tf := TX.out.frozen
    refine zla (fun K' hK => ?_)
    go_simp
    refine hK.out _ _ ?_
    clear hK K'
    try simp only [Act.put, pt1, pt2, pt3]
    clear P0 P1 p0 p1 hHeld
    have t54 := TX.out.setReg A k n hA
    have c54 : LimT t B X ((X.setCell ⟨t, 21 + A * 2, none⟩ (.int .i64 k)).setCell ⟨t, 21 + A * 2 + 1, none⟩ (.int .i64 n)) := thr_chg TX.out (Chg.setCell (F := fun b => b = t) (Chg.setCell (F := fun b => b = t) (Chg.refl _ _) (p := ⟨t, 21 + A * 2, none⟩) (.inl rfl) _) (p := ⟨t, 21 + A * 2 + 1, none⟩) (.inl rfl) _)
    go_upto_region 4 with fail
    generalize (X.setCell ⟨t, 21 + A * 2, none⟩ (.int .i64 k)).setCell ⟨t, 21 + A * 2 + 1, none⟩ (.int .i64 n) = Y at *
    have AY := Lib.hid (block_lim AX.out c54.2 rfl)
    have TY := Lib.hid t54.drew
    have RY := Lib.hid (And.intro (RX.out.1.keep c54).drew ((RX.out.2.trans (tt_ht c54)).trans (LimH.of_below (t := t) (B := B) (Below.refl _ _).drew)))
    have q0 := TY.out.cells.2.2.2.2.2.2.2.1
    have q1 : Y.cell? ⟨w.heap.size, 1, none⟩ = some (.int .i64 (x : Int)) := cell_of_row _ _ 1 _ _ _ AY.out
    have hS0 : (fun w' : World => w'.cell? ⟨t, 42, none⟩ = some (.int .u64 (m.reads : Int)) ∧ w'.cell? ⟨w.heap.size, 1, none⟩ = some (.int .i64 (x : Int))) Y.drew.drew := ⟨q0, q1⟩
    clear q0 q1 t54 c54 TX AX RX BX tf
    refine zRegion 10 (S := fun w' : World => w'.cell? ⟨t, 42, none⟩ = some (.int .u64 (m.reads : Int)) ∧ w'.cell? ⟨w.heap.size, 1, none⟩ = some (.int .i64 (x : Int))) (by kernel_rfl) hS0 (fun hHeld => ?_)
    clear hS0
    refine zd 0 (v := ?_) ?_ ?_
    rotate_left
    · rintro w ⟨hS1, hS2⟩; go_simp; try with_reducible rfl
    simp only [Act.put, pt1, pt2, pt3]
    refine zd 1 (v := ?_) ?_ ?_
    rotate_left
    · rintro w ⟨hS1, hS2⟩; go_simp; try with_reducible rfl
    simp only [Act.put, pt1, pt2, pt3]
    refine zd 2 (v := ?_) ?_ ?_
    rotate_left
    · rintro w ⟨hS1, hS2⟩; go_simp; try with_reducible rfl
    simp only [Act.put, pt1, pt2, pt3]
    refine zd 3 (v := ?_) ?_ ?_
    rotate_left
    · rintro w ⟨hS1, hS2⟩; go_simp; try with_reducible rfl
    simp only [Act.put, pt1, pt2, pt3]
    refine zd 4 (v := ?_) ?_ ?_
    rotate_left
    · rintro w ⟨hS1, hS2⟩; go_simp; try with_reducible rfl
    simp only [Act.put, pt1, pt2, pt3]
    refine zd 5 (v := ?_) ?_ ?_
    rotate_left
    · rintro w ⟨hS1, hS2⟩; go_simp; try with_reducible rfl
    simp only [Act.put, pt1, pt2, pt3]
    refine zd 6 (v := ?_) ?_ ?_
    rotate_left
    · rintro w ⟨hS1, hS2⟩; go_simp; try with_reducible rfl
    simp only [Act.put, pt1, pt2, pt3]
    have CW' := Lib.hid (CW.out Y.drew.drew)
    refine zcl 7 (fun K' hK => ?_)
    go_simp
    go_at_call 90
    refine (CW'.out).mono ?_
    rintro en y ⟨rfl, rfl⟩
    go_wp2_with fail
    refine hK.out _ _ (by assumption) (fun hHeld => ?_)
    clear hK K' CW'
    try simp only [Act.put, pt1, pt2, pt3]
    refine zcl 8 (fun K' hK => ?_)
    go_simp
    refine hK.out _ _ (by assumption) (fun hHeld => ?_)
    clear hK K'
    try simp only [Act.put, pt1, pt2, pt3]
    refine zcl 9 (fun K' hK => ?_)
    go_simp
    refine hK.out _ _ (by assumption) (fun hHeld => ?_)
    clear hK K'
    try simp only [Act.put, pt1, pt2, pt3]
    have tf := TY.out.frozen
    refine zla (fun K' hK => ?_)
    go_simp
    refine hK.out _ _ ?_
    clear hK K'
    try simp only [Act.put, pt1, pt2, pt3]
    have hx := TY.out.drew.set 4 (.int .u64 (withN m.reads (x : Int) : Nat)) (m.told A x k n) rfl rfl rfl rfl
    have hcx : LimT t B Y.drew.drew (Y.drew.drew.setCell ⟨t, 42, none⟩ (.int .u64 (withN m.reads (x : Int) : Nat))) := thr_chg TY.out.drew (Chg.setCell (F := fun b => b = t) (Chg.refl _ _) (p := ⟨t, 42, none⟩) (.inl rfl) _)
    go_wp2_with fail
    go_ret
    exact ⟨rfl, ⟨⟨ov, hx⟩, RY.out.1.drew.keep hcx⟩, (RY.out.2.trans (LimH.of_below (t := t) (B := B) (Below.refl _ _).drew)).trans (tt_ht hcx)⟩
  · go_simp
    have hb2 : Below W.drew.heap.size W.drew (W.drew.alloc (.cells #[.int .i64 0, .int .i64 0] 53)) := (Below.refl _ _).alloc (Nat.le_refl _) _
    have hb3 := Go.heap_alloc_new W.drew (.cells #[.int .i64 0, .int .i64 0] 53)
    rw [show W.drew.alloc (.cells #[.int .i64 0, .int .i64 0] 53) = (W.alloc (.cells #[.int .i64 0, .int .i64 0] 53)).drew from rfl] at hb2 hb3
    rw [show W.drew.heap.size = W.heap.size from rfl] at hb2 hb3 hlt
    generalize hbn : W.heap.size = bx at *
    generalize (W.alloc (.cells #[.int .i64 0, .int .i64 0] 53)).drew = V0 at *
    have hlV : ∀ E, Lim E B W.drew V0 := fun E => Lim.of_below (show Below W.drew.heap.size _ _ from hbn.symm ▸ hb2)
    have hBV : B ≤ V0.heap.size := Nat.le_trans hBW hb2.size
    have TV := Lib.hid (HH.out.lim (hlV (fun _ => false)) rfl rfl)
    have AV := Lib.hid (block_lim HRW.out (hlV (fun _ => false)) rfl)
    have RV := Lib.hid (HREC.out.lim (hlV (fun _ => false)) (by decide))
    have TBV := Lib.hid (HTB.out.below HTB.out.pos (show Below W.drew.heap.size _ _ from hbn.symm ▸ hb2))
    have LV := Lib.hid (HL0.out.trans (LimH.of_below (t := t) (B := B) (show Below W.drew.heap.size _ _ from hbn.symm ▸ hb2)))
    have BV := Lib.hid hb3
    have hbx : w.heap.size < bx := hlt
    obtain ⟨x0, -, -, -, x4, -, -, -, -⟩ := TV.out.cells
    rw [hid] at x4
    have x7 : V0.cell? ⟨w.heap.size, 1, none⟩ = some (.int .i64 (x : Int)) := cell_of_row _ _ 1 _ _ _ AV.out
    clear hb2 hb3 hbn hlV
    refine hK.out _ _ ?_ (fun hHeld => ?_)
    · exact ⟨x0, x4, x7⟩
    clear hK K' x0 x4 x7
    try simp only [Act.put, pt1, pt2, pt3]
    refine zcl 12 (fun K' hK => ?_)
    go_simp
    have C1' := Lib.hid (C1.out V0 RV.out hBV TBV.out)
    go_wp2_with fail
    refine (C1'.out).mono ?_
    rintro en V ⟨rfl, hE, hli⟩
    have TX := Lib.hid (TV.out.keep hli)
    have AX := Lib.hid (block_lim AV.out hli rfl)
    have BX := Lib.hid (block_lim BV.out hli rfl)
    have RX := Lib.hid (And.intro hE (LV.out.trans (rt_ht hli)))
    obtain ⟨x0, -, -, -, x4, -, -, -, -⟩ := TX.out.cells
    rw [hid] at x4
    have x7 : V.cell? ⟨w.heap.size, 1, none⟩ = some (.int .i64 (x : Int)) := cell_of_row _ _ 1 _ _ _ AX.out
    clear hE hli C1' TV AV RV TBV LV BV hBV
    go_wp2_with fail
    refine hK.out _ _ ?_ (fun hHeld => ?_)
    · exact ⟨x0, x4, x7⟩
    clear hK K' x0 x4 x7
    try simp only [Act.put, pt1, pt2, pt3]
    refine zp 13 (v := ?_) ?_ ?_
    rotate_left
    · intro w; go_simp; try with_reducible rfl
    simp only [Act.put, pt1, pt2, pt3]
    refine zp 14 (v := ?_) ?_ ?_
    rotate_left
    · intro w; go_simp; try with_reducible rfl
    simp only [Act.put, pt1, pt2, pt3]
    refine zp 15 (v := ?_) ?_ ?_
    rotate_left
    · intro w; go_simp; try with_reducible rfl
    simp only [Act.put, pt1, pt2, pt3]
    have b0 := cell_of_row _ _ 0 _ _ _ BX.out
    have b1 := cell_of_row _ _ 1 _ _ _ BX.out
    have bf := fun j => frozen_of_row _ _ j _ _ BX.out
    have hBx : B ≤ bx := by omega
    refine zcl 17 (fun K' hK => ?_)
    go_simp
    have l53 := lim53 hBx (.int .i64 k) (.int .i64 n) BX.out
    have l54 := l53.2.2 t w (Nat.le_of_lt hbx) RX.out.2
    have c53 : ((V.setCell ⟨bx, 0, none⟩ (.int .i64 k)).setCell ⟨bx, 1, none⟩ (.int .i64 n)).heap[bx]? = some (.cells #[.int .i64 k, .int .i64 n] 53 (0, 0)) := setCells_row bx 53 [.int .i64 k, .int .i64 n] _ 0 V BX.out
    have t53 := TX.out.lim l53.1 rfl rfl
    have r53 := RX.out.1.lim l53.1 (by decide)
    have a53 := block_lim AX.out l53.1 rfl
    generalize (V.setCell ⟨bx, 0, none⟩ (.int .i64 k)).setCell ⟨bx, 1, none⟩ (.int .i64 n) = X at *
    clear TX AX RX BX b0 b1 bf l53
    have TX := Lib.hid t53
    have AX := Lib.hid a53
    have RX := Lib.hid (And.intro r53 l54)
    have BX := Lib.hid c53
    clear t53 a53 r53 l54 c53
    obtain ⟨x0, -, -, -, x4, -, -, -, -⟩ := TX.out.cells
    rw [hid] at x4
    have x7 : X.cell? ⟨w.heap.size, 1, none⟩ = some (.int .i64 (x : Int)) := cell_of_row _ _ 1 _ _ _ AX.out
    refine hK.out _ _ ?_ (fun hHeld => ?_)
    · exact ⟨x0, x4, x7⟩
    clear hK K' x0 x4 x7
    try simp only [Act.put, pt1, pt2, pt3]
    refine zla (fun K' hK => ?_)
    go_simp
    refine hK.out _ _ ?_
    clear hK K'
    try simp only [Act.put, pt1, pt2, pt3]
    clear hHeld
    have lt1 : t < X.heap.size := block_lt TX.out.row
    go_upto_region 3 with fail
    have q0 : X.cell? ⟨bx, 0, none⟩ = some (.int .i64 k) := cell_of_row _ _ 0 _ _ _ BX.out
    have q1 : X.cell? ⟨bx, 1, none⟩ = some (.int .i64 n) := cell_of_row _ _ 1 _ _ _ BX.out
    have q2 : X.cell? ⟨w.heap.size, 2, none⟩ = some (.int .i64 (A : Int)) := cell_of_row _ _ 2 _ _ _ AX.out
    have hS0 : (fun w' : World => w'.cell? ⟨bx, 0, none⟩ = some (.int .i64 k) ∧ w'.cell? ⟨bx, 1, none⟩ = some (.int .i64 n) ∧ w'.cell? ⟨w.heap.size, 2, none⟩ = some (.int .i64 (A : Int))) X.drew := ⟨q0, q1, q2⟩
    clear q0 q1 q2
    refine zRegion 8 (S := fun w' : World => w'.cell? ⟨bx, 0, none⟩ = some (.int .i64 k) ∧ w'.cell? ⟨bx, 1, none⟩ = some (.int .i64 n) ∧ w'.cell? ⟨w.heap.size, 2, none⟩ = some (.int .i64 (A : Int))) (by kernel_rfl) hS0 (fun hHeld => ?_)
    clear hS0
    refine zd 0 (v := ?_) ?_ ?_
    rotate_left
    · rintro w ⟨hS1, hS2, hS3⟩; go_simp; try with_reducible rfl
    simp only [Act.put, pt1, pt2, pt3]
    refine zd 1 (v := ?_) ?_ ?_
    rotate_left
    · rintro w ⟨hS1, hS2, hS3⟩; go_simp; try with_reducible rfl
    simp only [Act.put, pt1, pt2, pt3]
    refine zd 2 (v := ?_) ?_ ?_
    rotate_left
    · rintro w ⟨hS1, hS2, hS3⟩; go_simp; try with_reducible rfl
    simp only [Act.put, pt1, pt2, pt3]
    refine zd 3 (v := ?_) ?_ ?_
    rotate_left
    · rintro w ⟨hS1, hS2, hS3⟩; go_simp; try with_reducible rfl
    simp only [Act.put, pt1, pt2, pt3]
    refine zp 4 (v := ?_) ?_ ?_
    rotate_left
    · intro w; go_simp; try with_reducible rfl
    simp only [Act.put, pt1, pt2, pt3]
    refine zp 5 (v := ?_) ?_ ?_
    rotate_left
    · intro w; go_simp; try with_reducible rfl
    simp only [Act.put, pt1, pt2, pt3]
    refine zp 6 (v := ?_) ?_ ?_
    rotate_left
    · intro w; go_simp; try with_reducible rfl
    simp only [Act.put, pt1, pt2, pt3]
    have hA' : (0 : Int) ≤ (A : Int) ∧ (A : Int) < 8 := by omega
    refine zcl 7 (fun K' hK => ?_)
    go_simp
    refine hK.out _ _ (by assumption) (fun hHeld => ?_)
    clear hK K'
    try simp only [Act.put, pt1, pt2, pt3]
    obtain ⟨p0, P0⟩ : ∃ v, X.cell? ⟨t, 21 + A * 2, none⟩ = some v := by
      have := (TX.out.there (2 + A * 2) (by omega)).1
      rw [show 19 + (2 + A * 2) = 21 + A * 2 by omega] at this
      exact Option.isSome_iff_exists.1 this
    obtain ⟨p1, P1⟩ : ∃ v, X.cell? ⟨t, 21 + A * 2 + 1, none⟩ = some v := by
      have := (TX.out.there (3 + A * 2) (by omega)).1
      rw [show 19 + (3 + A * 2) = 21 + A * 2 + 1 by omega] at this
      exact Option.isSome_iff_exists.1 this
    have tf := TX.out.frozen
    refine zla (fun K' hK => ?_)
    go_simp
    refine hK.out _ _ ?_
    clear hK K'
    try simp only [Act.put, pt1, pt2, pt3]
    clear P0 P1 p0 p1 hHeld
    have t54 := TX.out.setReg A k n hA
    have c54 : LimT t B X ((X.setCell ⟨t, 21 + A * 2, none⟩ (.int .i64 k)).setCell ⟨t, 21 + A * 2 + 1, none⟩ (.int .i64 n)) := thr_chg TX.out (Chg.setCell (F := fun b => b = t) (Chg.setCell (F := fun b => b = t) (Chg.refl _ _) (p := ⟨t, 21 + A * 2, none⟩) (.inl rfl) _) (p := ⟨t, 21 + A * 2 + 1, none⟩) (.inl rfl) _)
    go_upto_region 4 with fail
    generalize (X.setCell ⟨t, 21 + A * 2, none⟩ (.int .i64 k)).setCell ⟨t, 21 + A * 2 + 1, none⟩ (.int .i64 n) = Y at *
    have AY := Lib.hid (block_lim AX.out c54.2 rfl)
    have TY := Lib.hid t54.drew
    have RY := Lib.hid (And.intro (RX.out.1.keep c54).drew ((RX.out.2.trans (tt_ht c54)).trans (LimH.of_below (t := t) (B := B) (Below.refl _ _).drew)))
    have q0 := TY.out.cells.2.2.2.2.2.2.2.1
    have q1 : Y.cell? ⟨w.heap.size, 1, none⟩ = some (.int .i64 (x : Int)) := cell_of_row _ _ 1 _ _ _ AY.out
    have hS0 : (fun w' : World => w'.cell? ⟨t, 42, none⟩ = some (.int .u64 (m.reads : Int)) ∧ w'.cell? ⟨w.heap.size, 1, none⟩ = some (.int .i64 (x : Int))) Y.drew.drew := ⟨q0, q1⟩
    clear q0 q1 t54 c54 TX AX RX BX tf
    refine zRegion 10 (S := fun w' : World => w'.cell? ⟨t, 42, none⟩ = some (.int .u64 (m.reads : Int)) ∧ w'.cell? ⟨w.heap.size, 1, none⟩ = some (.int .i64 (x : Int))) (by kernel_rfl) hS0 (fun hHeld => ?_)
    clear hS0
    refine zd 0 (v := ?_) ?_ ?_
    rotate_left
    · rintro w ⟨hS1, hS2⟩; go_simp; try with_reducible rfl
    simp only [Act.put, pt1, pt2, pt3]
    refine zd 1 (v := ?_) ?_ ?_
    rotate_left
    · rintro w ⟨hS1, hS2⟩; go_simp; try with_reducible rfl
    simp only [Act.put, pt1, pt2, pt3]
    refine zd 2 (v := ?_) ?_ ?_
    rotate_left
    · rintro w ⟨hS1, hS2⟩; go_simp; try with_reducible rfl
    simp only [Act.put, pt1, pt2, pt3]
    refine zd 3 (v := ?_) ?_ ?_
    rotate_left
    · rintro w ⟨hS1, hS2⟩; go_simp; try with_reducible rfl
    simp only [Act.put, pt1, pt2, pt3]
    refine zd 4 (v := ?_) ?_ ?_
    rotate_left
    · rintro w ⟨hS1, hS2⟩; go_simp; try with_reducible rfl
    simp only [Act.put, pt1, pt2, pt3]
    refine zd 5 (v := ?_) ?_ ?_
    rotate_left
    · rintro w ⟨hS1, hS2⟩; go_simp; try with_reducible rfl
    simp only [Act.put, pt1, pt2, pt3]
    refine zd 6 (v := ?_) ?_ ?_
    rotate_left
    · rintro w ⟨hS1, hS2⟩; go_simp; try with_reducible rfl
    simp only [Act.put, pt1, pt2, pt3]
    have CW' := Lib.hid (CW.out Y.drew.drew)
    refine zcl 7 (fun K' hK => ?_)
    go_simp
    go_at_call 90
    refine (CW'.out).mono ?_
    rintro en y ⟨rfl, rfl⟩
    go_wp2_with fail
    refine hK.out _ _ (by assumption) (fun hHeld => ?_)
    clear hK K' CW'
    try simp only [Act.put, pt1, pt2, pt3]
    refine zcl 8 (fun K' hK => ?_)
    go_simp
    refine hK.out _ _ (by assumption) (fun hHeld => ?_)
    clear hK K'
    try simp only [Act.put, pt1, pt2, pt3]
    refine zcl 9 (fun K' hK => ?_)
    go_simp
    refine hK.out _ _ (by assumption) (fun hHeld => ?_)
    clear hK K'
    try simp only [Act.put, pt1, pt2, pt3]
    have tf := TY.out.frozen
    refine zla (fun K' hK => ?_)
    go_simp
    refine hK.out _ _ ?_
    clear hK K'
    try simp only [Act.put, pt1, pt2, pt3]
    have hx := TY.out.drew.set 4 (.int .u64 (withN m.reads (x : Int) : Nat)) (m.told A x k n) rfl rfl rfl rfl
    have hcx : LimT t B Y.drew.drew (Y.drew.drew.setCell ⟨t, 42, none⟩ (.int .u64 (withN m.reads (x : Int) : Nat))) := thr_chg TY.out.drew (Chg.setCell (F := fun b => b = t) (Chg.refl _ _) (p := ⟨t, 42, none⟩) (.inl rfl) _)
    go_wp2_with fail
    go_ret
    exact ⟨rfl, ⟨⟨ov, hx⟩, RY.out.1.drew.keep hcx⟩, (RY.out.2.trans (LimH.of_below (t := t) (B := B) (Below.refl _ _).drew)).trans (tt_ht hcx)⟩
set_option maxRecDepth 100000 in
set_option maxHeartbeats 1000000 in
theorem thWrite (kd : Kd) (B : Nat) (w : World) (t r : Nat) (m : ThrM) (e : EngM) (evs : List EvM) (x : Nat) (k n k0 a fi : Int) (ht : ThrS B w t r m) (h : RecS kd B w r e evs) (hB : B ≤ w.heap.size) (hf : evs.length < 90000) (hl : e.live = some none) (hx : x < e.vals.length) (hrv : rightV k n = true) (hr64 : m.writes < 2 ^ 64) (hid : m.id = (e.cnt : Int)) (hT : Tab w) :
    Calls Tryz.prog 116 #[.pointer (some ⟨t, 0, none⟩), .agg (askC k0 (x : Int) a 0 k n fi)] w fun en w' => en = .returned (.int .i64 0) ∧ (ThrS B w' t r (m.wrote x) ∧ RecS kd B w' r (e.step ⟨x, k, n, true⟩) (evs ++ [⟨2, (e.cnt : Int), (x : Int), k, n⟩])) ∧ LimH t B w w' := by
  obtain ⟨ov, ht⟩ := ht
  unfold askC
  obtain ⟨W, hW⟩ : ∃ W, W = w.alloc (.cells #[.int .i64 k0, .int .i64 (x : Int), .int .i64 a, .int .i64 0, .int .i64 k, .int .i64 n, .int .i64 fi] 217) := ⟨_, rfl⟩
  have hbW : Below w.heap.size w W := by rw [hW]; exact (Below.refl _ _).alloc (Nat.le_refl _) _
  have hrW : W.heap[w.heap.size]? = some (.cells #[.int .i64 k0, .int .i64 (x : Int), .int .i64 a, .int .i64 0, .int .i64 k, .int .i64 n, .int .i64 fi] 217 (0, 0)) := by rw [hW]; exact Go.heap_alloc_new _ _
  have hl0 : Lim (fun _ => false) B w W.drew := Lim.of_below hbW.drew
  have hBW : B ≤ W.drew.heap.size := Nat.le_trans hB hbW.size
  have hTW : Tab W.drew := hT.below hT.pos hbW.drew
  have h' : RecS kd B W.drew r e evs := h.lim hl0 (by decide)
  have C1 := Lib.hid (rmWrite kd B W.drew r e evs x k n h' hBW hf hl hx hrv hTW)
  have HH := Lib.hid (ht.lim hl0 rfl rfl)
  have CW := Lib.hid (fun (U : World) => with_any m.writes (x : Int) U hr64)
  obtain ⟨y0, -, -, -, y4, -, -, -, -⟩ := HH.out.cells
  rw [hid] at y4
  have HRW := Lib.hid (show W.drew.heap[w.heap.size]? = some (.cells #[.int .i64 k0, .int .i64 (x : Int), .int .i64 a, .int .i64 0, .int .i64 k, .int .i64 n, .int .i64 fi] 217 (0, 0)) from hrW)
  have HL0 := Lib.hid (LimH.of_below (t := t) (B := B) hbW.drew)
  have y7 : W.drew.cell? ⟨w.heap.size, 1, none⟩ = some (.int .i64 (x : Int)) := cell_of_row _ _ 1 _ _ _ hrW
  have y8 : W.drew.cell? ⟨w.heap.size, 4, none⟩ = some (.int .i64 k) := cell_of_row _ _ 4 _ _ _ hrW
  have y9 : W.drew.cell? ⟨w.heap.size, 5, none⟩ = some (.int .i64 n) := cell_of_row _ _ 5 _ _ _ hrW
  clear h h' hl hT hTW hbW hrW hl0 ht hx hf hr64 hrv
  generalize e.step ⟨x, k, n, true⟩ = e2 at *
  generalize (e.cnt : Int) = c at *
  generalize evs ++ [⟨2, c, (x : Int), k, n⟩] = evs2 at *
  have hS0 : (fun w' : World => w'.cell? ⟨t, 0, none⟩ = some (.iface 74 (.pointer (some ⟨r, 0, none⟩))) ∧ w'.cell? ⟨t, 39, none⟩ = some (.int .i64 c) ∧ w'.cell? ⟨w.heap.size, 1, none⟩ = some (.int .i64 (x : Int)) ∧ w'.cell? ⟨w.heap.size, 4, none⟩ = some (.int .i64 k) ∧ w'.cell? ⟨w.heap.size, 5, none⟩ = some (.int .i64 n)) W.drew := ⟨y0, y4, y7, y8, y9⟩
  clear y0 y4 y7 y8 y9
  go_enter Tryz.func116, Tryz.ntmps116
  go_upto_region 1 with fail
  rw [← hW]
  clear hW
  refine zRegion 15 (S := (fun w' : World => w'.cell? ⟨t, 0, none⟩ = some (.iface 74 (.pointer (some ⟨r, 0, none⟩))) ∧ w'.cell? ⟨t, 39, none⟩ = some (.int .i64 c) ∧ w'.cell? ⟨w.heap.size, 1, none⟩ = some (.int .i64 (x : Int)) ∧ w'.cell? ⟨w.heap.size, 4, none⟩ = some (.int .i64 k) ∧ w'.cell? ⟨w.heap.size, 5, none⟩ = some (.int .i64 n))) (by kernel_rfl) hS0 (fun hHeld => ?_)
  clear hS0
  refine zd 0 (v := ?_) ?_ ?_
  rotate_left
  · rintro w ⟨hS1, hS2, hS3, hS4, hS5⟩; go_simp; try with_reducible rfl
  simp only [Act.put, pt1, pt2, pt3]
  refine zd 1 (v := ?_) ?_ ?_
  rotate_left
  · rintro w ⟨hS1, hS2, hS3, hS4, hS5⟩; go_simp; try with_reducible rfl
  simp only [Act.put, pt1, pt2, pt3]
  refine zd 2 (v := ?_) ?_ ?_
  rotate_left
  · rintro w ⟨hS1, hS2, hS3, hS4, hS5⟩; go_simp; try with_reducible rfl
  simp only [Act.put, pt1, pt2, pt3]
  refine zd 3 (v := ?_) ?_ ?_
  rotate_left
  · rintro w ⟨hS1, hS2, hS3, hS4, hS5⟩; go_simp; try with_reducible rfl
  simp only [Act.put, pt1, pt2, pt3]
  refine zd 4 (v := ?_) ?_ ?_
  rotate_left
  · rintro w ⟨hS1, hS2, hS3, hS4, hS5⟩; go_simp; try with_reducible rfl
  simp only [Act.put, pt1, pt2, pt3]
  refine zd 5 (v := ?_) ?_ ?_
  rotate_left
  · rintro w ⟨hS1, hS2, hS3, hS4, hS5⟩; go_simp; try with_reducible rfl
  simp only [Act.put, pt1, pt2, pt3]
  refine zd 6 (v := ?_) ?_ ?_
  rotate_left
  · rintro w ⟨hS1, hS2, hS3, hS4, hS5⟩; go_simp; try with_reducible rfl
  simp only [Act.put, pt1, pt2, pt3]
  refine zd 7 (v := ?_) ?_ ?_
  rotate_left
  · rintro w ⟨hS1, hS2, hS3, hS4, hS5⟩; go_simp; try with_reducible rfl
  simp only [Act.put, pt1, pt2, pt3]
  refine zd 8 (v := ?_) ?_ ?_
  rotate_left
  · rintro w ⟨hS1, hS2, hS3, hS4, hS5⟩; go_simp; try with_reducible rfl
  simp only [Act.put, pt1, pt2, pt3]
  refine zd 9 (v := ?_) ?_ ?_
  rotate_left
  · rintro w ⟨hS1, hS2, hS3, hS4, hS5⟩; go_simp; try with_reducible rfl
  simp only [Act.put, pt1, pt2, pt3]
  refine zd 10 (v := ?_) ?_ ?_
  rotate_left
  · rintro w ⟨hS1, hS2, hS3, hS4, hS5⟩; go_simp; try with_reducible rfl
  simp only [Act.put, pt1, pt2, pt3]
  refine zd 11 (v := ?_) ?_ ?_
  rotate_left
  · rintro w ⟨hS1, hS2, hS3, hS4, hS5⟩; go_simp; try with_reducible rfl
  simp only [Act.put, pt1, pt2, pt3]
  refine zd 12 (v := ?_) ?_ ?_
  rotate_left
  · rintro w ⟨hS1, hS2, hS3, hS4, hS5⟩; go_simp; try with_reducible rfl
  simp only [Act.put, pt1, pt2, pt3]
  refine zd 13 (v := ?_) ?_ ?_
  rotate_left
  · rintro w ⟨hS1, hS2, hS3, hS4, hS5⟩; go_simp; try with_reducible rfl
  simp only [Act.put, pt1, pt2, pt3]
  refine zcl 14 (fun K' hK => ?_)
  go_simp
  go_wp2_with fail
  refine (C1.out).mono ?_
  rintro en y ⟨rfl, hE, hli⟩
  have TX := Lib.hid (HH.out.keep hli)
  have AX := Lib.hid (block_lim HRW.out hli rfl)
  have RX := Lib.hid (And.intro hE (HL0.out.trans (rt_ht hli)))
  obtain ⟨x0, -, -, -, x4, -, -, -, -⟩ := TX.out.cells
  rw [hid] at x4
  have x7 : y.cell? ⟨w.heap.size, 1, none⟩ = some (.int .i64 (x : Int)) := cell_of_row _ _ 1 _ _ _ AX.out
  have x8 : y.cell? ⟨w.heap.size, 4, none⟩ = some (.int .i64 k) := cell_of_row _ _ 4 _ _ _ AX.out
  have x9 : y.cell? ⟨w.heap.size, 5, none⟩ = some (.int .i64 n) := cell_of_row _ _ 5 _ _ _ AX.out
  clear hE hli HRW HH HL0
  go_wp2_with fail
  refine hK.out _ _ ?_ (fun hHeld => ?_)
  · exact ⟨x0, x4, x7, x8, x9⟩
  clear hK K' x0 x4 x7 x8 x9
  try simp only [Act.put, pt1, pt2, pt3]
  refine zla (fun K' hK => ?_)
  go_simp
  refine hK.out _ _ ?_
  clear hK K'
  try simp only [Act.put, pt1, pt2, pt3]
  clear hHeld
  have lt1 : t < y.heap.size := block_lt TX.out.row
  go_upto_region 3 with fail
  have q0 := TX.out.cells.2.2.2.2.2.2.2.2
  have q1 : y.cell? ⟨w.heap.size, 1, none⟩ = some (.int .i64 (x : Int)) := cell_of_row _ _ 1 _ _ _ AX.out
  have hS0 : (fun w' : World => w'.cell? ⟨t, 43, none⟩ = some (.int .u64 (m.writes : Int)) ∧ w'.cell? ⟨w.heap.size, 1, none⟩ = some (.int .i64 (x : Int))) y.drew := ⟨q0, q1⟩
  clear q0 q1
  refine zRegion 10 (S := fun w' : World => w'.cell? ⟨t, 43, none⟩ = some (.int .u64 (m.writes : Int)) ∧ w'.cell? ⟨w.heap.size, 1, none⟩ = some (.int .i64 (x : Int))) (by kernel_rfl) hS0 (fun hHeld => ?_)
  clear hS0
  refine zd 0 (v := ?_) ?_ ?_
  rotate_left
  · rintro w ⟨hS1, hS2⟩; go_simp; try with_reducible rfl
  simp only [Act.put, pt1, pt2, pt3]
  refine zd 1 (v := ?_) ?_ ?_
  rotate_left
  · rintro w ⟨hS1, hS2⟩; go_simp; try with_reducible rfl
  simp only [Act.put, pt1, pt2, pt3]
  refine zd 2 (v := ?_) ?_ ?_
  rotate_left
  · rintro w ⟨hS1, hS2⟩; go_simp; try with_reducible rfl
  simp only [Act.put, pt1, pt2, pt3]
  refine zd 3 (v := ?_) ?_ ?_
  rotate_left
  · rintro w ⟨hS1, hS2⟩; go_simp; try with_reducible rfl
  simp only [Act.put, pt1, pt2, pt3]
  refine zd 4 (v := ?_) ?_ ?_
  rotate_left
  · rintro w ⟨hS1, hS2⟩; go_simp; try with_reducible rfl
  simp only [Act.put, pt1, pt2, pt3]
  refine zd 5 (v := ?_) ?_ ?_
  rotate_left
  · rintro w ⟨hS1, hS2⟩; go_simp; try with_reducible rfl
  simp only [Act.put, pt1, pt2, pt3]
  refine zd 6 (v := ?_) ?_ ?_
  rotate_left
  · rintro w ⟨hS1, hS2⟩; go_simp; try with_reducible rfl
  simp only [Act.put, pt1, pt2, pt3]
  have CW' := Lib.hid (CW.out y.drew)
  refine zcl 7 (fun K' hK => ?_)
  go_simp
  go_at_call 90
  refine (CW'.out).mono ?_
  rintro en y2 ⟨rfl, rfl⟩
  go_wp2_with fail
  refine hK.out _ _ (by assumption) (fun hHeld => ?_)
  clear hK K' CW'
  try simp only [Act.put, pt1, pt2, pt3]
  refine zcl 8 (fun K' hK => ?_)
  go_simp
  refine hK.out _ _ (by assumption) (fun hHeld => ?_)
  clear hK K'
  try simp only [Act.put, pt1, pt2, pt3]
  refine zcl 9 (fun K' hK => ?_)
  go_simp
  refine hK.out _ _ (by assumption) (fun hHeld => ?_)
  clear hK K'
  try simp only [Act.put, pt1, pt2, pt3]
  have tf := TX.out.frozen
  refine zla (fun K' hK => ?_)
  go_simp
  refine hK.out _ _ ?_
  clear hK K'
  try simp only [Act.put, pt1, pt2, pt3]
  have hx := TX.out.drew.set 5 (.int .u64 (withN m.writes (x : Int) : Nat)) (m.wrote x) rfl rfl rfl rfl
  have hcx : LimT t B y.drew (y.drew.setCell ⟨t, 43, none⟩ (.int .u64 (withN m.writes (x : Int) : Nat))) := thr_chg TX.out.drew (Chg.setCell (F := fun b => b = t) (Chg.refl _ _) (p := ⟨t, 43, none⟩) (.inl rfl) _)
  go_wp2_with fail
  go_ret
  exact ⟨rfl, ⟨⟨ov, hx⟩, RX.out.1.drew.keep hcx⟩, (RX.out.2.trans (LimH.of_below (t := t) (B := B) (Below.refl _ _).drew)).trans (tt_ht hcx)⟩
end Go.Proofs.YteflpdhgojcmcaaGreatDoor
