/- A thread as a model, and as it lies in memory. A thread's begin, over and fail, as a model. No conditions but those that each theorem names. -/
import Derived.Test.YteflpdhgojcmcaaGreatDoorU01
import Derived.Test.YteflpdhgojcmcaaGreatDoorU25
namespace Go.Proofs.YteflpdhgojcmcaaGreatDoor
open Go.RowKit PSet PMat
theorem OpM.all (o : OpM) : AllOne o.cells := by
  intro u hu
  simp [OpM.cells] at hu
  rcases hu with rfl | rfl | rfl | rfl | rfl <;> rfl
def opsC (l : List OpM) : List Value := l.flatMap OpM.cells
theorem opsC_length (l : List OpM) : (opsC l).length = l.length * 5 := chunk_length (f := OpM.cells) (k := 5) (fun _ => rfl) l
theorem opsC_one (l : List OpM) : AllOne (opsC l) := by
  intro v hv
  obtain ⟨e, _, he⟩ := List.mem_flatMap.1 hv
  exact e.all v he
theorem ops_of_range {w : World} {b off : Nat} {l : List OpM} (hb : b < w.heap.size) (h : w.rangeAt b off (opsC l)) : OpsAt w b off l :=
  ⟨hb, fun i hi => by
    have hx : l[i]? = some (l.getD i OpM.zero) := by simp [hi]
    exact chunk_range (f := OpM.cells) (k := 5) (fun _ => rfl) h hx⟩
/-- The registers of a block that begins. -/
def zeroRegs : List Reg := [(0, 0), (0, 0), (0, 0), (0, 0), (0, 0), (0, 0), (0, 0), (0, 0)]
/-- A block that begins. -/
def CpuM.zero : CpuM := ⟨0, 0, zeroRegs⟩
/-- A thread, whose block begins with registers that are nought. -/
structure ThrM where
  ops : List OpM
  fuel : Int
  cpu : CpuM
  state : Int
  id : Int
  fin : Int
  failed : Int
  reads : Nat
  writes : Nat
def ThrM.head (m : ThrM) (r : Nat) (ov : Value) : List Value := [.iface 74 (.pointer (some ⟨r, 0, none⟩)), ov] ++ regsC zeroRegs ++ [.int .i64 m.fuel]
def ThrM.tail (m : ThrM) : List Value := [.int .i64 m.state, .int .i64 m.id, .int .i64 m.fin, .int .i64 m.failed, .int .u64 (m.reads : Int), .int .u64 (m.writes : Int)]
def ThrM.row (m : ThrM) (r : Nat) (ov : Value) : List Value := m.head r ov ++ m.cpu.cells ++ m.tail
theorem ThrM.head_len (m : ThrM) (r : Nat) (ov : Value) : (m.head r ov).length = 19 := by
  simp [ThrM.head, regsC_length, zeroRegs]
theorem ThrM.row_len {m : ThrM} {r : Nat} {ov : Value} (h : m.cpu.regs.length = 8) : (m.row r ov).length = 44 := by
  simp [ThrM.row, ThrM.head_len, CpuM.len h, ThrM.tail]
theorem ThrM.row_get {m : ThrM} {r : Nat} {ov : Value} (h : m.cpu.regs.length = 8) (i : Nat) (hi : i < 6) : (m.row r ov)[38 + i]? = m.tail[i]? := by
  have : (m.head r ov ++ m.cpu.cells).length = 38 := by simp [ThrM.head_len, CpuM.len h]
  rw [ThrM.row, List.getElem?_append_right (by omega), this, Nat.add_sub_cancel_left]
theorem ThrM.row_set {m : ThrM} {r : Nat} {ov : Value} (h : m.cpu.regs.length = 8) (i : Nat) (v : Value) : (m.row r ov).set (38 + i) v = m.head r ov ++ m.cpu.cells ++ m.tail.set i v := by
  have : (m.head r ov ++ m.cpu.cells).length = 38 := by simp [ThrM.head_len, CpuM.len h]
  rw [ThrM.row, List.set_append_right _ _ (by omega), this, Nat.add_sub_cancel_left]
theorem ThrM.row_one {m : ThrM} {r : Nat} {ov : Value} (ho : ov.oneCell' = true) : AllOne (m.row r ov) := by
  intro u hu
  simp only [ThrM.row, ThrM.head, ThrM.tail, List.mem_append, List.mem_cons, List.not_mem_nil, or_false] at hu
  rcases hu with (((((rfl | rfl) | hu) | rfl) | hu) | rfl | rfl | rfl | rfl | rfl | rfl)
  · rfl
  · exact ho
  · exact regsC_one _ _ hu
  · rfl
  · exact CpuM.all _ _ hu
  all_goals rfl
structure ThrI (B : Nat) (w : World) (t r : Nat) (ov : Value) (m : ThrM) : Prop where
  row : w.heap[t]? = some (.cells (m.row r ov).toArray 96 (0, 0))
  base : B ≤ t
  ops : w.ownsRow B 50 5 ov m.ops.length (opsC m.ops)
  regs : m.cpu.regs.length = 8
  used : m.cpu.used ≤ 100000
  right : rightL m.ops = true
def ThrS (B : Nat) (w : World) (t r : Nat) (m : ThrM) : Prop := ∃ ov, ThrI B w t r ov m
theorem ThrI.lim {E : Nat → Bool} {B B' : Nat} {w w' : World} {t r : Nat} {ov : Value} {m : ThrM} (h : ThrI B w t r ov m) (hc : Lim E B' w w') (h1 : E 96 = false) (h2 : E 50 = false) : ThrI B w' t r ov m :=
  ⟨block_lim h.row hc h1, h.base, owns_lim h.ops hc h2, h.regs, h.used, h.right⟩
theorem ThrS.lim {E : Nat → Bool} {B B' : Nat} {w w' : World} {t r : Nat} {m : ThrM} (h : ThrS B w t r m) (hc : Lim E B' w w') (h1 : E 96 = false) (h2 : E 50 = false) : ThrS B w' t r m := by
  obtain ⟨ov, h⟩ := h
  exact ⟨ov, h.lim hc h1 h2⟩
theorem ThrI.one {B : Nat} {w : World} {t r : Nat} {ov : Value} {m : ThrM} (h : ThrI B w t r ov m) : ov.oneCell' = true := by
  obtain ⟨_, _, _, rfl, _⟩ := RowAt.of_owns h.ops
  rfl
theorem ThrI.at {B : Nat} {w : World} {t r : Nat} {ov : Value} {m : ThrM} (h : ThrI B w t r ov m) : ThrAt w t (m.row r ov) := ⟨h.row, ThrM.row_len h.regs, all_of_one (ThrM.row_one h.one)⟩
theorem ThrI.cell {B : Nat} {w : World} {t r : Nat} {ov : Value} {m : ThrM} (h : ThrI B w t r ov m) (i : Nat) (v : Value) (hi : m.tail[i]? = some v) : w.cell? ⟨t, 38 + i, none⟩ = some v := by
  have hlt : i < 6 := (List.getElem?_eq_some_iff.1 hi).1
  rw [cell_of_row _ _ _ _ _ _ h.row]
  simpa using (ThrM.row_get h.regs i hlt).trans hi
theorem ThrI.cells {B : Nat} {w : World} {t r : Nat} {ov : Value} {m : ThrM} (h : ThrI B w t r ov m) :
    w.cell? ⟨t, 0, none⟩ = some (.iface 74 (.pointer (some ⟨r, 0, none⟩))) ∧ w.cell? ⟨t, 1, none⟩ = some ov ∧ w.cell? ⟨t, 18, none⟩ = some (.int .i64 m.fuel) ∧
    w.cell? ⟨t, 38, none⟩ = some (.int .i64 m.state) ∧ w.cell? ⟨t, 39, none⟩ = some (.int .i64 m.id) ∧ w.cell? ⟨t, 40, none⟩ = some (.int .i64 m.fin) ∧ w.cell? ⟨t, 41, none⟩ = some (.int .i64 m.failed) ∧
    w.cell? ⟨t, 42, none⟩ = some (.int .u64 (m.reads : Int)) ∧ w.cell? ⟨t, 43, none⟩ = some (.int .u64 (m.writes : Int)) := by
  refine ⟨?_, ?_, ?_, h.cell 0 _ rfl, h.cell 1 _ rfl, h.cell 2 _ rfl, h.cell 3 _ rfl, h.cell 4 _ rfl, h.cell 5 _ rfl⟩ <;>
    rw [cell_of_row _ _ _ _ _ _ h.row] <;> simp [ThrM.row, ThrM.head, zeroRegs, regsC, regC]
theorem ThrI.first {B : Nat} {w : World} {t r : Nat} {ov : Value} {m : ThrM} (h : ThrI B w t r ov m) : w.rangeAt t 2 (regsC zeroRegs) := fun j v hj => by
  have hl : j < 16 := by have := (List.getElem?_eq_some_iff.1 hj).1; simpa [regsC_length, zeroRegs] using this
  rw [cell_of_row _ _ _ _ _ _ h.row]
  simp only [ThrM.row, ThrM.head, List.getElem?_toArray]
  rw [List.append_assoc, List.append_assoc, List.append_assoc, List.getElem?_append_right (by simp), List.getElem?_append_left (by simp [regsC_length, zeroRegs]; omega)]
  simpa using hj
theorem ThrI.cpuAt {B : Nat} {w : World} {t r : Nat} {ov : Value} {m : ThrM} (h : ThrI B w t r ov m) : w.rangeAt t 19 m.cpu.cells := fun j v hj => by
  have hl : j < m.cpu.cells.length := (List.getElem?_eq_some_iff.1 hj).1
  rw [cell_of_row _ _ _ _ _ _ h.row]
  simp only [ThrM.row, List.getElem?_toArray]
  rw [List.append_assoc, List.getElem?_append_right (by rw [ThrM.head_len]; omega), ThrM.head_len, Nat.add_sub_cancel_left, List.getElem?_append_left hl]
  exact hj
theorem ThrI.there {B : Nat} {w : World} {t r : Nat} {ov : Value} {m : ThrM} (h : ThrI B w t r ov m) : w.there t 19 19 := fun j hj => by
  have h1 : 19 + j < (m.row r ov).toArray.size := by simpa [ThrM.row_len h.regs] using (by omega : 19 + j < 44)
  refine ⟨?_, frozen_of_row _ _ _ _ _ h.row⟩
  rw [cell_of_row _ _ _ _ _ _ h.row, Array.getElem?_eq_getElem h1]
  rfl
/-- One cell of the tail is another. -/
theorem ThrI.set {B : Nat} {w : World} {t r : Nat} {ov : Value} {m : ThrM} (h : ThrI B w t r ov m) (i : Nat) (v : Value) (m' : ThrM) (e1 : m'.ops = m.ops) (e2 : m'.fuel = m.fuel) (e3 : m'.cpu = m.cpu) (et : m'.tail = m.tail.set i v) :
    ThrI B (w.setCell ⟨t, 38 + i, none⟩ v) t r ov m' where
  row := by
    have h1 := heap_setCell_same w t (38 + i) _ _ v h.row
    rw [List.setIfInBounds_toArray, ThrM.row_set h.regs] at h1
    rw [h1, ThrM.row, show m'.head r ov = m.head r ov by rw [ThrM.head, ThrM.head, e2], e3, et]
  base := h.base
  ops := by
    rw [e1]
    exact owns_chg h.ops (Chg.setCell (F := fun b => b = t) (Chg.refl _ _) (.inl rfl) v) fun b cs hb hs => by
      subst hb
      rw [h.row] at hs
      cases hs
  regs := by rw [e3]; exact h.regs
  used := by rw [e3]; exact h.used
  right := by rw [e1]; exact h.right
/-- Where its block stands is another. -/
theorem ThrI.setCpu {B : Nat} {w : World} {t r : Nat} {ov : Value} {m : ThrM} (h : ThrI B w t r ov m) (c : CpuM) (hc : c.regs.length = 8) (hu : c.used ≤ 100000) :
    ThrI B (w.setCells t 19 c.cells) t r ov { m with cpu := c } where
  row := by
    have h1 := setCells_row t 96 c.cells (m.row r ov) 19 w h.row
    rw [h1, ThrM.row, ← ThrM.head_len m r ov, setAll_mid _ _ _ _ (by rw [CpuM.len hc, CpuM.len h.regs])]
    rfl
  base := h.base
  ops := owns_chg h.ops (Chg.setCells (F := fun b => b = t) t (.inl rfl) _ 19 w (Chg.refl _ _)) fun b cs hb hs => by
      subst hb
      rw [h.row] at hs
      cases hs
  regs := hc
  used := hu
  right := h.right
theorem ThrI.frozen {B : Nat} {w : World} {t r : Nat} {ov : Value} {m : ThrM} (h : ThrI B w t r ov m) (j : Nat) : w.frozen? ⟨t, j, none⟩ = false := frozen_of_row _ _ _ _ _ h.row
/-- The type of a thread's block. -/
def TT (t : Nat) : Bool := t == 96
theorem ThrI.in {B : Nat} {w : World} {t r : Nat} {ov : Value} {m : ThrM} (h : ThrI B w t r ov m) : InT TT B w t := ⟨h.base, _, _, _, h.row, rfl⟩
/-- Nothing is another but a thread, and new blocks. -/
def LimT (t B : Nat) (w w' : World) : Prop := Chg (fun b => b = t) w w' ∧ Lim TT B w w'
/-- Nothing is another but a thread, the blocks of an engine and of its recorder, and new blocks. -/
def LimH (t B : Nat) (w w' : World) : Prop := Chg (fun i => i = t ∨ InT RT B w i) w w'
theorem LimT.trans {t B : Nat} {a b c : World} (h : LimT t B a b) (k : LimT t B b c) : LimT t B a c := ⟨Chg.trans (F := fun i => i = t) (G := fun i => i = t) h.1 k.1 (fun _ hi => .inl hi), Lim.trans h.2 k.2⟩
theorem LimT.drew {t B : Nat} {a b : World} (h : LimT t B a b) : LimT t B a b.drew := ⟨Chg.drew h.1, Chg.drew h.2⟩
theorem LimH.trans {t B : Nat} {a b c : World} (h : LimH t B a b) (k : LimH t B b c) : LimH t B a c := by
  refine Chg.trans (F := fun i => i = t ∨ InT RT B a i) (G := fun i => i = t ∨ InT RT B b i) h k fun i hi => ?_
  rcases hi with hi | hi
  · exact .inl (.inl hi)
  by_cases hl : i < a.heap.size
  · by_cases hn : i = t ∨ InT RT B a i
    · exact .inl hn
    · obtain ⟨h1, cs, ty, fr, h2, h3⟩ := hi
      exact absurd (.inr ⟨h1, cs, ty, fr, (Chg.block h i hl hn).symm.trans h2, h3⟩) hn
  · exact .inr (by omega)
theorem LimH.refl (t B : Nat) (w : World) : LimH t B w w := Chg.refl _ _
theorem LimH.of_below {t B : Nat} {a b : World} (h : Below a.heap.size a b) : LimH t B a b := Chg.of_below h
theorem LimH.to_below {t B : Nat} {a b : World} (h : LimH t B a b) (hB : B ≤ a.heap.size) (ht : B ≤ t) : Below B a b := Chg.to_below (F := fun i => i = t ∨ InT RT B a i) h hB fun _ hi => hi.elim (fun e => e ▸ ht) (·.1)
theorem LimH.size {t B : Nat} {a b : World} (h : LimH t B a b) : a.heap.size ≤ b.heap.size := Chg.size h
theorem thr_chg {B : Nat} {w w' : World} {t r : Nat} {ov : Value} {m : ThrM} (h : ThrI B w t r ov m) (hc : Chg (fun b => b = t) w w') : LimT t B w w' :=
  ⟨hc, Chg.weak (F := fun b => b = t) (G := InT TT B w) hc fun i hi => .inl (by subst hi; exact h.in)⟩
theorem rt_ht {t B : Nat} {a b : World} (h : Lim RT B a b) : LimH t B a b := Chg.weak (F := InT RT B a) (G := fun i => i = t ∨ InT RT B a i) h fun _ hi => .inl (.inr hi)
theorem tt_ht {t B : Nat} {a b : World} (h : LimT t B a b) : LimH t B a b := Chg.weak (F := fun i => i = t) (G := fun i => i = t ∨ InT RT B a i) h.1 fun _ hi => .inl (.inl hi)
end Go.Proofs.YteflpdhgojcmcaaGreatDoor
namespace Go.Proofs.YteflpdhgojcmcaaGreatDoor
open Go.RowKit PSet PMat
def ThrM.begun (m : ThrM) (id : Int) : ThrM := { m with id := id, state := 1, cpu := CpuM.zero, reads := 0, writes := 0 }
theorem RecS.keep {kd : Kd} {B : Nat} {w w' : World} {r : Nat} {e : EngM} {evs : List EvM} (h : RecS kd B w r e evs) {t : Nat} (hc : LimT t B w w') : RecS kd B w' r e evs := h.lim hc.2 (by decide)
theorem ThrI.keep {B : Nat} {w w' : World} {t r : Nat} {ov : Value} {m : ThrM} (h : ThrI B w t r ov m) (hc : Lim RT B w w') : ThrI B w' t r ov m := h.lim hc rfl rfl
theorem ThrI.drew {B : Nat} {w : World} {t r : Nat} {ov : Value} {m : ThrM} (h : ThrI B w t r ov m) : ThrI B w.drew t r ov m := h.keep (Lim.of_below (Below.refl _ _).drew)
theorem RecS.drew {kd : Kd} {B : Nat} {w : World} {r : Nat} {e : EngM} {evs : List EvM} (h : RecS kd B w r e evs) : RecS kd B w.drew r e evs := h.lim (E := fun _ => false) (B' := B) (Lim.of_below (Below.refl _ _).drew) (by decide)
theorem regs16 : regsC zeroRegs = [.int .i64 0, .int .i64 0, .int .i64 0, .int .i64 0, .int .i64 0, .int .i64 0, .int .i64 0, .int .i64 0, .int .i64 0, .int .i64 0, .int .i64 0, .int .i64 0, .int .i64 0, .int .i64 0, .int .i64 0, .int .i64 0] := rfl
theorem wpList_yields {P : Program} {ops : Array Oper} {rest : List Oper} {op : Oper} {a : Act} {w : World} {Q : Exit → Act → World → Prop} {v : Value} (hgd : op.guard = none) (hv : (execOp a.eval op).run P w = .ok (.value v) w)
    (h : wpList P ops Q rest (a.put op.dst v) w) : wpList P ops Q (op :: rest) a w := wpList_plain hgd fun _ hK => by
  unfold Oper.wp
  simp only [hv]
  exact hK _ _ h
def cpu0 : Array Value := #[.int .i64 0, .int .i64 0, .int .i64 0, .int .i64 0, .int .i64 0, .int .i64 0, .int .i64 0, .int .i64 0, .int .i64 0, .int .i64 0, .int .i64 0, .int .i64 0, .int .i64 0, .int .i64 0, .int .i64 0, .int .i64 0, .int .i64 0, .int .i64 0, .slice none 0 0]
theorem cpu0_size : cpu0.size = 19 := rfl
theorem cpu0_one : cpu0.all (·.oneCell') = true := by kernel_rfl
theorem cpu0_info : (Tryz.prog.info? 94).map (·.size) = some cpu0.size := by kernel_rfl
theorem cpu0_list : cpu0.toList = CpuM.zero.cells := rfl
set_option maxRecDepth 100000 in
set_option maxHeartbeats 1000000 in
theorem thBegin (kd : Kd) (B : Nat) (w : World) (t r : Nat) (m : ThrM) (e : EngM) (evs : List EvM) (ht : ThrS B w t r m) (h : RecS kd B w r e evs) (hB : B ≤ w.heap.size) (hf : evs.length < 90000) (hl : e.live = none) (hc : e.cnt < 100000) (hT : Tab w) :
    Calls Tryz.prog 72 #[.pointer (some ⟨t, 0, none⟩)] w fun en w' => en = .returned (.tuple #[]) ∧ (ThrS B w' t r (m.begun ((e.cnt + 1 : Nat) : Int)) ∧ RecS kd B w' r e.begun (evs ++ [⟨0, ((e.cnt + 1 : Nat) : Int), 0, 0, 0⟩])) ∧ LimH t B w w' := by
  obtain ⟨ov, ht⟩ := ht
  have C1 := Lib.hid (rmBegin kd B w r e evs h hB hf hl hc hT)
  have HH := Lib.hid ht
  have h0 := ht.cells.1
  clear h hl hT hc ht
  generalize e.begun = e2 at *
  generalize ((e.cnt + 1 : Nat) : Int) = c at *
  generalize evs ++ [⟨0, c, 0, 0, 0⟩] = evs2 at *
  go_enter Tryz.func72, Tryz.ntmps72
  go_wp2_with fail
  refine (C1.out).mono ?_
  rintro en y ⟨rfl, hE, hli⟩
  have hy := HH.out.keep hli
  obtain ⟨y0, y1, y2, y3, y4, y5, y6, y7, y8⟩ := hy.cells
  have yf := hy.frozen
  have HY := Lib.hid hy
  have HE := Lib.hid (And.intro hE hli)
  clear hE hli hy
  go_upto_region 3 with fail
  have hu := (HY.out.set 1 (.int .i64 c) { m with id := c } rfl rfl rfl rfl).set 0 (.int .i64 1) { m with id := c, state := 1 } rfl rfl rfl rfl
  have hcu : LimT t B y ((y.setCell ⟨t, 39, none⟩ (.int .i64 c)).setCell ⟨t, 38, none⟩ (.int .i64 1)) := thr_chg HY.out (Chg.setCell (F := fun b => b = t) (Chg.setCell (F := fun b => b = t) (Chg.refl _ _) (p := ⟨t, 39, none⟩) (.inl rfl) _) (p := ⟨t, 38, none⟩) (.inl rfl) _)
  clear y0 y1 y2 y3 y4 y5 y6 y7 y8 yf
  generalize ((y.setCell ⟨t, 39, none⟩ (.int .i64 c)).setCell ⟨t, 38, none⟩ (.int .i64 1)) = U at *
  have hfi := hu.first
  have HU := Lib.hid hu
  have HCU := Lib.hid hcu
  rw [regs16] at hfi
  have HFI := Lib.hid hfi
  clear hu hcu hfi
  apply wp_region_lit
  refine wpList_yields (v := ?_) rfl ?_ ?_
  rotate_left
  · go_simp; try with_reducible rfl
  simp only [Act.put, pt1, pt2, pt3]
  refine wpList_yields (v := ?_) rfl ?_ ?_
  rotate_left
  · go_simp; try with_reducible rfl
  simp only [Act.put, pt1, pt2, pt3]
  refine wpList_yields (v := ?_) rfl ?_ ?_
  rotate_left
  · go_simp; try with_reducible rfl
  simp only [Act.put, pt1, pt2, pt3]
  refine wpList_yields (v := ?_) rfl ?_ ?_
  rotate_left
  · go_simp; try with_reducible rfl
  simp only [Act.put, pt1, pt2, pt3]
  refine wpList_load_mid rfl 55 _ rfl t 2 rfl _ _ HFI.out Tryz.underlying55 rfl (by kernel_rfl) ?_
  simp only [Act.put, pt1, pt2, pt3]
  refine wpList_yields (v := .agg cpu0) rfl (by kernel_rfl) ?_
  simp only [Act.put, pt1, pt2, pt3]
  refine wpList_yields (v := ?_) rfl ?_ ?_
  rotate_left
  · go_simp; try with_reducible rfl
  simp only [Act.put, pt1, pt2, pt3]
  refine wpList_yields (v := ?_) rfl ?_ ?_
  rotate_left
  · go_simp; try with_reducible rfl
  simp only [Act.put, pt1, pt2, pt3]
  refine wpList_store_mid rfl 94 _ _ rfl t 19 cpu0 rfl rfl (by rw [cpu0_size]; exact HU.out.there) cpu0_info cpu0_one ?_
  simp only [Act.put]
  rw [cpu0_list]
  have hv := HU.out.setCpu CpuM.zero rfl (by decide)
  have hcv : LimT t B U (U.setCells t 19 CpuM.zero.cells) := thr_chg HU.out (Chg.setCells (F := fun b => b = t) t (.inl rfl) _ 19 U (Chg.refl _ _))
  generalize U.setCells t 19 CpuM.zero.cells = V at *
  obtain ⟨y0, y1, y2, y3, y4, y5, y6, y7, y8⟩ := hv.cells
  have yf := hv.frozen
  have HV := Lib.hid hv
  have HCV := Lib.hid hcv
  clear hv hcv
  go_wp2_with fail
  have hx := (HV.out.set 4 (.int .u64 0) { m with id := c, state := 1, cpu := CpuM.zero, reads := 0 } rfl rfl rfl rfl).set 5 (.int .u64 0) (m.begun c) rfl rfl rfl rfl
  have hcx : LimT t B V ((V.setCell ⟨t, 42, none⟩ (.int .u64 0)).setCell ⟨t, 43, none⟩ (.int .u64 0)) := thr_chg HV.out (Chg.setCell (F := fun b => b = t) (Chg.setCell (F := fun b => b = t) (Chg.refl _ _) (p := ⟨t, 42, none⟩) (.inl rfl) _) (p := ⟨t, 43, none⟩) (.inl rfl) _)
  have hall := (HCU.out.trans HCV.out).trans hcx
  refine bodyPost_end (results_none rfl _ _ _) rfl ⟨rfl, ⟨⟨ov, hx⟩, HE.out.1.keep hall⟩, (rt_ht HE.out.2).trans (tt_ht hall)⟩
theorem thFail0 (t : Nat) (w : World) : Calls Tryz.prog 119 #[.pointer (some ⟨t, 0, none⟩), .int .i64 0] w fun en w' => en = .returned (.tuple #[]) ∧ w = w' := by
  go_enter Tryz.func119, Tryz.ntmps119
  go_wp2_with fail
  refine bodyPost_end (results_none rfl _ _ _) rfl ⟨rfl, rfl⟩
def ThrM.done (m : ThrM) : ThrM := { m with fin := 0, state := 3 }
def ThrM.stop (m : ThrM) (k : Int) : ThrM := { m with fin := k, state := if k = 1 ∧ m.reads ≠ 0 then 2 else 4 }
set_option maxRecDepth 100000 in
theorem thOver0 (kd : Kd) (B : Nat) (w : World) (t r : Nat) (m : ThrM) (e : EngM) (evs : List EvM) (st : Option StepM) (ht : ThrS B w t r m) (h : RecS kd B w r e evs) (hB : B ≤ w.heap.size) (hB0 : 0 < B) (hf : evs.length < 90000) (hl : e.live = some st) (hid : m.id = (e.cnt : Int)) (hfew : e.log.length < 100000) (hT : Tab w) :
    Calls Tryz.prog 114 #[.pointer (some ⟨t, 0, none⟩), .int .i64 0] w fun en w' => en = .returned (.tuple #[]) ∧ (ThrS B w' t r m.done ∧ RecS kd B w' r (e.commit st) (evs ++ [⟨3, (e.cnt : Int), 0, 0, 0⟩])) ∧ LimH t B w w' := by
  obtain ⟨ov, ht⟩ := ht
  have hu := ht.set 2 (.int .i64 0) { m with fin := 0 } rfl rfl rfl rfl
  have hcu : LimT t B w (w.setCell ⟨t, 40, none⟩ (.int .i64 0)) := thr_chg ht (Chg.setCell (F := fun b => b = t) (Chg.refl _ _) (p := ⟨t, 40, none⟩) (.inl rfl) _)
  have hb := Lim.to_below hcu.2 hB
  have C1 := Lib.hid (rmCommit kd B (w.setCell ⟨t, 40, none⟩ (.int .i64 0)).drew r e evs st (h.keep hcu).drew (Nat.le_trans hB hb.size) hB0 hf hl hfew (hT.below hB0 hb.drew))
  obtain ⟨y0, y1, y2, y3, y4, y5, y6, y7, y8⟩ := ht.cells
  have yf := ht.frozen
  have HT' := Lib.hid ht
  clear h hl hT ht hfew
  generalize (e.commit st) = e2 at *
  generalize (e.cnt : Int) = c at *
  go_enter Tryz.func114, Tryz.ntmps114
  go_upto_region 2 with fail
  generalize hU : w.setCell ⟨t, 40, none⟩ (.int .i64 0) = U at *
  obtain ⟨z0, z1, z2, z3, z4, z5, z6, z7, z8⟩ := hu.drew.cells
  have HU := Lib.hid hu.drew
  have HCU := Lib.hid (hcu.drew)
  clear y0 y1 y2 y3 y4 y5 y6 y7 y8 yf hu hcu hb
  rw [show ({ m with fin := 0 } : ThrM).id = m.id from rfl, hid] at z4
  have hS0 : (fun w' : World => w'.cell? ⟨t, 0, none⟩ = some (.iface 74 (.pointer (some ⟨r, 0, none⟩))) ∧ w'.cell? ⟨t, 39, none⟩ = some (.int .i64 c)) U.drew := ⟨z0, z4⟩
  refine zRegion 11 (S := fun w' : World => w'.cell? ⟨t, 0, none⟩ = some (.iface 74 (.pointer (some ⟨r, 0, none⟩))) ∧ w'.cell? ⟨t, 39, none⟩ = some (.int .i64 c)) (by kernel_rfl) hS0 (fun hHeld => ?_)
  clear hS0 hid
  refine zd 0 (v := ?_) ?_ ?_
  rotate_left
  · rintro w ⟨hS1, hS2⟩; go_simp; try with_reducible rfl
  simp only [Act.put, pt1, pt2, pt3]
  refine zd 1 (v := ?_) ?_ ?_
  rotate_left
  · rintro w ⟨hS1, hS2⟩; go_simp; try with_reducible rfl
  simp only [Act.put, pt1, pt2, pt3]
  refine zd 2 (v := ?_) ?_ ?_
  rotate_left
  · rintro w ⟨hS1, hS2⟩; go_simp; try with_reducible rfl
  simp only [Act.put, pt1, pt2, pt3]
  refine zd 3 (v := ?_) ?_ ?_
  rotate_left
  · rintro w ⟨hS1, hS2⟩; go_simp; try with_reducible rfl
  simp only [Act.put, pt1, pt2, pt3]
  refine zd 4 (v := ?_) ?_ ?_
  rotate_left
  · rintro w ⟨hS1, hS2⟩; go_simp; try with_reducible rfl
  simp only [Act.put, pt1, pt2, pt3]
  refine zd 5 (v := ?_) ?_ ?_
  rotate_left
  · rintro w ⟨hS1, hS2⟩; go_simp; try with_reducible rfl
  simp only [Act.put, pt1, pt2, pt3]
  refine zd 6 (v := ?_) ?_ ?_
  rotate_left
  · rintro w ⟨hS1, hS2⟩; go_simp; try with_reducible rfl
  simp only [Act.put, pt1, pt2, pt3]
  refine zd 7 (v := ?_) ?_ ?_
  rotate_left
  · rintro w ⟨hS1, hS2⟩; go_simp; try with_reducible rfl
  simp only [Act.put, pt1, pt2, pt3]
  refine zd 8 (v := ?_) ?_ ?_
  rotate_left
  · rintro w ⟨hS1, hS2⟩; go_simp; try with_reducible rfl
  simp only [Act.put, pt1, pt2, pt3]
  refine zd 9 (v := ?_) ?_ ?_
  rotate_left
  · rintro w ⟨hS1, hS2⟩; go_simp; try with_reducible rfl
  simp only [Act.put, pt1, pt2, pt3]
  refine zcl 10 (fun K' hK => ?_)
  go_simp
  go_wp2_with fail
  refine (C1.out).mono ?_
  rintro en y ⟨rfl, hE, hli⟩
  have hy := HU.out.keep hli
  have HY := Lib.hid hy
  have HE := Lib.hid (And.intro hE ((tt_ht HCU.out).trans (rt_ht hli)))
  obtain ⟨x0, x1, x2, x3, x4, x5, x6, x7, x8⟩ := hy.cells
  have xf := hy.frozen
  have x4' : y.cell? ⟨t, 39, none⟩ = some (.int .i64 c) := x4.trans (HU.out.cells.2.2.2.2.1.symm.trans z4)
  clear hE hli hy
  go_wp2_with fail
  refine hK.out _ _ ?_ (fun hHeld => ?_)
  · exact ⟨x0, x4'⟩
  clear hK K' x4'
  try simp only [Act.put, pt1, pt2, pt3]
  refine zla (fun K' hK => ?_)
  go_simp
  refine hK.out _ _ ?_
  clear hK K'
  try simp only [Act.put, pt1, pt2, pt3]
  clear hHeld
  go_upto_region 5 with fail
  have hx := HY.out.set 0 (.int .i64 3) m.done rfl rfl rfl rfl
  have hcx : LimT t B y (y.setCell ⟨t, 38, none⟩ (.int .i64 3)) := thr_chg HY.out (Chg.setCell (F := fun b => b = t) (Chg.refl _ _) (p := ⟨t, 38, none⟩) (.inl rfl) _)
  generalize y.setCell ⟨t, 38, none⟩ (.int .i64 3) = V at *
  have C2 := Lib.hid (thFail0 t V)
  go_wp2_with fail
  refine (C2.out).mono ?_
  rintro en y ⟨rfl, rfl⟩
  go_wp2_with fail
  refine bodyPost_ret (results_none rfl _ _ _) rfl ⟨rfl, ⟨⟨ov, hx⟩, HE.out.1.keep hcx⟩, HE.out.2.trans (tt_ht hcx)⟩
set_option maxRecDepth 100000 in
theorem thOver1 (kd : Kd) (B : Nat) (w : World) (t r : Nat) (m : ThrM) (e : EngM) (evs : List EvM) (st : Option StepM) (hrd : m.reads ≠ 0) (ht : ThrS B w t r m) (h : RecS kd B w r e evs) (hB : B ≤ w.heap.size) (hB0 : 0 < B) (hf : evs.length < 90000) (hl : e.live = some st) (hid : m.id = (e.cnt : Int)) (hfew : e.log.length < 100000) (hT : Tab w) :
    Calls Tryz.prog 114 #[.pointer (some ⟨t, 0, none⟩), .int .i64 1] w fun en w' => en = .returned (.tuple #[]) ∧ (ThrS B w' t r (m.stop 1) ∧ RecS kd B w' r (e.over false st) (evs ++ [⟨4, (e.cnt : Int), 0, 0, 0⟩])) ∧ LimH t B w w' := by
  obtain ⟨ov, ht⟩ := ht
  have hu := ht.set 2 (.int .i64 1) { m with fin := 1 } rfl rfl rfl rfl
  have hcu : LimT t B w (w.setCell ⟨t, 40, none⟩ (.int .i64 1)) := thr_chg ht (Chg.setCell (F := fun b => b = t) (Chg.refl _ _) (p := ⟨t, 40, none⟩) (.inl rfl) _)
  have hb := Lim.to_below hcu.2 hB
  have C1 := Lib.hid (rmAbort kd B (w.setCell ⟨t, 40, none⟩ (.int .i64 1)).drew r e evs st (h.keep hcu).drew (Nat.le_trans hB hb.size) hB0 hf hl hfew (hT.below hB0 hb.drew))
  obtain ⟨y0, y1, y2, y3, y4, y5, y6, y7, y8⟩ := ht.cells
  have yf := ht.frozen
  have HT' := Lib.hid ht
  clear h hl hT ht hfew
  generalize (e.over false st) = e2 at *
  generalize (e.cnt : Int) = c at *
  go_enter Tryz.func114, Tryz.ntmps114
  go_upto_region 6 with fail
  generalize hU : w.setCell ⟨t, 40, none⟩ (.int .i64 1) = U at *
  obtain ⟨z0, z1, z2, z3, z4, z5, z6, z7, z8⟩ := hu.drew.cells
  have HU := Lib.hid hu.drew
  have HCU := Lib.hid (hcu.drew)
  clear y0 y1 y2 y3 y4 y5 y6 y7 y8 yf hu hcu hb
  rw [show ({ m with fin := 1 } : ThrM).id = m.id from rfl, hid] at z4
  have hS0 : (fun w' : World => w'.cell? ⟨t, 0, none⟩ = some (.iface 74 (.pointer (some ⟨r, 0, none⟩))) ∧ w'.cell? ⟨t, 39, none⟩ = some (.int .i64 c)) U.drew := ⟨z0, z4⟩
  refine wp_region_held_drew (S := fun w' : World => w'.cell? ⟨t, 0, none⟩ = some (.iface 74 (.pointer (some ⟨r, 0, none⟩))) ∧ w'.cell? ⟨t, 39, none⟩ = some (.int .i64 c)) (by kernel_rfl) hS0 (fun hHeld => ?_)
  clear hS0 hid
  refine hd 0 (v := ?_) ?_ ?_
  rotate_left
  · rintro w ⟨hS1, hS2⟩; go_simp; try with_reducible rfl
  simp only [Act.put, pt1, pt2, pt3]
  refine hd 1 (v := ?_) ?_ ?_
  rotate_left
  · rintro w ⟨hS1, hS2⟩; go_simp; try with_reducible rfl
  simp only [Act.put, pt1, pt2, pt3]
  refine hd 2 (v := ?_) ?_ ?_
  rotate_left
  · rintro w ⟨hS1, hS2⟩; go_simp; try with_reducible rfl
  simp only [Act.put, pt1, pt2, pt3]
  refine hd 3 (v := ?_) ?_ ?_
  rotate_left
  · rintro w ⟨hS1, hS2⟩; go_simp; try with_reducible rfl
  simp only [Act.put, pt1, pt2, pt3]
  refine hd 4 (v := ?_) ?_ ?_
  rotate_left
  · rintro w ⟨hS1, hS2⟩; go_simp; try with_reducible rfl
  simp only [Act.put, pt1, pt2, pt3]
  refine hd 5 (v := ?_) ?_ ?_
  rotate_left
  · rintro w ⟨hS1, hS2⟩; go_simp; try with_reducible rfl
  simp only [Act.put, pt1, pt2, pt3]
  refine hd 6 (v := ?_) ?_ ?_
  rotate_left
  · rintro w ⟨hS1, hS2⟩; go_simp; try with_reducible rfl
  simp only [Act.put, pt1, pt2, pt3]
  refine hd 7 (v := ?_) ?_ ?_
  rotate_left
  · rintro w ⟨hS1, hS2⟩; go_simp; try with_reducible rfl
  simp only [Act.put, pt1, pt2, pt3]
  refine hd 8 (v := ?_) ?_ ?_
  rotate_left
  · rintro w ⟨hS1, hS2⟩; go_simp; try with_reducible rfl
  simp only [Act.put, pt1, pt2, pt3]
  refine hd 9 (v := ?_) ?_ ?_
  rotate_left
  · rintro w ⟨hS1, hS2⟩; go_simp; try with_reducible rfl
  simp only [Act.put, pt1, pt2, pt3]
  refine hcl 10 (fun K' hK => ?_)
  go_simp
  go_wp2_with fail
  refine (C1.out).mono ?_
  rintro en y ⟨rfl, hE, hli⟩
  have hy := HU.out.keep hli
  have HY := Lib.hid hy
  have HE := Lib.hid (And.intro hE ((tt_ht HCU.out).trans (rt_ht hli)))
  obtain ⟨x0, x1, x2, x3, x4, x5, x6, x7, x8⟩ := hy.cells
  have xf := hy.frozen
  have x4' : y.cell? ⟨t, 39, none⟩ = some (.int .i64 c) := x4.trans (HU.out.cells.2.2.2.2.1.symm.trans z4)
  clear hE hli hy
  go_wp2_with fail
  refine hK.out _ _ ?_ (fun hHeld => ?_)
  · exact ⟨x0, x4'⟩
  clear hK K' x4'
  try simp only [Act.put, pt1, pt2, pt3]
  refine held_done (by kernel_rfl) ?_
  clear hHeld
  go_upto_region 8 with fail
  have hx := HY.out.set 0 (.int .i64 4) { m with fin := 1, state := 4 } rfl rfl rfl rfl
  have hcx : LimT t B y (y.setCell ⟨t, 38, none⟩ (.int .i64 4)) := thr_chg HY.out (Chg.setCell (F := fun b => b = t) (Chg.refl _ _) (p := ⟨t, 38, none⟩) (.inl rfl) _)
  clear x0 x1 x2 x3 x4 x5 x6 x7 x8 xf
  generalize y.setCell ⟨t, 38, none⟩ (.int .i64 4) = V at *
  obtain ⟨x0, x1, x2, x3, x4, x5, x6, x7, x8⟩ := hx.cells
  have xf := hx.frozen
  have HX := Lib.hid hx
  have HCX := Lib.hid hcx
  clear hx hcx
  have hrd' : ((m.reads : Int) = 0) = False := by simp; exact hrd
  go_wp2_with fail
  have hx := HX.out.set 0 (.int .i64 2) (m.stop 1) rfl rfl rfl (by simp [ThrM.tail, ThrM.stop, hrd])
  have hcx : LimT t B V (V.setCell ⟨t, 38, none⟩ (.int .i64 2)) := thr_chg HX.out (Chg.setCell (F := fun b => b = t) (Chg.refl _ _) (p := ⟨t, 38, none⟩) (.inl rfl) _)
  have hall := HCX.out.trans hcx
  refine bodyPost_end (results_none rfl _ _ _) rfl ⟨rfl, ⟨⟨ov, hx⟩, HE.out.1.keep hall⟩, HE.out.2.trans (tt_ht hall)⟩
end Go.Proofs.YteflpdhgojcmcaaGreatDoor
