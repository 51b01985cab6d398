/- The walk of judge's Find, at the fixed run's events. The walk of block's Run, of the fixed run's job. The walk of block's Run, of the fixed run's job. No conditions but those that each theorem names. -/
import Derived.Test.YteflpdhgojcmcaaGreatDoorU01
import Derived.Test.YteflpdhgojcmcaaGreatDoorU46
import Derived.Test.YteflpdhgojcmcaaGreatDoorU35
namespace Go.Proofs.YteflpdhgojcmcaaGreatDoor
open Go.RowKit PSet PMat
theorem wpList_load_row_g {ops : Array Oper} {rest : List Oper} {o : Oper} {a : Act} {w : World} {Q : Exit → Act → World → Prop} (hw : Region.wanted o (yielded ops a.tmps) = true) (x : Operand) (ho : o.op = .load 140 x)
    (g : Nat) (hx : a.eval x = .pointer (some ⟨g, 0, none⟩)) (t : TypeId) (cs : Array Value) (fr : Nat × Nat) (hg : w.heap[g]? = some (.cells cs t fr)) (hi : (Tryz.prog.info? 140).map (·.size) = some cs.size)
    (h : wpList Tryz.prog ops Q rest (a.put o.dst (.agg cs)) w) : wpList Tryz.prog ops Q (o :: rest) a w := by
  unfold wpList
  rw [if_pos hw]
  exact .inl (wp_load_row 140 x ho g hx t cs fr _ hg Tryz.underlying140 rfl hi h)
theorem zeros_at (k : Nat) : zeros.getD k 0 = 0 := by
  rw [zeros, List.getD_eq_getElem?_getD, List.getElem?_replicate]
  split <;> rfl
theorem outs_zeros (a : Int) : outsN zeros a = 0 := by
  unfold outsN at_
  rw [zeros_at]
  split <;> rfl
theorem free_zeros : freeB zeros = true := freeB_true.2 fun i _ => by
  have h : reachN zeros (i : Int) = 0 := by
    unfold reachN
    rw [outs_zeros]
    exact ((PWay.Look.start (by decide)).done).symm
  rw [h]
  exact has_zero _
theorem ins_zeros : insN zeros 0 = 0 := by decide +kernel
theorem mat_zeros : Mat zeros := ⟨rfl, fun k => by rw [zeros_at]; decide⟩
set_option maxRecDepth 100000 in
theorem juFind (b off cap : Nat) (w : World) (h : HistAt w b off) (hT : Tab w) :
    Calls Tryz.prog 47 #[.slice (some ⟨b, off, none⟩) 3 cap] w fun e w' => ∃ v, e = .returned (.tuple #[v, .bool true]) ∧ w'.ownsRow w.heap.size 3 1 v 1 [.int .i64 1] ∧ Below w.heap.size w w' := by
  have C1 := Lib.hid (hiGraph b off cap w h)
  have HH := Lib.hid h
  have HT := Lib.hid hT
  have hp := hT.pos
  obtain ⟨i0, z0, hi, hz0, hz1, hz2, hz3⟩ := info_3
  clear h hT
  go_enter Tryz.func47, Tryz.ntmps47
  go_wp2_with fail
  refine wp_scope_passes 0 3 rfl ?_
  go_wp2_with fail
  refine (C1.out).mono ?_
  rintro en y ⟨rfl, hby⟩
  have HBY := Lib.hid hby
  unfold matV
  clear hby C1
  have hnew := Go.heap_alloc_new y (.cells (numsV zeros) 140)
  have HN := Lib.hid hnew
  clear hnew
  go_upto_region 2 with (first
    | (refine wpList_store_row rfl 140 _ _ rfl y.heap.size _ rfl rfl 140 _ HN.out (size_mat rfl) rfl (one_numsV _) ?_)
    | fail)
  change Code.wp _ _ _ _ ((y.alloc (.cells (numsV zeros) 140)).setRow y.heap.size (numsV zeros))
  have hZ := block_setRow_same (cs := numsV zeros) HN.out
  have hbZ : Below y.heap.size y ((y.alloc (.cells (numsV zeros) 140)).setRow y.heap.size (numsV zeros)) := below_setRow' ((Below.refl _ _).alloc (Nat.le_refl _) _) (Nat.le_refl _) _
  clear HN
  generalize (y.alloc (.cells (numsV zeros) 140)).setRow y.heap.size (numsV zeros) = Z at *
  have HZ := Lib.hid hZ
  have HBZ := Lib.hid (HBY.out.trans (hbZ.mono HBY.out.size))
  have hwy := HBY.out.size
  clear hZ hbZ HBY
  generalize y.heap.size = m at *
  have C2 := Lib.hid (free_any zeros Z mat_zeros (HT.out.below hp HBZ.out))
  rw [free_zeros] at C2
  unfold matV at C2
  go_wp2_with (first
    | (refine wpList_load_row_g (by rfl) _ rfl m rfl 140 _ (0, 0) HZ.out (size_mat rfl) ?_)
    | fail)
  refine (C2.out).mono ?_
  rintro en y2 ⟨rfl, hby⟩
  have HZ2 := Lib.hid ((hby.block _ (block_lt HZ.out)).trans HZ.out)
  have HB2 := Lib.hid (HBZ.out.trans (hby.mono HBZ.out.size))
  have C3 := Lib.hid (hiIds b off cap y2 (HH.out.below HB2.out))
  clear hby C2 HZ HBZ
  go_wp2_with fail
  refine (C3.out).mono ?_
  rintro en y3 ⟨v, rfl, hown, hby⟩
  obtain ⟨g, gc, rfl, -, -, hr, -⟩ := owns_block hown (by decide)
  have c0 : y3.cell? ⟨g, 0, none⟩ = some (.int .i64 1) := hr 0 _ rfl
  have HZ3 := Lib.hid ((hby.block _ (block_lt HZ2.out)).trans HZ2.out)
  have HB3 := Lib.hid (HB2.out.trans (hby.mono HB2.out.size))
  have hgl := block_lt_of_cell c0
  have hwy3 := HB3.out.size
  have C4 := Lib.hid (has_any 0 0 y3 (by decide))
  have C5 := Lib.hid (ins_any zeros 0 y3 mat_zeros)
  rw [show hasB 0 0 = false by decide] at C4
  rw [ins_zeros] at C5
  unfold matV at C5
  clear hby hr C3 HZ2 HB2
  have HO := Lib.hid hown
  clear hown
  go_wp2_with fail
  refine wp_label ?_
  go_wp2_with fail
  refine wp_loop_rounds 2 ?_
  rw [rounds_succ]
  go_wp2_with fail
  refine (C4.out).mono ?_
  rintro en y4 ⟨rfl, rfl⟩
  go_wp2_with (first
    | (refine wpList_load_row_g (by rfl) _ rfl m rfl 140 _ (0, 0) HZ3.out (size_mat rfl) ?_)
    | fail)
  refine (C5.out).mono ?_
  rintro en y4 ⟨rfl, hby⟩
  have hbl : Below w.heap.size w y4 := HB3.out.trans (hby.mono hwy3)
  have HB4 := Lib.hid hbl
  have HZ4 := Lib.hid ((hby.block _ (block_lt HZ3.out)).trans HZ3.out)
  have c0 := (hby.cell (p := ⟨g, 0, none⟩) hgl).trans c0
  have hgl4 := block_lt_of_cell c0
  have hw4 := hbl.size
  clear hby hbl C4 C5 HZ3
  go_wp2_with (at_builtin; refine wpList_append_own _ rfl _ _ 77 rfl w.heap.size 3 i0 z0 1 8 Tryz.underlying77 hi hz0 hz1 hz2 hz3 (by decide) _ 0 [] rfl (World.ownsRow_nil _ _ _ _) ⟨y4.heap.size, 0, none⟩ 1 1 [.int .i64 1] rfl rfl (by exact news_new y4 [.int .i64 1] 3) (by intro u hu; simp at hu; subst hu; rfl) (by unfold maxLen; omega) (by omega) (by simp; omega) ?_)
  intro v2 z2 hown2 hgrow _
  obtain ⟨vb, vc, rfl, -, -, -, -⟩ := owns_block hown2 (by decide)
  have hbZ : Below y4.heap.size y4 (y4.alloc (.cells #[.int .i64 1] 3)) := (Below.refl _ _).alloc (Nat.le_refl _) _
  have hs3 : Below (y4.alloc (.cells #[.int .i64 1] 3)).heap.size (y4.alloc (.cells #[.int .i64 1] 3)) z2 := Chg.to_below (F := fun _ => False) ((Chg.refl _ _).grown hgrow (fun k e => by cases e)) (Nat.le_refl _) (fun _ hi => hi.elim)
  have hXz := hbZ.trans (hs3.mono hbZ.size)
  have HF := Lib.hid (And.intro hown2 (HB4.out.trans (hXz.mono hw4)))
  have c0 := (hXz.cell (p := ⟨g, 0, none⟩) hgl4).trans c0
  have C6 := Lib.hid (with_any 0 0 z2 (by decide))
  have C7 := Lib.hid (has_any 1 0 z2 (by decide))
  rw [show withN 0 0 = 1 by decide] at C6
  rw [show hasB 1 0 = true by decide] at C7
  clear hown2 hgrow hbZ hs3 hXz HZ4
  go_wp2_with fail
  refine (C6.out).mono ?_
  rintro en y5 ⟨rfl, rfl⟩
  go_wp2_with fail
  refine wp_goto ?_
  refine ⟨rfl, ?_⟩
  rw [passes_succ]
  go_wp2_with fail
  refine wp_loop_rounds 2 ?_
  rw [rounds_succ]
  go_wp2_with fail
  refine (C7.out).mono ?_
  rintro en y6 ⟨rfl, rfl⟩
  go_wp2_with fail
  rw [rounds_succ]
  go_wp2_with fail
  simp only [Exit.jump]
  go_wp2_with fail
  go_ret2
  exact ⟨_, rfl, HF.out.1, HF.out.2⟩
end Go.Proofs.YteflpdhgojcmcaaGreatDoor
namespace Go.Proofs.YteflpdhgojcmcaaGreatDoor
open Go.RowKit PSet PMat
def cpu1 : CpuM := ⟨1, 1, [(2, 0), (0, 0), (0, 0), (0, 0), (0, 0), (0, 0), (0, 0), (0, 0)]⟩
def cpu2 : CpuM := ⟨2, 2, [(2, 0), (1, 7), (0, 0), (0, 0), (0, 0), (0, 0), (0, 0), (0, 0)]⟩
def cpu3 : CpuM := ⟨3, 3, [(2, 0), (1, 7), (0, 0), (0, 0), (0, 0), (0, 0), (0, 0), (0, 0)]⟩
def askW : AskM := ⟨2, 0, 0, 1, 7, 0⟩
theorem step0 : stepM (writerOps 0 6) CpuM.zero 1 9 = some (cpu1, .go) := by kernel_rfl
theorem step1' : stepM (writerOps 0 6) cpu1 1 9 = some (cpu2, .go) := by kernel_rfl
theorem step2 : stepM (writerOps 0 6) cpu2 1 9 = some (cpu3, askW) := by kernel_rfl
theorem step3 : stepM (writerOps 0 6) cpu3 1 9 = some (cpu3, .over 0) := by kernel_rfl
def zero168 : Array Value := #[.int .i64 0, .int .i64 0, .int .i64 0, .int .i64 0, .int .i64 0, .int .i64 0, .int .i64 0, .int .i64 0, .int .i64 0, .int .i64 0, .int .i64 0, .int .i64 0, .int .i64 0, .int .i64 0, .int .i64 0, .int .i64 0, .int .i64 0, .int .i64 0, .slice none 0 0]
/-- What lies in memory while a block is run. -/
structure RunS (w y : World) (R r k : Nat) (c : CpuM) (tv nv : Value) (a : Array Value) : Prop where
  run : RunAt y r c tv nv
  ask : y.heap[k]? = some (.cells a 217 (0, 0))
  res : y.heap[R]? = some (.cells zero168 168 (0, 0))
  below : Below w.heap.size w y
  base : w.heap.size ≤ r ∧ w.heap.size ≤ k ∧ w.heap.size ≤ R
  regs : c.regs.length = 8
theorem RunS.range {w y : World} {R r k : Nat} {c : CpuM} {tv nv : Value} {a : Array Value} (h : RunS w y R r k c tv nv a) : y.rangeAt r 0 c.cells := fun j v hj => by
  have hl : j < c.cells.length := (List.getElem?_eq_some_iff.1 hj).1
  rw [Nat.zero_add, cell_of_row _ _ j _ _ _ h.run, List.getElem?_toArray, List.getElem?_append_left hl]
  exact hj
theorem blk_ne {w : World} {a b t u : Nat} {cs ds : Array Value} (h : w.heap[a]? = some (.cells cs t (0, 0))) (k : w.heap[b]? = some (.cells ds u (0, 0))) (ht : t ≠ u) : a ≠ b := fun e => by
  subst e
  rw [h] at k
  simp only [Option.some.injEq, Obj.cells.injEq] at k
  exact ht k.2.1
theorem RunS.ne {w y : World} {R r k : Nat} {c : CpuM} {tv nv : Value} {a : Array Value} (h : RunS w y R r k c tv nv a) : k ≠ r ∧ R ≠ r ∧ R ≠ k :=
  ⟨blk_ne h.ask h.run (by decide), blk_ne h.res h.run (by decide), blk_ne h.res h.ask (by decide)⟩
theorem RunS.later {w y y' : World} {R r k : Nat} {c : CpuM} {tv nv : Value} {a : Array Value} (h : RunS w y R r k c tv nv a) (hb : Below y.heap.size y y') : RunS w y' R r k c tv nv a :=
  ⟨h.run.below hb, (hb.block _ (block_lt h.ask)).trans h.ask, (hb.block _ (block_lt h.res)).trans h.res, h.below.trans (hb.mono h.below.size), h.base, h.regs⟩
theorem RunS.there {w y : World} {R r k : Nat} {c : CpuM} {tv nv : Value} {a : Array Value} (h : RunS w y R r k c tv nv a) : y.there r 0 19 := fun j hj => by
  refine ⟨?_, frozen_of_row _ _ _ _ _ h.run⟩
  have hl := CpuM.len h.regs
  rw [Nat.zero_add, cell_of_row _ _ j _ _ _ h.run, List.getElem?_toArray, List.getElem?_eq_getElem (by simp; omega)]
  rfl
theorem RunS.cpu {w y : World} {R r k : Nat} {c : CpuM} {tv nv : Value} {a : Array Value} (h : RunS w y R r k c tv nv a) (c2 : CpuM) (hc : c2.regs.length = 8) : RunS w (y.setCells r 0 c2.cells) R r k c2 tv nv a := by
  have h1 := setCells_row r 235 c2.cells (c.cells ++ [tv, nv]) 0 y h.run
  have e : setAll (c.cells ++ [tv, nv]) 0 c2.cells = c2.cells ++ [tv, nv] := by
    have := setAll_mid c2.cells [] c.cells [tv, nv] (by rw [CpuM.len hc, CpuM.len h.regs])
    simpa using this
  rw [e] at h1
  refine ⟨h1, (setCells_other r c2.cells 0 y k h.ne.1).trans h.ask, (setCells_other r c2.cells 0 y R h.ne.2.1).trans h.res, ?_, h.base, hc⟩
  exact h.below.trans (Chg.to_below (F := fun b => b = r) (Chg.setCells (F := fun b => b = r) r (.inl rfl) _ 0 y (Chg.refl _ _)) h.below.size (fun _ hi => by rw [hi]; exact h.base.1))
theorem RunS.askSet {w y : World} {R r k : Nat} {c : CpuM} {tv nv : Value} {a : Array Value} (h : RunS w y R r k c tv nv a) (a2 : Array Value) : RunS w (y.setRow k a2) R r k c tv nv a2 :=
  ⟨(setRow_other y k r a2 (Ne.symm h.ne.1)).trans h.run, block_setRow_same h.ask, (setRow_other y k R a2 h.ne.2.2).trans h.res, below_setRow' h.below h.base.2.1 _, h.base, h.regs⟩
end Go.Proofs.YteflpdhgojcmcaaGreatDoor
namespace Go.Proofs.YteflpdhgojcmcaaGreatDoor
open Go.RowKit PSet PMat
theorem runs_begin (na : Option Addr) (nc : Nat) (w : World) : RunS w ((((w.alloc (.cells #[.int .i64 0, .int .i64 0, .int .i64 0, .int .i64 0, .int .i64 0, .int .i64 0, .int .i64 0, .int .i64 0, .int .i64 0, .int .i64 0, .int .i64 0, .int .i64 0, .int .i64 0, .int .i64 0, .int .i64 0, .int .i64 0] 55)).alloc (.cells zero168 168)).alloc (.cells #[.int .i64 0, .int .i64 0, .int .i64 0, .int .i64 0, .int .i64 0, .int .i64 0, .int .i64 0, .int .i64 0, .int .i64 0, .int .i64 0, .int .i64 0, .int .i64 0, .int .i64 0, .int .i64 0, .int .i64 0, .int .i64 0, .int .i64 0, .int .i64 0, .slice none 0 0, .slice none 0 0, .slice na 1 nc] 235)).alloc (.cells #[.int .i64 0, .int .i64 0, .int .i64 0, .int .i64 0, .int .i64 0, .int .i64 0, .int .i64 0] 217)) (w.heap.size + 1) (w.heap.size + 1 + 1) (w.heap.size + 1 + 1 + 1) CpuM.zero (.slice none 0 0) (.slice na 1 nc) #[.int .i64 0, .int .i64 0, .int .i64 0, .int .i64 0, .int .i64 0, .int .i64 0, .int .i64 0] where
  run := (heap_alloc_old _ _ (by simp)).trans (by
                                                 have := Go.heap_alloc_new ((w.alloc (.cells #[.int .i64 0, .int .i64 0, .int .i64 0, .int .i64 0, .int .i64 0, .int .i64 0, .int .i64 0, .int .i64 0, .int .i64 0, .int .i64 0, .int .i64 0, .int .i64 0, .int .i64 0, .int .i64 0, .int .i64 0, .int .i64 0] 55)).alloc (.cells zero168 168)) (.cells #[.int .i64 0, .int .i64 0, .int .i64 0, .int .i64 0, .int .i64 0, .int .i64 0, .int .i64 0, .int .i64 0, .int .i64 0, .int .i64 0, .int .i64 0, .int .i64 0, .int .i64 0, .int .i64 0, .int .i64 0, .int .i64 0, .int .i64 0, .int .i64 0, .slice none 0 0, .slice none 0 0, .slice na 1 nc] 235)
                                                 rw [show ((w.alloc (.cells #[.int .i64 0, .int .i64 0, .int .i64 0, .int .i64 0, .int .i64 0, .int .i64 0, .int .i64 0, .int .i64 0, .int .i64 0, .int .i64 0, .int .i64 0, .int .i64 0, .int .i64 0, .int .i64 0, .int .i64 0, .int .i64 0] 55)).alloc (.cells zero168 168)).heap.size = w.heap.size + 1 + 1 by simp] at this
                                                 exact this)
  ask := by have := Go.heap_alloc_new (((w.alloc (.cells #[.int .i64 0, .int .i64 0, .int .i64 0, .int .i64 0, .int .i64 0, .int .i64 0, .int .i64 0, .int .i64 0, .int .i64 0, .int .i64 0, .int .i64 0, .int .i64 0, .int .i64 0, .int .i64 0, .int .i64 0, .int .i64 0] 55)).alloc (.cells zero168 168)).alloc (.cells #[.int .i64 0, .int .i64 0, .int .i64 0, .int .i64 0, .int .i64 0, .int .i64 0, .int .i64 0, .int .i64 0, .int .i64 0, .int .i64 0, .int .i64 0, .int .i64 0, .int .i64 0, .int .i64 0, .int .i64 0, .int .i64 0, .int .i64 0, .int .i64 0, .slice none 0 0, .slice none 0 0, .slice na 1 nc] 235)) (.cells #[.int .i64 0, .int .i64 0, .int .i64 0, .int .i64 0, .int .i64 0, .int .i64 0, .int .i64 0] 217); simpa using this
  res := (heap_alloc_old _ _ (by simp)).trans ((heap_alloc_old _ _ (by simp)).trans (by have := Go.heap_alloc_new (w.alloc (.cells #[.int .i64 0, .int .i64 0, .int .i64 0, .int .i64 0, .int .i64 0, .int .i64 0, .int .i64 0, .int .i64 0, .int .i64 0, .int .i64 0, .int .i64 0, .int .i64 0, .int .i64 0, .int .i64 0, .int .i64 0, .int .i64 0] 55)) (.cells zero168 168); simpa using this))
  below := ((((Below.refl _ w).alloc (Nat.le_refl _) _).alloc (by simp) _).alloc (by simp; omega) _).alloc (by simp; omega) _
  base := ⟨by omega, by omega, by omega⟩
  regs := rfl
set_option maxRecDepth 100000 in
theorem info94r {L : List Value} (h : L.length = 19) : (Tryz.prog.info? 94).map (·.size) = some L.length := by rw [h]; kernel_rfl
theorem info217 (a : AskM) : (Tryz.prog.info? 217).map (·.size) = some a.cells.size := by
  have h : (Tryz.prog.info? 217).map (·.size) = some 7 := by kernel_rfl
  exact h
set_option maxRecDepth 100000 in
set_option maxHeartbeats 400000 in
theorem run82 (ob off oc nc : Nat) (na : Option Addr) (w : World) (ho : OpsAt w ob off (writerOps 0 6)) :
    Calls Tryz.prog 82 #[.slice (some ⟨ob, off, none⟩) 3 oc, .slice na 1 nc, .agg #[.int .i64 0, .int .i64 0, .int .i64 0, .int .i64 0, .int .i64 0, .int .i64 0, .int .i64 0, .int .i64 0, .int .i64 0, .int .i64 0, .int .i64 0, .int .i64 0, .int .i64 0, .int .i64 0, .int .i64 0, .int .i64 0], .int .i64 9] w fun e w' => ∃ tv, e = .returned (.agg #[.int .i64 0, .int .i64 3, .int .i64 2, .int .i64 0, .int .i64 1, .int .i64 7, .int .i64 0, .int .i64 0, .int .i64 0, .int .i64 0, .int .i64 0, .int .i64 0, .int .i64 0, .int .i64 0, .int .i64 0, .int .i64 0, .int .i64 0, .int .i64 0, tv]) ∧ w'.ownsRow w.heap.size 155 4 tv 1 step7.cells ∧ Below w.heap.size w w' := by
  have hb := runs_begin na nc w
  have HB := Lib.hid hb
  have HO := Lib.hid ho
  obtain ⟨c0, e0⟩ : ∃ c, c = CpuM.zero := ⟨_, rfl⟩
  obtain ⟨c1, e1⟩ : ∃ c, c = cpu1 := ⟨_, rfl⟩
  obtain ⟨c2, e2⟩ : ∃ c, c = cpu2 := ⟨_, rfl⟩
  obtain ⟨c3, e3⟩ : ∃ c, c = cpu3 := ⟨_, rfl⟩
  obtain ⟨a0, f0⟩ : ∃ a, a = AskM.go := ⟨_, rfl⟩
  obtain ⟨a1, f1⟩ : ∃ a, a = askW := ⟨_, rfl⟩
  obtain ⟨a2, f2⟩ : ∃ a, a = AskM.over 0 := ⟨_, rfl⟩
  have s0 := step0
  have s1 := step1'
  have s2 := step2
  have s3 := step3
  rw [← e0, ← e1, ← f0] at s0
  rw [← e1, ← e2, ← f0] at s1
  rw [← e2, ← e3, ← f1] at s2
  rw [← e3, ← f2] at s3
  have HS := Lib.hid (And.intro s0 (And.intro s1 (And.intro s2 s3)))
  have HL := Lib.hid (show (c0.regs.length = 8 ∧ c1.regs.length = 8 ∧ c2.regs.length = 8 ∧ c3.regs.length = 8) ∧ c0.used ≤ 1000000 ∧ c1.used ≤ 1000000 ∧ c2.used ≤ 1000000 ∧ c3.used ≤ 1000000 from by rw [e0, e1, e2, e3]; decide)
  have HE := Lib.hid (And.intro e0 (And.intro e3 (And.intro f0 (And.intro f1 f2))))
  rw [← e0] at HB
  clear hb ho s0 s1 s2 s3 e0 e1 e2 e3 f0 f1 f2
  go_enter Tryz.func82, Tryz.ntmps82
  go_wp2_with fail
  refine wp_scope_passes 0 5 rfl ?_
  have h55 : ((w.alloc (.cells #[.int .i64 0, .int .i64 0, .int .i64 0, .int .i64 0, .int .i64 0, .int .i64 0, .int .i64 0, .int .i64 0, .int .i64 0, .int .i64 0, .int .i64 0, .int .i64 0, .int .i64 0, .int .i64 0, .int .i64 0, .int .i64 0] 55)).alloc (.cells zero168 168)).heap[w.heap.size]? = some (.cells #[.int .i64 0, .int .i64 0, .int .i64 0, .int .i64 0, .int .i64 0, .int .i64 0, .int .i64 0, .int .i64 0, .int .i64 0, .int .i64 0, .int .i64 0, .int .i64 0, .int .i64 0, .int .i64 0, .int .i64 0, .int .i64 0] 55 (0, 0)) := (heap_alloc_old _ _ (by simp)).trans (Go.heap_alloc_new _ _)
  have H55 := Lib.hid h55
  clear h55
  go_upto_region 4 with (first
    | (refine wpList_load_row rfl 55 _ rfl w.heap.size rfl 55 _ (0, 0) _ H55.out Tryz.underlying55 rfl (by kernel_rfl) ?_)
    | fail)
  change Code.wp _ _ _ _ ((((w.alloc (.cells #[.int .i64 0, .int .i64 0, .int .i64 0, .int .i64 0, .int .i64 0, .int .i64 0, .int .i64 0, .int .i64 0, .int .i64 0, .int .i64 0, .int .i64 0, .int .i64 0, .int .i64 0, .int .i64 0, .int .i64 0, .int .i64 0] 55)).alloc (.cells zero168 168)).alloc (.cells #[.int .i64 0, .int .i64 0, .int .i64 0, .int .i64 0, .int .i64 0, .int .i64 0, .int .i64 0, .int .i64 0, .int .i64 0, .int .i64 0, .int .i64 0, .int .i64 0, .int .i64 0, .int .i64 0, .int .i64 0, .int .i64 0, .int .i64 0, .int .i64 0, .slice none 0 0, .slice none 0 0, .slice na 1 nc] 235)).alloc (.cells #[.int .i64 0, .int .i64 0, .int .i64 0, .int .i64 0, .int .i64 0, .int .i64 0, .int .i64 0] 217))
  generalize ((((w.alloc (.cells #[.int .i64 0, .int .i64 0, .int .i64 0, .int .i64 0, .int .i64 0, .int .i64 0, .int .i64 0, .int .i64 0, .int .i64 0, .int .i64 0, .int .i64 0, .int .i64 0, .int .i64 0, .int .i64 0, .int .i64 0, .int .i64 0] 55)).alloc (.cells zero168 168)).alloc (.cells #[.int .i64 0, .int .i64 0, .int .i64 0, .int .i64 0, .int .i64 0, .int .i64 0, .int .i64 0, .int .i64 0, .int .i64 0, .int .i64 0, .int .i64 0, .int .i64 0, .int .i64 0, .int .i64 0, .int .i64 0, .int .i64 0, .int .i64 0, .int .i64 0, .slice none 0 0, .slice none 0 0, .slice na 1 nc] 235)).alloc (.cells #[.int .i64 0, .int .i64 0, .int .i64 0, .int .i64 0, .int .i64 0, .int .i64 0, .int .i64 0] 217)) = y at *
  clear H55
  generalize w.heap.size + 1 + 1 + 1 = k at *
  generalize w.heap.size + 1 + 1 = r at *
  generalize w.heap.size + 1 = R at *
  refine wp_label ?_
  have C := Lib.hid (step_any ob off oc (writerOps 0 6) c0 c1 a0 1 9 y (by decide) (HO.out.below HB.out.below) HL.out.1.1 HL.out.2.1 HS.out.1)
  go_wp2_with (first
    | (refine wpList_load_mid rfl 94 _ rfl r 0 rfl c0.cells _ HB.out.range Tryz.underlying94 rfl (info94r (CpuM.len HL.out.1.1)) ?_)
    | fail)
  refine (C.out).mono ?_
  rintro en x0 ⟨rfl, hby⟩
  have HC := Lib.hid ((HB.out.later hby).there)
  have HD := Lib.hid ((HB.out.later hby).cpu c1 HL.out.1.2.1)
  clear hby C HB
  go_upto_region 5 with (first
    | (refine wpList_store_mid rfl 94 _ _ rfl r 0 c1.cells.toArray rfl rfl (by rw [show c1.cells.toArray.size = 19 by simpa using CpuM.len HL.out.1.2.1]; exact HC.out) (info94a (by simpa using CpuM.len HL.out.1.2.1)) (all_of_one c1.all) ?_; rw [List.toList_toArray])
    | (refine wpList_store_row rfl 217 _ _ rfl k a0.cells rfl rfl 217 _ HD.out.ask (info217 a0) (by rfl) (askC_one _ _ _ _ _ _ _) ?_)
    | fail)
  have hb := HD.out.askSet a0.cells
  generalize (x0.setCells r 0 c1.cells).setRow k a0.cells = y0 at *
  have HB := Lib.hid hb
  have hk := hb.ask
  rw [HE.out.2.2.1] at hk
  have hk : y0.heap[k]? = some (.cells #[.int .i64 0, .int .i64 0, .int .i64 0, .int .i64 0, .int .i64 0, .int .i64 0, .int .i64 0] 217 (0, 0)) := hk
  clear hb HC HD
  have k0 := cell_of_row _ _ 0 _ _ _ hk
  have k1 := cell_of_row _ _ 1 _ _ _ hk
  have k2 := cell_of_row _ _ 2 _ _ _ hk
  have k3 := cell_of_row _ _ 3 _ _ _ hk
  have k4 := cell_of_row _ _ 4 _ _ _ hk
  have k5 := cell_of_row _ _ 5 _ _ _ hk
  have k6 := cell_of_row _ _ 6 _ _ _ hk
  clear hk
  go_wp2_with fail
  refine (ansGo r y0).mono ?_
  rintro en z0 ⟨rfl, hby⟩
  have HB := Lib.hid (HB.out.later hby)
  clear hby k0 k1 k2 k3 k4 k5 k6
  go_wp2_with fail
  refine wp_goto ?_
  refine ⟨rfl, ?_⟩
  have C := Lib.hid (step_any ob off oc (writerOps 0 6) c1 c2 a0 1 9 z0 (by decide) (HO.out.below HB.out.below) HL.out.1.2.1 HL.out.2.2.1 HS.out.2.1)
  rw [passes_succ]
  go_wp2_with (first
    | (refine wpList_load_mid rfl 94 _ rfl r 0 rfl c1.cells _ HB.out.range Tryz.underlying94 rfl (info94r (CpuM.len HL.out.1.2.1)) ?_)
    | fail)
  refine (C.out).mono ?_
  rintro en x1 ⟨rfl, hby⟩
  have HC := Lib.hid ((HB.out.later hby).there)
  have HD := Lib.hid ((HB.out.later hby).cpu c2 HL.out.1.2.2.1)
  clear hby C HB
  go_upto_region 5 with (first
    | (refine wpList_store_mid rfl 94 _ _ rfl r 0 c2.cells.toArray rfl rfl (by rw [show c2.cells.toArray.size = 19 by simpa using CpuM.len HL.out.1.2.2.1]; exact HC.out) (info94a (by simpa using CpuM.len HL.out.1.2.2.1)) (all_of_one c2.all) ?_; rw [List.toList_toArray])
    | (refine wpList_store_row rfl 217 _ _ rfl k a0.cells rfl rfl 217 _ HD.out.ask (info217 a0) (by rfl) (askC_one _ _ _ _ _ _ _) ?_)
    | fail)
  have hb := HD.out.askSet a0.cells
  generalize (x1.setCells r 0 c2.cells).setRow k a0.cells = y1 at *
  have HB := Lib.hid hb
  have hk := hb.ask
  rw [HE.out.2.2.1] at hk
  have hk : y1.heap[k]? = some (.cells #[.int .i64 0, .int .i64 0, .int .i64 0, .int .i64 0, .int .i64 0, .int .i64 0, .int .i64 0] 217 (0, 0)) := hk
  clear hb HC HD
  have k0 := cell_of_row _ _ 0 _ _ _ hk
  have k1 := cell_of_row _ _ 1 _ _ _ hk
  have k2 := cell_of_row _ _ 2 _ _ _ hk
  have k3 := cell_of_row _ _ 3 _ _ _ hk
  have k4 := cell_of_row _ _ 4 _ _ _ hk
  have k5 := cell_of_row _ _ 5 _ _ _ hk
  have k6 := cell_of_row _ _ 6 _ _ _ hk
  clear hk
  go_wp2_with fail
  refine (ansGo r y1).mono ?_
  rintro en z1 ⟨rfl, hby⟩
  have HB := Lib.hid (HB.out.later hby)
  clear hby k0 k1 k2 k3 k4 k5 k6
  go_wp2_with fail
  refine wp_goto ?_
  refine ⟨rfl, ?_⟩
  have C := Lib.hid (step_any ob off oc (writerOps 0 6) c2 c3 a1 1 9 z1 (by decide) (HO.out.below HB.out.below) HL.out.1.2.2.1 HL.out.2.2.2.1 HS.out.2.2.1)
  rw [passes_succ]
  go_wp2_with (first
    | (refine wpList_load_mid rfl 94 _ rfl r 0 rfl c2.cells _ HB.out.range Tryz.underlying94 rfl (info94r (CpuM.len HL.out.1.2.2.1)) ?_)
    | fail)
  refine (C.out).mono ?_
  rintro en x2 ⟨rfl, hby⟩
  have HC := Lib.hid ((HB.out.later hby).there)
  have HD := Lib.hid ((HB.out.later hby).cpu c3 HL.out.1.2.2.2)
  clear hby C HB
  go_upto_region 5 with (first
    | (refine wpList_store_mid rfl 94 _ _ rfl r 0 c3.cells.toArray rfl rfl (by rw [show c3.cells.toArray.size = 19 by simpa using CpuM.len HL.out.1.2.2.2]; exact HC.out) (info94a (by simpa using CpuM.len HL.out.1.2.2.2)) (all_of_one c3.all) ?_; rw [List.toList_toArray])
    | (refine wpList_store_row rfl 217 _ _ rfl k a1.cells rfl rfl 217 _ HD.out.ask (info217 a1) (by rfl) (askC_one _ _ _ _ _ _ _) ?_)
    | fail)
  have hb := HD.out.askSet a1.cells
  generalize (x2.setCells r 0 c3.cells).setRow k a1.cells = y2 at *
  have HB := Lib.hid hb
  have hk := hb.ask
  rw [HE.out.2.2.2.1] at hk
  have hk : y2.heap[k]? = some (.cells #[.int .i64 2, .int .i64 0, .int .i64 0, .int .i64 0, .int .i64 1, .int .i64 7, .int .i64 0] 217 (0, 0)) := hk
  clear hb HC HD
  have k0 := cell_of_row _ _ 0 _ _ _ hk
  have k1 := cell_of_row _ _ 1 _ _ _ hk
  have k2 := cell_of_row _ _ 2 _ _ _ hk
  have k3 := cell_of_row _ _ 3 _ _ _ hk
  have k4 := cell_of_row _ _ 4 _ _ _ hk
  have k5 := cell_of_row _ _ 5 _ _ _ hk
  have k6 := cell_of_row _ _ 6 _ _ _ hk
  clear hk
  go_wp2_with fail
  refine (ansWrite r c3 (.slice na 1 nc) y2 HB.out.run HL.out.1.2.2.2).mono ?_
  rintro en z2 ⟨tv, rfl, hrun, hown, hch⟩
  have hwy : w.heap.size ≤ y2.heap.size := HB.out.below.size
  have hbz := HB.out.below.trans (Chg.to_below (F := fun b => b = r) hch hwy (fun _ hi => by rw [hi]; exact HB.out.base.1))
  have hbs : RunS w z2 R r k c3 tv (.slice na 1 nc) a1.cells := ⟨hrun, (hch.block k (block_lt HB.out.ask) HB.out.ne.1).trans HB.out.ask, (hch.block R (block_lt HB.out.res) HB.out.ne.2.1).trans HB.out.res, hbz, HB.out.base, HL.out.1.2.2.2⟩
  obtain ⟨tg, tc, rfl, -, -, -, -⟩ := owns_block hown (by decide)
  have HT := Lib.hid (owns_mono hown hwy)
  have HB := Lib.hid hbs
  have hzl := hch.size
  clear hrun hown hch hbz hbs k0 k1 k2 k3 k4 k5 k6
  go_wp2_with fail
  refine wp_goto ?_
  refine ⟨rfl, ?_⟩
  have C := Lib.hid (step_any ob off oc (writerOps 0 6) c3 c3 a2 1 9 z2 (by decide) (HO.out.below HB.out.below) HL.out.1.2.2.2 HL.out.2.2.2.2 HS.out.2.2.2)
  rw [passes_succ]
  go_wp2_with (first
    | (refine wpList_load_mid rfl 94 _ rfl r 0 rfl c3.cells _ HB.out.range Tryz.underlying94 rfl (info94r (CpuM.len HL.out.1.2.2.2)) ?_)
    | fail)
  refine (C.out).mono ?_
  rintro en x3 ⟨rfl, hby⟩
  have HC := Lib.hid ((HB.out.later hby).there)
  have HD := Lib.hid ((HB.out.later hby).cpu c3 HL.out.1.2.2.2)
  have HX := Lib.hid (HB.out.later hby)
  have HT3 := Lib.hid (owns_below HT.out hby)
  clear hby C HB
  go_upto_region 5 with (first
    | (refine wpList_store_mid rfl 94 _ _ rfl r 0 c3.cells.toArray rfl rfl (by rw [show c3.cells.toArray.size = 19 by simpa using CpuM.len HL.out.1.2.2.2]; exact HC.out) (info94a (by simpa using CpuM.len HL.out.1.2.2.2)) (all_of_one c3.all) ?_; rw [List.toList_toArray])
    | (refine wpList_store_row rfl 217 _ _ rfl k a2.cells rfl rfl 217 _ HD.out.ask (info217 a2) (by rfl) (askC_one _ _ _ _ _ _ _) ?_)
    | fail)
  have hcx : Chg (fun b => b = r ∨ b = k ∨ b = R) x3 ((x3.setCells r 0 c3.cells).setRow k a2.cells) := Chg.setRow (Chg.setCells (F := fun b => b = r ∨ b = k ∨ b = R) r (.inl (.inl rfl)) _ 0 x3 (Chg.refl _ _)) (.inl (.inr (.inl rfl))) _
  have hb := HD.out.askSet a2.cells
  generalize (x3.setCells r 0 c3.cells).setRow k a2.cells = y3 at *
  have HB := Lib.hid hb
  have hk := hb.ask
  rw [HE.out.2.2.2.2] at hk
  have hk : y3.heap[k]? = some (.cells #[.int .i64 5, .int .i64 0, .int .i64 0, .int .i64 0, .int .i64 0, .int .i64 0, .int .i64 0] 217 (0, 0)) := hk
  clear hb HC HD
  have k0 := cell_of_row _ _ 0 _ _ _ hk
  have k1 := cell_of_row _ _ 1 _ _ _ hk
  have k2 := cell_of_row _ _ 2 _ _ _ hk
  have k3 := cell_of_row _ _ 3 _ _ _ hk
  have k4 := cell_of_row _ _ 4 _ _ _ hk
  have k5 := cell_of_row _ _ 5 _ _ _ hk
  have k6 := cell_of_row _ _ 6 _ _ _ hk
  clear hk
  clear k1 k2 k3 k4 k5
  go_upto_region 8 with fail
  clear k0 k6
  have hrun := HB.out.run
  unfold RunAt at hrun
  rw [HE.out.2.1] at hrun
  have hrow : y3.heap[r]? = some (.cells #[.int .i64 3, .int .i64 3, .int .i64 2, .int .i64 0, .int .i64 1, .int .i64 7, .int .i64 0, .int .i64 0, .int .i64 0, .int .i64 0, .int .i64 0, .int .i64 0, .int .i64 0, .int .i64 0, .int .i64 0, .int .i64 0, .int .i64 0, .int .i64 0, .slice none 0 0, .slice (some ⟨tg, 0, none⟩) 1 tc, .slice na 1 nc] 235 (0, 0)) := hrun
  have hrg : y3.rangeAt r 2 [.int .i64 2, .int .i64 0, .int .i64 1, .int .i64 7, .int .i64 0, .int .i64 0, .int .i64 0, .int .i64 0, .int .i64 0, .int .i64 0, .int .i64 0, .int .i64 0, .int .i64 0, .int .i64 0, .int .i64 0, .int .i64 0] := fun j v hj => by
    have hl : j < 16 := (List.getElem?_eq_some_iff.1 hj).1
    rw [cell_of_row _ _ _ _ _ _ hrow]
    rcases j with _ | _ | _ | _ | _ | _ | _ | _ | _ | _ | _ | _ | _ | _ | _ | _ | j <;> first | (exact hj) | omega
  have hS0 : (fun w' : World => w'.cell? ⟨r, 1, none⟩ = some (.int .i64 3) ∧ w'.rangeAt r 2 [.int .i64 2, .int .i64 0, .int .i64 1, .int .i64 7, .int .i64 0, .int .i64 0, .int .i64 0, .int .i64 0, .int .i64 0, .int .i64 0, .int .i64 0, .int .i64 0, .int .i64 0, .int .i64 0, .int .i64 0, .int .i64 0] ∧ w'.cell? ⟨r, 19, none⟩ = some (.slice (some ⟨tg, 0, none⟩) 1 tc)) y3.drew := ⟨cell_of_row _ _ 1 _ _ _ hrow, hrg, cell_of_row _ _ 19 _ _ _ hrow⟩
  have hS1 : (fun w' : World => w'.cell? ⟨r, 1, none⟩ = some (.int .i64 3) ∧ w'.rangeAt r 2 [.int .i64 2, .int .i64 0, .int .i64 1, .int .i64 7, .int .i64 0, .int .i64 0, .int .i64 0, .int .i64 0, .int .i64 0, .int .i64 0, .int .i64 0, .int .i64 0, .int .i64 0, .int .i64 0, .int .i64 0, .int .i64 0] ∧ w'.cell? ⟨r, 19, none⟩ = some (.slice (some ⟨tg, 0, none⟩) 1 tc)) ((y3.drew).setRow R #[.int .i64 0, .int .i64 3, .int .i64 2, .int .i64 0, .int .i64 1, .int .i64 7, .int .i64 0, .int .i64 0, .int .i64 0, .int .i64 0, .int .i64 0, .int .i64 0, .int .i64 0, .int .i64 0, .int .i64 0, .int .i64 0, .int .i64 0, .int .i64 0, .slice (some ⟨tg, 0, none⟩) 1 tc]) := by
    have hk : ((y3.drew).setRow R #[.int .i64 0, .int .i64 3, .int .i64 2, .int .i64 0, .int .i64 1, .int .i64 7, .int .i64 0, .int .i64 0, .int .i64 0, .int .i64 0, .int .i64 0, .int .i64 0, .int .i64 0, .int .i64 0, .int .i64 0, .int .i64 0, .int .i64 0, .int .i64 0, .slice (some ⟨tg, 0, none⟩) 1 tc]).heap[r]? = some (.cells #[.int .i64 3, .int .i64 3, .int .i64 2, .int .i64 0, .int .i64 1, .int .i64 7, .int .i64 0, .int .i64 0, .int .i64 0, .int .i64 0, .int .i64 0, .int .i64 0, .int .i64 0, .int .i64 0, .int .i64 0, .int .i64 0, .int .i64 0, .int .i64 0, .slice none 0 0, .slice (some ⟨tg, 0, none⟩) 1 tc, .slice na 1 nc] 235 (0, 0)) := (setRow_other y3.drew R r _ (Ne.symm HB.out.ne.2.1)).trans hrow
    exact ⟨cell_of_row _ _ 1 _ _ _ hk, range_keep hrg ((setRow_other y3.drew R r _ (Ne.symm HB.out.ne.2.1))), cell_of_row _ _ 19 _ _ _ hk⟩
  have hres : y3.drew.heap[R]? = some (.cells zero168 168 (0, 0)) := HB.out.res
  have hRb : w.heap.size ≤ R := HB.out.base.2.2
  have hbf := below_setRow' (HB.out.below.drew) hRb #[.int .i64 0, .int .i64 3, .int .i64 2, .int .i64 0, .int .i64 1, .int .i64 7, .int .i64 0, .int .i64 0, .int .i64 0, .int .i64 0, .int .i64 0, .int .i64 0, .int .i64 0, .int .i64 0, .int .i64 0, .int .i64 0, .int .i64 0, .int .i64 0, .slice (some ⟨tg, 0, none⟩) 1 tc]
  have hot := owns_chg (F := fun b => b = r ∨ b = k ∨ b = R) HT3.out (Chg.setRow (F := fun b => b = r ∨ b = k ∨ b = R) hcx.drew (g := R) (.inl (.inr (.inr rfl))) #[.int .i64 0, .int .i64 3, .int .i64 2, .int .i64 0, .int .i64 1, .int .i64 7, .int .i64 0, .int .i64 0, .int .i64 0, .int .i64 0, .int .i64 0, .int .i64 0, .int .i64 0, .int .i64 0, .int .i64 0, .int .i64 0, .int .i64 0, .int .i64 0, .slice (some ⟨tg, 0, none⟩) 1 tc]) (fun b cs hf hs => by
    rcases hf with rfl | rfl | rfl
    · exact blk_ne HX.out.run hs (by decide) rfl
    · exact blk_ne HX.out.ask hs (by decide) rfl
    · exact blk_ne HX.out.res hs (by decide) rfl)
  clear hrun hrow hrg
  refine hregion (fun w' : World => w'.cell? ⟨r, 1, none⟩ = some (.int .i64 3) ∧ w'.rangeAt r 2 [.int .i64 2, .int .i64 0, .int .i64 1, .int .i64 7, .int .i64 0, .int .i64 0, .int .i64 0, .int .i64 0, .int .i64 0, .int .i64 0, .int .i64 0, .int .i64 0, .int .i64 0, .int .i64 0, .int .i64 0, .int .i64 0] ∧ w'.cell? ⟨r, 19, none⟩ = some (.slice (some ⟨tg, 0, none⟩) 1 tc)) hS0 (fun hHeld => ?_)
  clear hS0
  refine hd 0 (v := ?_) ?_ ?_; rotate_left; · rintro w ⟨hS1, hS2, hS3⟩; go_simp; try with_reducible rfl
  simp only [Act.put, pt1, pt2, pt3]
  refine hd 1 (v := ?_) ?_ ?_; rotate_left; · rintro w ⟨hS1, hS2, hS3⟩; go_simp; try with_reducible rfl
  simp only [Act.put, pt1, pt2, pt3]
  refine hd 2 (v := ?_) ?_ ?_; rotate_left; · rintro w ⟨hS1, hS2, hS3⟩; go_simp; try with_reducible rfl
  simp only [Act.put, pt1, pt2, pt3]
  refine hd 3 (v := ?_) ?_ ?_; rotate_left; · rintro w ⟨hS1, hS2, hS3⟩; go_simp; try with_reducible rfl
  simp only [Act.put, pt1, pt2, pt3]
  refine hd 4 (v := ?_) ?_ ?_; rotate_left; · rintro w ⟨hS1, hS2, hS3⟩; go_simp; try with_reducible rfl
  simp only [Act.put, pt1, pt2, pt3]
  refine hd 5 (v := ?_) ?_ ?_; rotate_left; · rintro w ⟨hS1, hS2, hS3⟩; go_simp; try with_reducible rfl
  simp only [Act.put, pt1, pt2, pt3]
  refine hd 6 (v := ?_) ?_ ?_; rotate_left; · rintro w ⟨hS1, hS2, hS3⟩; go_simp; try with_reducible rfl
  simp only [Act.put, pt1, pt2, pt3]
  refine hd 7 (v := ?_) ?_ ?_; rotate_left; · rintro w ⟨hS1, hS2, hS3⟩; go_simp; try with_reducible rfl
  simp only [Act.put, pt1, pt2, pt3]
  refine hd 8 (v := ?_) ?_ ?_; rotate_left; · rintro w ⟨hS1, hS2, hS3⟩; go_simp; try with_reducible rfl
  simp only [Act.put, pt1, pt2, pt3]
  refine hd 9 (v := ?_) ?_ ?_; rotate_left; · rintro w ⟨hS1, hS2, hS3⟩; go_simp; try with_reducible rfl
  simp only [Act.put, pt1, pt2, pt3]
  refine held_long 10 55 _ r 2 [.int .i64 2, .int .i64 0, .int .i64 1, .int .i64 7, .int .i64 0, .int .i64 0, .int .i64 0, .int .i64 0, .int .i64 0, .int .i64 0, .int .i64 0, .int .i64 0, .int .i64 0, .int .i64 0, .int .i64 0, .int .i64 0] _ rfl rfl (by kernel_rfl) (by kernel_rfl) (by kernel_rfl) (fun _ _ _ h => h) (by rfl) rfl Tryz.underlying55 rfl (by kernel_rfl) (fun _ h => h.2.1) (by assumption) ?_
  simp only [Act.put, pt1, pt2, pt3]
  refine hd 11 (v := ?_) ?_ ?_; rotate_left; · rintro w ⟨hS1, hS2, hS3⟩; go_simp; try with_reducible rfl
  simp only [Act.put, pt1, pt2, pt3]
  refine hd 12 (v := ?_) ?_ ?_; rotate_left; · rintro w ⟨hS1, hS2, hS3⟩; go_simp; try with_reducible rfl
  simp only [Act.put, pt1, pt2, pt3]
  refine hd 13 (v := ?_) ?_ ?_; rotate_left; · rintro w ⟨hS1, hS2, hS3⟩; go_simp; try with_reducible rfl
  simp only [Act.put, pt1, pt2, pt3]
  refine hd 14 (v := ?_) ?_ ?_; rotate_left; · rintro w ⟨hS1, hS2, hS3⟩; go_simp; try with_reducible rfl
  simp only [Act.put, pt1, pt2, pt3]
  refine hd 15 (v := .agg #[.int .i64 0, .int .i64 3, .int .i64 2, .int .i64 0, .int .i64 1, .int .i64 7, .int .i64 0, .int .i64 0, .int .i64 0, .int .i64 0, .int .i64 0, .int .i64 0, .int .i64 0, .int .i64 0, .int .i64 0, .int .i64 0, .int .i64 0, .int .i64 0, .slice (some ⟨tg, 0, none⟩) 1 tc]) (fun _ _ => by kernel_rfl) ?_
  simp only [Act.put, pt1, pt2, pt3]
  refine held_store 16 168 (.tmp 8) (.tmp 58) R #[.int .i64 0, .int .i64 3, .int .i64 2, .int .i64 0, .int .i64 1, .int .i64 7, .int .i64 0, .int .i64 0, .int .i64 0, .int .i64 0, .int .i64 0, .int .i64 0, .int .i64 0, .int .i64 0, .int .i64 0, .int .i64 0, .int .i64 0, .int .i64 0, .slice (some ⟨tg, 0, none⟩) 1 tc] zero168 168 rfl rfl (by kernel_rfl) (by rfl) rfl rfl hres (by kernel_rfl) rfl (by kernel_rfl) hS1 ?_
  simp only [Act.put]
  refine hend ?_
  go_wp2_with fail
  simp only [Exit.jump]
  go_wp2_with fail
  refine bodyPost_ret (results_cell_row rfl _ _ R 168 #[.int .i64 0, .int .i64 3, .int .i64 2, .int .i64 0, .int .i64 1, .int .i64 7, .int .i64 0, .int .i64 0, .int .i64 0, .int .i64 0, .int .i64 0, .int .i64 0, .int .i64 0, .int .i64 0, .int .i64 0, .int .i64 0, .int .i64 0, .int .i64 0, .slice (some ⟨tg, 0, none⟩) 1 tc] (0, 0) _ rfl (block_setRow_same hres) Tryz.underlying168 rfl (by kernel_rfl)) rfl ⟨_, rfl, hot, hbf⟩
end Go.Proofs.YteflpdhgojcmcaaGreatDoor
