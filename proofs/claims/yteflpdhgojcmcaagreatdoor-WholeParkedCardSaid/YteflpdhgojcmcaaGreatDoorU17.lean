/- The deferred closure of block.Step: what it does where the frame below returns, and where it gives up. The walk of block.Step, of a cpu without frames. The walk of block.Step, where an operation is done. No conditions but those that each theorem names. -/
import Derived.Test.YteflpdhgojcmcaaGreatDoorU01
import Derived.Test.YteflpdhgojcmcaaGreatDoorU16
import Derived.Recover
import Derived.Defers
import Derived.Deep.Cut
import Derived.Lib.SliceRun
namespace Go.Proofs.YteflpdhgojcmcaaGreatDoor
open Go.RowKit
/-- What holds at an end that is no panic. -/
def NoPanic (Q : Exit → Act → World → Prop) : Exit → Act → World → Prop
  | .panic _, _, _ => False
  | e, a, w => Q e a w
theorem wp_noPanic {P : Program} {c : Code} {Q : Exit → Act → World → Prop} {a : Act} {w : World} (h : Code.wp P c (NoPanic Q) a w) : Code.wp P c Q a w :=
  wp_mono h fun e _ _ h => by
    cases e with
    | panic _ => exact False.elim h
    | _ => exact h
theorem noPanic_normal (Q : Exit → Act → World → Prop) (a : Act) (w : World) : NoPanic Q .normal a w = Q .normal a w := rfl
theorem step1_idle (c5 c8 c9 : Nat) (w : World) :
    CallsD Tryz.prog 155 #[.pointer (some ⟨c5, 0, none⟩), .pointer (some ⟨c8, 0, none⟩), .pointer (some ⟨c9, 0, none⟩)] .returning w fun e u' w' => e = .returned (.tuple #[]) ∧ u' = .returning ∧ w' = w := by
  refine callsD_of_wpS Tryz.func155 rfl fun c₀ cs hu => ?_
  apply wpS_seq
  apply wpS_region
  simp [wpOpsS, go_sem, recoverD, hu, Tryz.ntmps155, Exit.thenS]
  refine wpS_of_wp ?_
  have hQ : ∀ (a : Act) (w' : World), a.defers = [] → w' = w → bodyPostS Tryz.prog Tryz.f155 c₀ cs (fun e u' w' => e = .returned (.tuple #[]) ∧ u' = .returning ∧ w' = w) .normal a (c₀ :: cs) w' := by
    intro a w' hd hw
    cases c₀
    simp_all [bodyPostS, results, Tryz.results155]
  generalize bodyPostS Tryz.prog Tryz.f155 c₀ cs (fun e u' w' => e = .returned (.tuple #[]) ∧ u' = .returning ∧ w' = w) = Q at *
  go_wp2
  exact hQ _ _ rfl rfl
set_option maxRecDepth 100000 in
theorem step1_panic (c5 c8 c9 : Nat) (cs old : Array Value) (k a1 a2 a3 a4 a5 a6 a7 : Int) (older : List PanicEntry) (w : World) (h5 : w.heap[c5]? = some (.cells cs 94 (0, 0))) (h1 : cs.all (·.oneCell') = true) (hs : cs.size = 19)
    (h8 : w.heap[c8]? = some (.cells old 94 (0, 0))) (hso : old.size = 19) (h9 : w.heap[c9]? = some (.cells (askC a1 a2 a3 a4 a5 a6 a7) 217 (0, 0))) (n58 : c5 ≠ c8) (n59 : c5 ≠ c9) (n89 : c8 ≠ c9) :
    CallsD Tryz.prog 155 #[.pointer (some ⟨c5, 0, none⟩), .pointer (some ⟨c8, 0, none⟩), .pointer (some ⟨c9, 0, none⟩)] (.panicking ({ v := .iface 274 (.int .i64 k), recovered := false } :: older)) w fun e u' w' =>
      e = .returned (.tuple #[]) ∧ u' = .panicking ({ v := .iface 274 (.int .i64 k), recovered := true } :: older) ∧ w'.heap[c8]? = some (.cells cs 94 (0, 0)) ∧ w'.heap[c9]? = some (.cells (askC 5 0 0 0 0 0 k) 217 (0, 0)) ∧ Chg (fun i => i = c8 ∨ i = c9) w w' := by
  obtain ⟨L, rfl⟩ : ∃ L : List Value, cs = L.toArray := ⟨cs.toList, by simp⟩
  refine callsD_of_wpS Tryz.func155 rfl fun c₀ fs hu => ?_
  apply wpS_seq
  apply wpS_region
  simp [wpOpsS, go_sem, recoverD, hu, Tryz.ntmps155, Exit.thenS]
  refine wpS_of_wp ?_
  have HQ : ∃ Q : Exit → Act → List Frame → World → Prop, Q = bodyPostS Tryz.prog Tryz.f155 c₀ fs fun e u' w' =>
      e = .returned (.tuple #[]) ∧ u' = .panicking ({ v := .iface 274 (.int .i64 k), recovered := true } :: older) ∧ w'.heap[c8]? = some (.cells L.toArray 94 (0, 0)) ∧ w'.heap[c9]? = some (.cells (askC 5 0 0 0 0 0 k) 217 (0, 0)) ∧ Chg (fun i => i = c8 ∨ i = c9) w w' := ⟨_, rfl⟩
  obtain ⟨Q, hQ⟩ := HQ
  rw [← hQ]
  have hN : ∀ (a : Act) (w' : World), a.defers = [] → w'.heap[c8]? = some (.cells L.toArray 94 (0, 0)) ∧ w'.heap[c9]? = some (.cells (askC 5 0 0 0 0 0 k) 217 (0, 0)) ∧ Chg (fun i => i = c8 ∨ i = c9) w w' →
      Q .normal a ({ c₀ with mode := .panicking ({ v := .iface 274 (.int .i64 k), recovered := true } :: older) } :: fs) w' := by
    intro a w' hd hw
    rw [hQ]
    exact ⟨hd, _, rfl, .tuple #[], by simp [results, Tryz.results155], rfl, rfl, hw⟩
  have HN := Lib.hid hN
  clear hQ hN
  have H5 := Lib.hid h5
  have H8 := Lib.hid h8
  have H9 := Lib.hid h9
  clear h5 h8 h9
  refine wp_mono (Q := NoPanic fun e a' w' => Q e a' ({ c₀ with mode := .panicking ({ v := .iface 274 (.int .i64 k), recovered := true } :: older) } :: fs) w') ?_ (fun e a' w' h => by cases e <;> first | exact h | exact h.elim)
  change Code.wp _ _ _ { tmps := #[.pointer (some ⟨c5, 0, none⟩), .pointer (some ⟨c8, 0, none⟩), .pointer (some ⟨c9, 0, none⟩), undef, undef, undef, .iface 274 (.int .i64 k), undef, undef, undef, undef, undef, undef, undef, undef], defers := [] } w
  have hta : ∀ W, (Instr.typeAssert (.iface 274 (.int .i64 k)) 20 274 true).run Tryz.prog W = .ok (.tuple #[.int .i64 k, .bool true]) W := fun _ => by kernel_rfl
  go_wp2_with fail
  have hl : L.length = 19 := by simpa using hs
  have hu := Tryz.underlying94
  have hi : (Tryz.prog.info? 94).map (·.size) = some L.length := by rw [hl]; kernel_rfl
  have ho : ∀ v ∈ L, v.oneCell' = true := fun v hv => by
    have := Array.all_eq_true_iff_forall_mem.1 h1 v (by simpa using hv)
    simpa using this
  have r5 : w.rangeAt c5 0 L := fun j v hj => by
    rw [cell_of_row _ _ _ _ _ _ H5.out]
    simpa using hj
  have hS0 : (fun w' : World => w'.rangeAt c5 0 L) w.drew := r5
  refine wp_region_held_drew (S := fun w' => w'.rangeAt c5 0 L) (by kernel_rfl) hS0 (fun hHeld => ?_)
  clear hS0 r5
  refine held_long 0 94 _ c5 0 L _ rfl rfl (by kernel_rfl) (by kernel_rfl) (by kernel_rfl) (fun _ _ _ h => h) (by rfl) rfl hu rfl hi (fun _ h => h) (by assumption) ?_
  simp only [Act.put, pt1, pt2, pt3]
  refine hd 1 (v := ?_) ?_ ?_
  rotate_left
  · intro w _; go_simp; try with_reducible rfl
  simp only [Act.put, pt1, pt2, pt3]
  refine hcl 2 (fun K hK => ?_)
  go_simp
  go_at_call 154
  refine (ended_any k _).mono ?_
  rintro e y ⟨rfl, hY⟩
  have HY := Lib.hid hY
  clear hY
  go_wp2_with fail
  refine hK.out _ _ ?_ (fun hHeld => ?_)
  · rw [HY.out]
    exact World.rangeAt_alloc hHeld _
  clear hK K
  try simp only [Act.put, pt1, pt2, pt3]
  have y8 : y.heap[c8]? = some (.cells old 94 (0, 0)) := by rw [HY.out]; exact (heap_alloc_old _ _ (block_lt H8.out)).trans H8.out
  have y9 : y.heap[c9]? = some (.cells (askC a1 a2 a3 a4 a5 a6 a7) 217 (0, 0)) := by rw [HY.out]; exact (heap_alloc_old _ _ (block_lt H9.out)).trans H9.out
  have yc : Chg (fun i => i = c8 ∨ i = c9) w y := by rw [HY.out]; exact (((Chg.refl _ w).drew).alloc _)
  clear HY
  refine held_store 3 94 _ _ c8 L.toArray old 94 rfl rfl (by kernel_rfl) (by rfl) rfl rfl y8 (by simpa using hi) (by rw [hso, hs]) h1 (range_keep hHeld (setRow_other _ _ _ _ n58)) ?_
  have z9 : (y.setRow c8 L.toArray).heap[c9]? = some (.cells (askC a1 a2 a3 a4 a5 a6 a7) 217 (0, 0)) := (setRow_other _ _ _ _ (fun e => n89 e.symm)).trans y9
  have zc := yc.setRow (g := c8) (.inl (.inl rfl)) L.toArray
  refine held_store 4 217 _ _ c9 (askC 5 0 0 0 0 0 k) _ 217 rfl rfl (by kernel_rfl) (by rfl) rfl rfl z9 (by kernel_rfl) rfl (askC_one _ _ _ _ _ _ _) (range_keep (range_keep hHeld (setRow_other _ _ _ _ n58)) (setRow_other _ _ _ _ n59)) ?_
  refine held_done (by kernel_rfl) ?_
  have H : ((y.setRow c8 L.toArray).setRow c9 (askC 5 0 0 0 0 0 k)).heap[c8]? = some (.cells L.toArray 94 (0, 0)) ∧ ((y.setRow c8 L.toArray).setRow c9 (askC 5 0 0 0 0 0 k)).heap[c9]? = some (.cells (askC 5 0 0 0 0 0 k) 217 (0, 0)) ∧ Chg (fun i => i = c8 ∨ i = c9) w ((y.setRow c8 L.toArray).setRow c9 (askC 5 0 0 0 0 0 k)) :=
    ⟨(setRow_other _ _ _ _ n89).trans (setRow_heap _ _ _ _ _ _ y8), setRow_heap _ _ _ _ _ _ z9, zc.setRow (.inl (.inr rfl)) _⟩
  generalize (y.setRow c8 L.toArray).setRow c9 (askC 5 0 0 0 0 0 k) = z at *
  have HZ := Lib.hid H
  clear H z9 zc yc y8 y9 hHeld
  go_wp2_with fail
  exact HN.out _ _ rfl HZ.out
end Go.Proofs.YteflpdhgojcmcaaGreatDoor
namespace Go.Proofs.YteflpdhgojcmcaaGreatDoor
open Go.RowKit
theorem clone153_nil (w : World) : Calls Tryz.prog 153 #[.slice none 0 0] w fun e w' => e = .returned (.slice none 0 0) ∧ w = w' := by
  have qT : ∀ (w : World) (a : Option Addr) (n c n' c' : Nat), (binOp .eql 92 (.slice a n c) (.slice none n' c')).run Tryz.prog w = .ok (.bool a.isNone) w := fun w a n c n' c' => Lib.run_eql_slice_nil w _ _ a n c n' c' Tryz.underlying92
  go_enter Tryz.func153, Tryz.ntmps153
  go_wp2_with fail
  go_ret
  exact ⟨rfl, rfl⟩
def zeroCpu : Array Value := #[.int .i64 0, .int .i64 0, .int .i64 0, .int .i64 0, .int .i64 0, .int .i64 0, .int .i64 0, .int .i64 0, .int .i64 0, .int .i64 0, .int .i64 0, .int .i64 0, .int .i64 0, .int .i64 0, .int .i64 0, .int .i64 0, .int .i64 0, .int .i64 0, .slice none 0 0]
/-- The world behind Step's first steps. -/
def stepped (w : World) (L : List Value) : World := ((w.alloc (.cells L.toArray 94)).alloc (.cells zeroCpu 94)).alloc (.cells (askC 0 0 0 0 0 0 0) 217)
structure Stepped (w W : World) (L : List Value) (ak : Array Value) : Prop where
  cpu : W.heap[w.heap.size]? = some (.cells L.toArray 94 (0, 0))
  out : W.heap[w.heap.size + 1]? = some (.cells zeroCpu 94 (0, 0))
  ask : W.heap[w.heap.size + 2]? = some (.cells ak 217 (0, 0))
  below : Below w.heap.size w W
theorem stepped_is (w : World) (L : List Value) : Stepped w (stepped w L) L (askC 0 0 0 0 0 0 0) := by
  unfold stepped
  refine ⟨?_, ?_, ?_, ?_⟩
  · rw [heap_alloc_old _ _ (by simp; omega), heap_alloc_old _ _ (by simp)]
    exact Go.heap_alloc_new _ _
  · rw [heap_alloc_old _ _ (by simp)]
    exact heap_alloc2_new _ _ _
  · have h := Go.heap_alloc_new ((w.alloc (.cells L.toArray 94)).alloc (.cells zeroCpu 94)) (.cells (askC 0 0 0 0 0 0 0) 217)
    have e : ((w.alloc (.cells L.toArray 94)).alloc (.cells zeroCpu 94)).heap.size = w.heap.size + 2 := by simp
    rw [e] at h
    exact h
  · exact (((Below.refl _ _).alloc (Nat.le_refl _) _).alloc (by simp) _).alloc (by simp; omega) _
theorem set_same (L : List Value) (j : Nat) (v : Value) (h : L[j]? = some v) : L.toArray.setIfInBounds j v = L.toArray := by
  obtain ⟨hj, he⟩ := List.getElem?_eq_some_iff.1 h
  simp only [List.setIfInBounds_toArray]
  rw [← he, List.set_getElem_self]
theorem stepped_again {w W : World} {L : List Value} {ak : Array Value} (h : Stepped w W L ak) (hst : L[18]? = some (.slice none 0 0)) : Stepped w (W.setCell ⟨w.heap.size, 18, none⟩ (.slice none 0 0)) L ak := by
  refine ⟨?_, ?_, ?_, ?_⟩
  · have := heap_setCell_same W w.heap.size 18 _ _ (.slice none 0 0) h.cpu
    rw [set_same L 18 _ hst] at this
    exact this
  · exact (heap_setCell_other _ _ _ _ (by simp)).trans h.out
  · exact (heap_setCell_other _ _ _ _ (by simp)).trans h.ask
  · exact h.below.setCell (p := ⟨w.heap.size, 18, none⟩) (Nat.le_refl _) _
theorem Stepped.to {w W W' : World} {L : List Value} {ak : Array Value} (h : Stepped w W L ak) (hb : Below W.heap.size W W') : Stepped w W' L ak :=
  ⟨(hb.block _ (block_lt h.cpu)).trans h.cpu, (hb.block _ (block_lt h.out)).trans h.out, (hb.block _ (block_lt h.ask)).trans h.ask, h.below.trans (hb.mono h.below.size)⟩
theorem Stepped.drew {w W : World} {L : List Value} {ak : Array Value} (h : Stepped w W L ak) : Stepped w W.drew L ak := ⟨h.cpu, h.out, h.ask, h.below.drew⟩
theorem info94 {L : List Value} (h : L.length = 19) : (Tryz.prog.info? 94).map (·.size) = some L.length := by rw [h]; kernel_rfl
theorem info94a {L : Array Value} (h : L.size = 19) : (Tryz.prog.info? 94).map (·.size) = some L.size := by rw [h]; kernel_rfl
/-- Two results that lie in two blocks. -/
theorem results_cell_cell {P : Program} {fn : Func} {p q : Tmp} {ty tz : TypeId} (h : fn.results = #[.cell p ty, .cell q tz]) (tmps : Array Value) (w : World) (g k : Nat) (t s : TypeId) (cs ds : Array Value) (fr fs : Nat × Nat) (d e : TypeDesc)
    (hp : tmps.getD p undef = .pointer (some ⟨g, 0, none⟩)) (hg : w.heap[g]? = some (.cells cs t fr)) (hu : P.underlying ty = some d) (hd : (match d with | .struct _ | .array _ _ => true | _ => false) = true) (hi : (P.info? ty).map (·.size) = some cs.size)
    (hq : tmps.getD q undef = .pointer (some ⟨k, 0, none⟩)) (hk : w.heap[k]? = some (.cells ds s fs)) (hv : P.underlying tz = some e) (he : (match e with | .struct _ | .array _ _ => true | _ => false) = true) (hj : (P.info? tz).map (·.size) = some ds.size) :
    (results fn tmps).run P w = .ok (.tuple #[.agg cs, .agg ds]) w := by
  have hp' : tmps[p]?.getD undef = .pointer (some ⟨g, 0, none⟩) := by simpa using hp
  have hq' : tmps[q]?.getD undef = .pointer (some ⟨k, 0, none⟩) := by simpa using hq
  simp [results, h, hp', hq', asAddr, run_loadVar_row w g t ty cs fr d hg hu hd hi, run_loadVar_row w k s tz ds fs e hk hv he hj]
set_option maxRecDepth 100000 in
theorem step_past (b off c : Nat) (ops : List OpM) (L : List Value) (vars fuel : Int)  (w : World) (hl : rightL ops = true) (hn : 1 ≤ ops.length) (hn2 : ops.length ≤ 200) (hat : OpsAt w b off ops)
    (hL : L.length = 19) (h1 : L.toArray.all (·.oneCell') = true) (hpc : L[0]? = some (.int .i64 ops.length)) (hst : L[18]? = some (.slice none 0 0))  :
    Calls Tryz.prog 113 #[.slice (some ⟨b, off, none⟩) ops.length c, .agg L.toArray, .int .i64 vars, .int .i64 fuel] w fun e w' =>
      e = .returned (.tuple #[.agg L.toArray, .agg (askC 5 0 0 0 0 0 0)]) ∧ Below w.heap.size w w' := by
  have HR := Lib.hid (fun W (hb : Below w.heap.size w W) => Right_any (some ⟨b, off, none⟩) c ops W (by omega) (fun _ => ⟨b, off, rfl, hat.below hb⟩))
  rw [hl] at HR
  have HAT := Lib.hid hat
  have HST := Lib.hid hst
  clear hat hl
  generalize hnn : ops.length = n at *
  have HNN := Lib.hid hnn
  clear hnn
  go_enter_defers Tryz.func113, Tryz.ntmps113
  go_upto_region 1 with (fail)
  change Code.wp _ _ _ _ (stepped w L)
  have hb := stepped_is w L
  generalize stepped w L = W at *
  have s18 : W.cell? ⟨w.heap.size, 18, none⟩ = some (.slice none 0 0) := (cell_of_row _ _ _ _ _ _ hb.cpu).trans (by simpa using hst)
  have sf : ∀ j, W.frozen? ⟨w.heap.size, j, none⟩ = false := fun j => frozen_of_row _ _ j _ _ hb.cpu
  have hb1 := stepped_again hb hst
  have HB1 := Lib.hid hb1
  clear hb hb1 hst
  go_wp2_with (go_at_call 153; refine (clone153_nil _).mono ?_; rintro e w' ⟨rfl, rfl⟩)
  refine (HR.out _ HB1.out.below).mono ?_
  rintro e w2 ⟨rfl, hb2⟩
  have hb2 := HB1.out.to hb2
  have t0 : w2.cell? ⟨w.heap.size, 0, none⟩ = some (.int .i64 n) := (cell_of_row _ _ _ _ _ _ hb2.cpu).trans (by simpa using hpc)
  have HB2 := Lib.hid hb2
  have HPC := Lib.hid hpc
  clear hb2 s18 sf hpc HR HB1
  go_upto_region 5 with (fail)
  have hS0 : (fun w' : World => w'.rangeAt w.heap.size 0 L) w2.drew := range_of_block HB2.out.cpu
  refine wp_noPanic ?_
  refine wp_region_held_drew (S := fun w' => w'.rangeAt w.heap.size 0 L) (by kernel_rfl) hS0 (fun hHeld => ?_)
  clear hS0
  refine held_long 0 94 _ w.heap.size 0 L _ rfl rfl (by kernel_rfl) (by kernel_rfl) (by kernel_rfl) (fun _ _ _ h => h) (by rfl) rfl Tryz.underlying94 rfl (info94 hL) (fun _ h => h) (by assumption) ?_
  simp only [Act.put, pt1, pt2, pt3]
  refine hcl 1 (fun K hK => ?_)
  go_simp
  go_at_call 154
  refine (ended_any 0 _).mono ?_
  rintro e y ⟨rfl, hY⟩
  have hst3 : Stepped w y L (askC 0 0 0 0 0 0 0) := by
    rw [hY]
    exact (HB2.out.drew).to ((Below.refl _ _).alloc (Nat.le_refl _) _)
  have H3 := Lib.hid hst3
  clear hY hst3
  go_wp2_with fail
  refine hK.out _ _ ?_ (fun hHeld => ?_)
  · exact range_of_block H3.out.cpu
  clear hK K
  try simp only [Act.put, pt1, pt2, pt3]
  have z1 := setRow_other y (w.heap.size + 1) (w.heap.size + 2) L.toArray (by omega)
  have z2 := setRow_other y (w.heap.size + 1) w.heap.size L.toArray (by omega)
  refine held_store 2 94 _ _ (w.heap.size + 1) L.toArray zeroCpu 94 rfl rfl (by kernel_rfl) (by rfl) rfl rfl H3.out.out (info94 hL) (by simp [hL, zeroCpu]) h1 (range_keep hHeld z2) ?_
  have z3 := setRow_other (y.setRow (w.heap.size + 1) L.toArray) (w.heap.size + 2) w.heap.size (askC 5 0 0 0 0 0 0) (by omega)
  refine held_store 3 217 _ _ (w.heap.size + 2) (askC 5 0 0 0 0 0 0) _ 217 rfl rfl (by kernel_rfl) (by rfl) rfl rfl (z1.trans H3.out.ask) (by kernel_rfl) rfl (askC_one _ _ _ _ _ _ _) (range_keep (range_keep hHeld z2) z3) ?_
  refine held_done (by kernel_rfl) ?_
  have hF : ((y.setRow (w.heap.size + 1) L.toArray).setRow (w.heap.size + 2) (askC 5 0 0 0 0 0 0)).heap[w.heap.size + 1]? = some (.cells L.toArray 94 (0, 0)) :=
    (setRow_other _ _ _ _ (by omega)).trans (setRow_heap _ _ _ _ _ _ H3.out.out)
  have hG : ((y.setRow (w.heap.size + 1) L.toArray).setRow (w.heap.size + 2) (askC 5 0 0 0 0 0 0)).heap[w.heap.size + 2]? = some (.cells (askC 5 0 0 0 0 0 0) 217 (0, 0)) :=
    setRow_heap _ _ _ _ _ _ (z1.trans H3.out.ask)
  have hB : Below w.heap.size w ((y.setRow (w.heap.size + 1) L.toArray).setRow (w.heap.size + 2) (askC 5 0 0 0 0 0 0)) := below_setRow' (below_setRow' H3.out.below (by omega) _) (by omega) _
  generalize (y.setRow (w.heap.size + 1) L.toArray).setRow (w.heap.size + 2) (askC 5 0 0 0 0 0 0) = z at *
  have HF := Lib.hid (And.intro hF (And.intro hG hB))
  clear hF hG hB z1 z2 z3 hHeld
  rw [noPanic_normal]
  go_wp2_with fail
  exact ⟨_, results_cell_cell rfl _ _ (w.heap.size + 1) (w.heap.size + 2) 94 217 L.toArray (askC 5 0 0 0 0 0 0) (0, 0) (0, 0) _ _ rfl HF.out.1 Tryz.underlying94 rfl (info94 hL) rfl HF.out.2.1 Tryz.underlying217 rfl (by kernel_rfl), rfl, HF.out.2.2⟩
end Go.Proofs.YteflpdhgojcmcaaGreatDoor
namespace Go.Proofs.YteflpdhgojcmcaaGreatDoor
open Go.RowKit
theorem boxed_core (W : World) (u : Nat) (o : OpM) (vars : Int) : CoreAt (W.alloc (.cells (coreC u o vars) 278)) W.heap.size u o vars := Go.heap_alloc_new _ _
/-- What the next cpu, before its operation is done, is. -/
def used1 (L : List Value) (us : Int) : List Value := L.set 1 (.int .i64 (us + 1))
theorem used1_length (L : List Value) (us : Int) : (used1 L us).length = L.length := by simp [used1]
theorem used1_one {L : List Value} (h : L.toArray.all (·.oneCell') = true) (us : Int) : (used1 L us).toArray.all (·.oneCell') = true := by
  rw [Array.all_eq_true_iff_forall_mem] at *
  intro v hv
  simp only [used1, List.mem_toArray] at hv
  rcases List.mem_or_eq_of_mem_set hv with h' | rfl
  · exact h v (by simpa using h')
  · rfl
theorem Stepped.chg {w W W' : World} {L : List Value} {ak : Array Value} {u : Nat} (h : Stepped w W L ak) (hc : Chg (· = u) W W') (hu : w.heap.size + 2 < u) : Stepped w W' L ak :=
  ⟨(hc.block _ (block_lt h.cpu) (by omega)).trans h.cpu, (hc.block _ (block_lt h.out) (by omega)).trans h.out, (hc.block _ (block_lt h.ask) (by omega)).trans h.ask,
    ⟨hc.os.trans h.below.os, hc.tape.trans h.below.tape, hc.output.trans h.below.output, Nat.le_trans h.below.size hc.size, fun k hk => (hc.block k (by have := block_lt h.cpu; omega) (by omega)).trans (h.below.block k hk)⟩⟩
theorem stepped_used {w W : World} {L : List Value} {ak : Array Value} (h : Stepped w W L ak) (us : Int) : Stepped w (W.setCell ⟨w.heap.size, 1, none⟩ (.int .i64 (us + 1))) (used1 L us) ak := by
  refine ⟨?_, ?_, ?_, ?_⟩
  · have := heap_setCell_same W w.heap.size 1 _ _ (.int .i64 (us + 1)) h.cpu
    simpa [used1] using this
  · exact (heap_setCell_other _ _ _ _ (by simp)).trans h.out
  · exact (heap_setCell_other _ _ _ _ (by simp)).trans h.ask
  · exact h.below.setCell (p := ⟨w.heap.size, 1, none⟩) (Nat.le_refl _) _
set_option maxRecDepth 100000 in
theorem step_ret (b off c : Nat) (ops : List OpM) (L : List Value) (vars fuel : Int) (p : Nat) (us : Int) (op : OpM) (w : World) (hl : rightL ops = true) (hn : 1 ≤ ops.length) (hn2 : ops.length ≤ 200) (hat : OpsAt w b off ops)
    (hL : L.length = 19) (h1 : L.toArray.all (·.oneCell') = true) (hpc : L[0]? = some (.int .i64 p)) (hst : L[18]? = some (.slice none 0 0)) (hpn : p < ops.length) (hop : ops.getD p OpM.zero = op) (hus : L[1]? = some (.int .i64 us)) (hu0 : 0 ≤ us) (hu1 : us < fuel) (hu2 : us ≤ 1000000) (L2 : List Value) (k1 k2 k3 k4 k5 k6 k7 : Int) (hL2 : L2.length = 19) (h2 : L2.toArray.all (·.oneCell') = true) (hdoes : ∀ W q u, q ≠ u → CoreAt W q u op vars → W.heap[u]? = some (.cells (used1 L us).toArray 94 (0, 0)) → Calls Tryz.prog 156 #[.pointer (some ⟨q, 0, none⟩)] W fun e w' => e = .returned (.agg (askC k1 k2 k3 k4 k5 k6 k7)) ∧ w'.heap[u]? = some (.cells L2.toArray 94 (0, 0)) ∧ Chg (· = u) W w') :
    Calls Tryz.prog 113 #[.slice (some ⟨b, off, none⟩) ops.length c, .agg L.toArray, .int .i64 vars, .int .i64 fuel] w fun e w' =>
      e = .returned (.tuple #[.agg L2.toArray, .agg (askC k1 k2 k3 k4 k5 k6 k7)]) ∧ Below w.heap.size w w' := by
  have HR := Lib.hid (fun W (hb : Below w.heap.size w W) => Right_any (some ⟨b, off, none⟩) c ops W (by omega) (fun _ => ⟨b, off, rfl, hat.below hb⟩))
  rw [hl] at HR
  have HAT := Lib.hid hat
  have HST := Lib.hid hst
  have HD := Lib.hid hdoes
  clear hat hl hdoes
  generalize hnn : ops.length = n at *
  have HNN := Lib.hid hnn
  clear hnn
  go_enter_defers Tryz.func113, Tryz.ntmps113
  go_upto_region 1 with (fail)
  change Code.wp _ _ _ _ (stepped w L)
  have hb := stepped_is w L
  generalize stepped w L = W at *
  have s18 : W.cell? ⟨w.heap.size, 18, none⟩ = some (.slice none 0 0) := (cell_of_row _ _ _ _ _ _ hb.cpu).trans (by simpa using hst)
  have sf : ∀ j, W.frozen? ⟨w.heap.size, j, none⟩ = false := fun j => frozen_of_row _ _ j _ _ hb.cpu
  have hb1 := stepped_again hb hst
  have HB1 := Lib.hid hb1
  clear hb hb1 hst
  go_wp2_with (go_at_call 153; refine (clone153_nil _).mono ?_; rintro e w' ⟨rfl, rfl⟩)
  refine (HR.out _ HB1.out.below).mono ?_
  rintro e w2 ⟨rfl, hb2⟩
  have hb2 := HB1.out.to hb2
  have t0 : w2.cell? ⟨w.heap.size, 0, none⟩ = some (.int .i64 p) := (cell_of_row _ _ _ _ _ _ hb2.cpu).trans (by simpa using hpc)
  have HB2 := Lib.hid hb2
  have HPC := Lib.hid hpc
  clear hb2 s18 sf hpc HR HB1
  have t1 : w2.cell? ⟨w.heap.size, 1, none⟩ = some (.int .i64 us) := (cell_of_row _ _ _ _ _ _ HB2.out.cpu).trans (by simpa using hus)
  have tf : ∀ j, w2.frozen? ⟨w.heap.size, j, none⟩ = false := fun j => frozen_of_row _ _ j _ _ HB2.out.cpu
  have hne : ((p : Int) == (n : Int)) = false := by simp; have := HNN.out; omega
  have hpn2 : p < n := by have := HNN.out; omega
  have hmf : ∀ (fn : Fn) (first cap : Array Value) (w : World), (Instr.makeFunc fn first cap).run Tryz.prog w = .ok (.func fn first cap) w := fun _ _ _ _ => rfl
  have HOP := Lib.hid hop
  have HUS := Lib.hid hus
  have HPN := Lib.hid hpn
  clear hop hus hpn
  go_upto_region 9 with (fail)
  change Code.wp _ _ _ _ (w2.setCell ⟨w.heap.size, 1, none⟩ (.int .i64 (us + 1)))
  have hb3 := stepped_used HB2.out us
  have HL1 := Lib.hid (used1_length L us)
  have HO1 := Lib.hid (used1_one h1 us)
  generalize w2.setCell ⟨w.heap.size, 1, none⟩ (.int .i64 (us + 1)) = w3 at *
  generalize hLL : used1 L us = L1 at *
  have HLL := Lib.hid hLL
  have HB3 := Lib.hid hb3
  have t30 : w3.cell? ⟨w.heap.size, 0, none⟩ = some (.int .i64 p) := by
    refine (cell_of_row _ _ _ _ _ _ hb3.cpu).trans ?_
    have := HPC.out
    rw [← hLL]
    simpa [used1] using this
  clear hLL hb3 t0 t1 tf HB2 HPC
  go_upto_region 10 with (fail)
  have hz := Go.heap_alloc_new w3 (.cells zeroCpu 94)
  have HZ := Lib.hid hz
  clear hz
  go_upto_region 11 with (first
    | (refine wpList_load_row rfl 94 _ rfl w.heap.size rfl 94 L1.toArray (0, 0) _ HB3.out.cpu Tryz.underlying94 rfl (info94 (HL1.out.trans hL)) ?_)
    | (refine wpList_store_row rfl 94 _ _ rfl w3.heap.size L1.toArray rfl rfl 94 zeroCpu HZ.out (info94 (HL1.out.trans hL)) (by simp [HL1.out, hL, zeroCpu]) HO1.out ?_))
  change Code.wp _ _ _ _ ((w3.alloc (.cells zeroCpu 94)).setRow w3.heap.size L1.toArray)
  have hb3 := HB3.out
  have q1 : w.heap.size + 2 < w3.heap.size := block_lt hb3.ask
  have hk : ∀ j, j < w3.heap.size → ((w3.alloc (.cells zeroCpu 94)).setRow w3.heap.size L1.toArray).heap[j]? = w3.heap[j]? := fun j hj =>
    (setRow_other _ _ _ _ (by omega)).trans (heap_alloc_old _ _ hj)
  have hb4 : Stepped w ((w3.alloc (.cells zeroCpu 94)).setRow w3.heap.size L1.toArray) L1 (askC 0 0 0 0 0 0 0) :=
    ⟨(hk _ (by omega)).trans hb3.cpu, (hk _ (by omega)).trans hb3.out, (hk _ (by omega)).trans hb3.ask, below_setRow' (hb3.below.alloc hb3.below.size _) hb3.below.size _⟩
  have hu4 : ((w3.alloc (.cells zeroCpu 94)).setRow w3.heap.size L1.toArray).heap[w3.heap.size]? = some (.cells L1.toArray 94 (0, 0)) := setRow_heap _ _ _ _ _ _ (Go.heap_alloc_new w3 (.cells zeroCpu 94))
  have t40 : ((w3.alloc (.cells zeroCpu 94)).setRow w3.heap.size L1.toArray).cell? ⟨w.heap.size, 0, none⟩ = some (.int .i64 p) := (World.cell?_of_block (a := ⟨w.heap.size, 0, none⟩) (hk _ (by show w.heap.size < _; omega))).trans t30
  have hs4 : ((w3.alloc (.cells zeroCpu 94)).setRow w3.heap.size L1.toArray).heap.size = w3.heap.size + 1 := by simp [World.setRow]
  generalize (w3.alloc (.cells zeroCpu 94)).setRow w3.heap.size L1.toArray = w4 at *
  generalize w3.heap.size = g at *
  have hop4 : w4.rangeAt b (off + p * 5) op.cells := by
    have := (HAT.out.below hb4.below).2 p (by have := HNN.out; omega)
    rw [HOP.out] at this
    exact this
  have HB4 := Lib.hid hb4
  have HU4 := Lib.hid hu4
  have HOP4 := Lib.hid hop4
  have HS4 := Lib.hid hs4
  clear hk hb3 hb4 hu4 t30 HB3 HZ hop4 hs4
  obtain ⟨x0, x1, x2, x3, x4⟩ := op
  have i1 : (0 : Int) ≤ (p : Int) := by omega
  have i2 : (p : Int) < (n : Int) := by omega
  go_wp2_with (refine wpList_load_mid rfl 50 _ rfl b (off + p * 5) rfl [.int .i64 x0, .int .i64 x1, .int .i64 x2, .int .i64 x3, .int .i64 x4] _ HOP4.out Tryz.underlying50 rfl (by kernel_rfl) ?_)
  change Calls Tryz.prog 156 _ (w4.alloc (.cells (coreC g ⟨x0, x1, x2, x3, x4⟩ vars) 278)) _
  have hg4 : g < w4.heap.size := by have := HS4.out; omega
  have hb5 := HB4.out.to ((Below.refl w4.heap.size w4).alloc (Nat.le_refl _) (.cells (coreC g ⟨x0, x1, x2, x3, x4⟩ vars) 278))
  have hu5 := (heap_alloc_old w4 (.cells (coreC g ⟨x0, x1, x2, x3, x4⟩ vars) 278) hg4).trans HU4.out
  refine (HD.out (w4.alloc (.cells (coreC g ⟨x0, x1, x2, x3, x4⟩ vars) 278)) w4.heap.size g (by omega) (boxed_core _ _ _ _) (by exact hu5)).mono ?_
  rintro e w6 ⟨rfl, hu6, hc6⟩
  have hb6 := hb5.chg hc6 (by omega)
  have HB6 := Lib.hid hb6
  have HU6 := Lib.hid hu6
  clear hu6 hc6 hb6 hb5 hu5
  go_upto_region 12 with (refine wpList_store_row rfl 217 _ _ rfl (w.heap.size + 2) (askC k1 k2 k3 k4 k5 k6 k7) rfl rfl 217 (askC 0 0 0 0 0 0 0) HB6.out.ask (by kernel_rfl) rfl (askC_one _ _ _ _ _ _ _) ?_)
  refine name_world ?_
  intro w7 hw7
  have hst7 : Stepped w w7 L1 (askC k1 k2 k3 k4 k5 k6 k7) := by
    rw [hw7]
    exact ⟨(setRow_other _ _ _ _ (by omega)).trans HB6.out.cpu, (setRow_other _ _ _ _ (by omega)).trans HB6.out.out, setRow_heap _ _ _ _ _ _ HB6.out.ask, below_setRow' HB6.out.below (by omega) _⟩
  have hu7 : w7.heap[g]? = some (.cells L2.toArray 94 (0, 0)) := by
    rw [hw7]
    exact (setRow_other _ _ _ _ (by omega)).trans HU6.out
  clear hw7 HB6 HU6
  have H7 := Lib.hid (And.intro hst7 hu7)
  clear hst7 hu7
  have hS0 : (fun w' : World => w'.rangeAt g 0 L2 ∧ w'.rangeAt (w.heap.size + 2) 0 [.int .i64 k1, .int .i64 k2, .int .i64 k3, .int .i64 k4, .int .i64 k5, .int .i64 k6, .int .i64 k7]) w7.drew := ⟨range_of_block H7.out.2, range_of_block H7.out.1.ask⟩
  refine wp_noPanic ?_
  refine wp_region_held_drew (S := fun w' => w'.rangeAt g 0 L2 ∧ w'.rangeAt (w.heap.size + 2) 0 [.int .i64 k1, .int .i64 k2, .int .i64 k3, .int .i64 k4, .int .i64 k5, .int .i64 k6, .int .i64 k7]) (by kernel_rfl) hS0 (fun hHeld => ?_)
  clear hS0
  refine held_long 0 94 _ g 0 L2 _ rfl rfl (by kernel_rfl) (by kernel_rfl) (by kernel_rfl) (fun _ _ _ h => h) (by rfl) rfl Tryz.underlying94 rfl (info94 hL2) (fun _ h => h.1) (by assumption) ?_
  simp only [Act.put, pt1, pt2, pt3]
  refine held_long 1 217 _ (w.heap.size + 2) 0 _ _ rfl rfl (by kernel_rfl) (by kernel_rfl) (by kernel_rfl) (fun _ _ _ h => h) (by rfl) rfl Tryz.underlying217 rfl (by kernel_rfl) (fun _ h => h.2) (by assumption) ?_
  simp only [Act.put, pt1, pt2, pt3]
  have z1 := setRow_other w7.drew (w.heap.size + 1) (w.heap.size + 2) L2.toArray (by omega)
  have z2 := setRow_other w7.drew (w.heap.size + 1) g L2.toArray (by omega)
  refine held_store 2 94 _ _ (w.heap.size + 1) L2.toArray zeroCpu 94 rfl rfl (by kernel_rfl) (by rfl) rfl rfl H7.out.1.out (info94 hL2) (by simp [hL2, zeroCpu]) h2 ⟨range_keep hHeld.1 z2, range_keep hHeld.2 z1⟩ ?_
  have z3 := setRow_other (w7.drew.setRow (w.heap.size + 1) L2.toArray) (w.heap.size + 2) g (askC k1 k2 k3 k4 k5 k6 k7) (by omega)
  have hG : ((w7.drew.setRow (w.heap.size + 1) L2.toArray).setRow (w.heap.size + 2) (askC k1 k2 k3 k4 k5 k6 k7)).heap[w.heap.size + 2]? = some (.cells (askC k1 k2 k3 k4 k5 k6 k7) 217 (0, 0)) :=
    setRow_heap _ _ _ _ _ _ (z1.trans H7.out.1.ask)
  refine held_store 3 217 _ _ (w.heap.size + 2) (askC k1 k2 k3 k4 k5 k6 k7) _ 217 rfl rfl (by kernel_rfl) (by rfl) rfl rfl (z1.trans H7.out.1.ask) (by kernel_rfl) rfl (askC_one _ _ _ _ _ _ _) ⟨range_keep (range_keep hHeld.1 z2) z3, range_of_block hG⟩ ?_
  refine held_done (by kernel_rfl) ?_
  have hF : ((w7.drew.setRow (w.heap.size + 1) L2.toArray).setRow (w.heap.size + 2) (askC k1 k2 k3 k4 k5 k6 k7)).heap[w.heap.size + 1]? = some (.cells L2.toArray 94 (0, 0)) :=
    (setRow_other _ _ _ _ (by omega)).trans (setRow_heap _ _ _ _ _ _ H7.out.1.out)
  have hB : Below w.heap.size w ((w7.drew.setRow (w.heap.size + 1) L2.toArray).setRow (w.heap.size + 2) (askC k1 k2 k3 k4 k5 k6 k7)) := below_setRow' (below_setRow' H7.out.1.below.drew (by omega) _) (by omega) _
  generalize (w7.drew.setRow (w.heap.size + 1) L2.toArray).setRow (w.heap.size + 2) (askC k1 k2 k3 k4 k5 k6 k7) = z at *
  have HF := Lib.hid (And.intro hF (And.intro hG hB))
  clear hF hG hB z1 z2 z3 hHeld
  rw [noPanic_normal]
  go_wp2_with fail
  refine leaves_cons (f := 155) (args := #[.pointer (some ⟨w.heap.size, 0, none⟩), .pointer (some ⟨w.heap.size + 1, 0, none⟩), .pointer (some ⟨w.heap.size + 1 + 1, 0, none⟩)]) (by simp) (by simp [go_sem]) ?_
  refine (step1_idle _ _ _ z).mono ?_
  rintro e u' w8 ⟨rfl, rfl, rfl⟩
  exact ⟨_, results_cell_cell rfl _ _ (w.heap.size + 1) (w.heap.size + 2) 94 217 L2.toArray (askC k1 k2 k3 k4 k5 k6 k7) (0, 0) (0, 0) _ _ rfl HF.out.1 Tryz.underlying94 rfl (info94 hL2) rfl HF.out.2.1 Tryz.underlying217 rfl (by kernel_rfl), rfl, HF.out.2.2⟩
end Go.Proofs.YteflpdhgojcmcaaGreatDoor
