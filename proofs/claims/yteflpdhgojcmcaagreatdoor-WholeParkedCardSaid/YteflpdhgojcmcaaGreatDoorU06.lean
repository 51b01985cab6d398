/- The walk of txn.Look, of a transaction without steps. maps.Values at steps of a transaction: its iterator, for every loop body. slices.AppendSeq and Collect, of a map's steps. No conditions but those that each theorem names. -/
import Derived.Test.YteflpdhgojcmcaaGreatDoorU01
import Derived.Test.YteflpdhgojcmcaaGreatDoorU05
import Derived.RangeFuncNested
import Derived.RangeFuncBound
import Derived.RangeFuncCalls
import Derived.RangeFuncLeaves
import Derived.Shelf.Abstract
import Derived.Shelf.RegionOpen
import Derived.OwnWalkIn
import Derived.TacticsInMore
import Derived.LoopNIn
import Derived.LoopIn
import Derived.Sort.EveryDepth
import Derived.Sort.MapsRangeIn
import Derived.Maps.AppendAt
namespace Go.Proofs.YteflpdhgojcmcaaGreatDoor
open Go.RowKit Go.Shelf
attribute [local go_sem] Oper.semAt_some
theorem backward1_nil_in (F : Fence) (n : Nat) (hF : F.fn 187) (hro : F.round = none) (l Bs : Nat) (a : Option Addr) (c : Nat) (J : List Empty → World → Prop) (W : World) (hBs : W.cell? ⟨Bs, 0, none⟩ = some (.slice a 0 c)) (h0 : J [] W) :
    CallsIn F n Tryz.prog 187 #[.func (.yield l) #[] #[], .pointer (some ⟨Bs, 0, none⟩)] W fun e W' => (∃ v, e = .returned v) ∧ J [] W' := by
  refine callsIn_of_wp Tryz.func187 rfl hF ?_ hro
  simp only [Tryz.ntmps187, List.size_toArray, List.length_cons, List.length_nil, Nat.reduceAdd, Nat.reduceSub, Array.replicate_succ, Array.replicate_zero, List.push_toArray, List.append_toArray, List.nil_append, List.cons_append]
  gi_wp2
  gi_loopw [3] (fun i wr => i = .int .i64 (-1) ∧ J [] wr) (fun _ _ => 0)
  case atStart => exact ⟨rfl, h0⟩
  case round =>
    obtain ⟨rfl, hJs⟩ := hrel
    gi_wp2
    go_end0
    exact ⟨⟨_, rfl⟩, hJs⟩
theorem backward1_stops (F : Fence) (n : Nat) (hF : F.fn 187) (hro : F.round = none) (Bs : Nat) (a : Option Addr) (c : Nat) (w : World) (hB : Bs < w.heap.size) (hBs : w.cell? ⟨Bs, 0, none⟩ = some (.slice a 0 c)) :
    SeqStopsK F n Tryz.prog 187 #[.pointer (some ⟨Bs, 0, none⟩)] (fun x : Empty => nomatch x) (fun _ _ => True) (fun xs => xs = []) (fun _ => False) 0 w := by
  intro l J Jx W hW hJ hJx hY h0
  exact (backward1_nil_in F n hF hro l Bs a c J W ((hW.cell (p := ⟨Bs, 0, none⟩) hB).trans hBs) h0).mono fun e W' h => ⟨h.1, .inl ⟨[], rfl, h.2⟩⟩
theorem backward_in (F : Fence) (n : Nat) (hF : F.fn 147) (hro : F.round = none) (a : Option Addr) (k c : Nat) (w : World) :
    CallsIn F n Tryz.prog 147 #[.slice a k c] w fun e w' => e = .returned (.func (.func 187) #[] #[.pointer (some ⟨w.heap.size, 0, none⟩)]) ∧ w' = w.alloc (.cells #[.slice a k c] 134) := by
  have hmf : ∀ (fn : Fn) (first cap : Array Value) (w : World), (Instr.makeFunc fn first cap).run Tryz.prog w = .ok (.func fn first cap) w := fun _ _ _ _ => rfl
  refine callsIn_of_wp Tryz.func147 rfl hF ?_ hro
  simp only [Tryz.ntmps147, List.size_toArray, List.length_cons, List.length_nil, Nat.reduceAdd, Nat.reduceSub, Array.replicate_succ, Array.replicate_zero, List.push_toArray, List.append_toArray, List.nil_append, List.cons_append]
  gi_wp2
  go_ret
  exact ⟨rfl, rfl⟩
def aggD : TypeDesc → Bool | .struct _ | .array _ _ => true | _ => false
theorem desc_of {P : Program} {t : TypeId} {b : Bool} (h : (P.underlying t).map aggD = some b) : ∃ d, P.underlying t = some d ∧ (match d with | .struct _ | .array _ _ => true | _ => false) = b := by
  cases hu : P.underlying t with
  | none => rw [hu] at h; cases h
  | some d =>
    refine ⟨d, rfl, ?_⟩
    rw [hu] at h
    have := Option.some.inj h
    rw [← this]
    cases d <;> rfl
/-- Two results: the first in a block, the second in one cell. -/
theorem results_row_cell {P : Program} {fn : Func} {p q : Tmp} {ty tz : TypeId} (h : fn.results = #[.cell p ty, .cell q tz]) (tmps : Array Value) (w : World) (g k : Nat) (t : TypeId) (cs : Array Value) (fr : Nat × Nat) (v : Value)
    (hp : tmps.getD p undef = .pointer (some ⟨g, 0, none⟩)) (hg : w.heap[g]? = some (.cells cs t fr)) (hu : (P.underlying ty).map aggD = some true) (hi : (P.info? ty).map (·.size) = some cs.size)
    (hq : tmps.getD q undef = .pointer (some ⟨k, 0, none⟩)) (hk : w.cell? ⟨k, 0, none⟩ = some v) (hv : (P.underlying tz).map aggD = some false) :
    (results fn tmps).run P w = .ok (.tuple #[.agg cs, v]) w := by
  have hp' : tmps[p]?.getD undef = .pointer (some ⟨g, 0, none⟩) := by simpa using hp
  have hq' : tmps[q]?.getD undef = .pointer (some ⟨k, 0, none⟩) := by simpa using hq
  have h2 : (loadVar tz ⟨k, 0, none⟩).run P w = .ok v w := by
    obtain ⟨e, hv, he⟩ := desc_of hv
    have ha : (isAgg tz).run P w = .ok false w := by
      cases e <;> simp_all [isAgg, underlying, go_sem]
    simp [loadVar, Sem.run_bind, ha, Result.andThen, hk, go_sem]
  obtain ⟨d, hu, hd⟩ := desc_of hu
  have h1 : (loadVar ty ⟨g, 0, none⟩).run P w = .ok (.agg cs) w := run_loadVar_row w g t ty cs fr d hg hu (by cases d <;> simp_all) hi
  simp [results, h, hp', hq', asAddr, h1, h2]
set_option maxRecDepth 100000 in
theorem look_nil_in (F : Fence) (n : Nat) (h196 : F.fn 196) (h147 : F.fn 147) (h187 : F.fn 187) (hro : F.round = none) (hn : 3 ≤ n) (x : Int) (w : World) :
    CallsIn F n Tryz.prog 196 #[.slice none 0 0, .int .i64 x] w fun e w' => e = .returned (.tuple #[.agg #[.int .i64 0, .int .i64 0], .bool false]) ∧ Below w.heap.size w w' := by
  have h1 : 1 ≤ n := by omega
  refine callsIn_of_wp_marks Tryz.func196 rfl h196 ?_ hro
  simp only [Tryz.ntmps196, List.size_toArray, List.length_cons, List.length_nil, Nat.reduceAdd, Nat.reduceSub, Array.replicate_succ, Array.replicate_zero, List.push_toArray, List.append_toArray, List.nil_append, List.cons_append]
  gi_wp2_with (gi_at_call 147; refine (backward_in F (n - 1) h147 hro _ _ _ _).mono ?_; rintro e w' ⟨rfl, rfl⟩)
  obtain ⟨W0, hW0⟩ : ∃ W0, W0 = (((w.alloc (.cells #[.int .i64 x] 3)).alloc (.cells #[.int .i64 0, .int .i64 0] 53)).alloc (.cells #[.bool false] 4)).alloc (.cells #[.slice none 0 0] 134) := ⟨_, rfl⟩
  rw [← hW0]
  have hsz : W0.heap.size = w.heap.size + 1 + 1 + 1 + 1 := by rw [hW0]; simp
  have hbel : Below w.heap.size w W0 := by rw [hW0]; exact ((((Below.refl _ _).alloc (Nat.le_refl _) _).alloc (by simp) _).alloc (by simp; omega) _).alloc (by simp; omega) _
  have k4 : W0.heap[w.heap.size + 1]? = some (.cells #[.int .i64 0, .int .i64 0] 53) := by
    rw [hW0]
    refine (heap_alloc_old _ _ (by simp)).trans ((heap_alloc_old _ _ (by simp)).trans ?_)
    have := heap_alloc_new (w.alloc (.cells #[.int .i64 x] 3)) (.cells #[.int .i64 0, .int .i64 0] 53)
    simpa only [World.size_alloc] using this
  have k5 : W0.heap[w.heap.size + 1 + 1]? = some (.cells #[.bool false] 4) := by
    rw [hW0]
    refine (heap_alloc_old _ _ (by simp)).trans ?_
    have := heap_alloc_new ((w.alloc (.cells #[.int .i64 x] 3)).alloc (.cells #[.int .i64 0, .int .i64 0] 53)) (.cells #[.bool false] 4)
    simpa only [World.size_alloc] using this
  have kb : W0.cell? ⟨w.heap.size + 1 + 1 + 1, 0, none⟩ = some (.slice none 0 0) := by
    rw [hW0]
    have := heap_alloc_new (((w.alloc (.cells #[.int .i64 x] 3)).alloc (.cells #[.int .i64 0, .int .i64 0] 53)).alloc (.cells #[.bool false] 4)) (.cells #[.slice none 0 0] 134)
    simp only [World.size_alloc] at this
    exact cell_of_row _ _ _ _ _ _ this
  clear hW0
  refine wpIn_rangeFunc_ownF hro h1 (gf := 187) (lb := #[.pointer (some ⟨w.heap.size + 1 + 1 + 1, 0, none⟩)]) rfl h187 (enters_of Tryz.func187 (by kernel_rfl) rfl)
    (backward1_stops F (n - 1) h187 hro (w.heap.size + 1 + 1 + 1) none 0 W0 (by omega) kb) (fun _ _ => trivial) (fun _ _ _ _ _ _ _ _ => trivial) (Below.refl _ _) (fun x => nomatch x)
    (fun _ W => (W.heap[w.heap.size + 1]? = some (.cells #[.int .i64 0, .int .i64 0] 53) ∧ W.heap[w.heap.size + 1 + 1]? = some (.cells #[.bool false] 4)) ∧ Below w.heap.size w W)
    (fun _ _ _ => False)
    (OwnFrom.and (Own.from (fun s A B row hs hg hr => ⟨(grownBy_keeps_cells hg hr hs.1 rfl).trans hs.1, (grownBy_keeps_cells hg hr hs.2 rfl).trans hs.2⟩) _) (ownFrom_below (Nat.le_refl _) (by omega)))
    (fun _ _ _ _ _ hs _ _ => hs)
    ⟨⟨k4, k5⟩, hbel⟩
    (fun x => nomatch x) (fun _ x => nomatch x) (fun _ _ x => nomatch x) ?done ?stop
  case done =>
    rintro D ys W hD rfl ⟨⟨r4, r5⟩, hB⟩ hK
    have m0 := cell_of_row _ _ 0 _ _ _ r4
    have m1 := cell_of_row _ _ 1 _ _ _ r4
    have m2 := cell_of_row _ _ 0 _ _ _ r5
    have f0 := frozen_of_row _ _ 0 _ _ r4
    have f1 := frozen_of_row _ _ 1 _ _ r4
    have f2 := frozen_of_row _ _ 0 _ _ r5
    have R4 := Lib.hid r4
    have R5 := Lib.hid r5
    have RB := Lib.hid hB
    have RK := Lib.hid hK
    clear r4 r5 hB hK k4 k5 hbel
    have r4' : ∀ W3, W3 = (((W.setCell ⟨w.heap.size + 1, 0, none⟩ (.int .i64 0)).setCell ⟨w.heap.size + 1, 1, none⟩ (.int .i64 0)).setCell ⟨w.heap.size + 1 + 1, 0, none⟩ (.bool false)).drew → W3.heap[w.heap.size + 1]? = some (.cells #[.int .i64 0, .int .i64 0] 53) ∧ W3.heap[w.heap.size + 1 + 1]? = some (.cells #[.bool false] 4) ∧ W3.heap[D]? = some (Obj.deferred (some [])) ∧ Below w.heap.size w W3 := by
      rintro W3 rfl
      rw [heap_drew]
      refine ⟨?_, ?_, ?_, ?_⟩
      · exact (heap_setCell_other _ _ _ _ (by simp)).trans ((heap_setCell_same _ _ 1 _ _ _ (heap_setCell_same _ _ 0 _ _ _ R4.out)))
      · exact heap_setCell_same _ _ 0 _ _ _ ((heap_setCell_other _ _ _ _ (by simp)).trans ((heap_setCell_other _ _ _ _ (by simp)).trans R5.out))
      · exact (heap_setCell_other _ _ _ _ (by simp; omega)).trans ((heap_setCell_other _ _ _ _ (by simp; omega)).trans ((heap_setCell_other _ _ _ _ (by simp; omega)).trans RK.out))
      · exact (((RB.out.setCell (p := ⟨w.heap.size + 1, 0, none⟩) (by simp) _).setCell (p := ⟨w.heap.size + 1, 1, none⟩) (by simp) _).setCell (p := ⟨w.heap.size + 1 + 1, 0, none⟩) (by simp; omega) _).drew
    have R' := Lib.hid r4'
    clear r4'
    gi_wp2
    gi_region
    all_goals (rename_i hKr; refine hKr _ _ ?_; gi_wp2; revert R'; generalize (((W.setCell ⟨w.heap.size + 1, 0, none⟩ (.int .i64 0)).setCell ⟨w.heap.size + 1, 1, none⟩ (.int .i64 0)).setCell ⟨w.heap.size + 1 + 1, 0, none⟩ (.bool false)).drew = W3; intro R'; obtain ⟨q4, q5, qD, qB⟩ := R'.out W3 rfl)
    all_goals refine ⟨by simp, .inl ⟨_, _, rfl, run_takeDeferred qD, ?_⟩⟩
    all_goals
      refine ⟨_, results_row_cell rfl _ _ (w.heap.size + 1) (w.heap.size + 1 + 1) 53 #[.int .i64 0, .int .i64 0] (0, 0) (.bool false) rfl ((World.putObj_heap_other (by omega)).trans q4) (by kernel_rfl) (by kernel_rfl) rfl (cell_of_row _ _ 0 _ _ _ ((World.putObj_heap_other (by omega)).trans q5)) (by kernel_rfl), rfl, qB.trans (belowK_b (w := w) (Nat.le_refl _) _ D _ _ (by omega) qD rfl rfl)⟩
  case stop =>
    rintro D c pre W _ h _ _
    exact h.elim
theorem look_nil (x : Int) (w : World) : Calls Tryz.prog 196 #[.slice none 0 0, .int .i64 x] w fun e w' => e = .returned (.tuple #[.agg #[.int .i64 0, .int .i64 0], .bool false]) ∧ Below w.heap.size w w' :=
  calls_of_every_depth (L := [196, 147, 187]) (n := 3) fun D => look_nil_in (Fence.list [196, 147, 187] (some D)) 3 (by simp [Fence.list]) (by simp [Fence.list]) (by simp [Fence.list]) rfl (by omega) x w
end Go.Proofs.YteflpdhgojcmcaaGreatDoor
namespace Go.Proofs.YteflpdhgojcmcaaGreatDoor
open Go.RowKit Go.Shelf
open Go.ChangeMaps (setBlock)
attribute [local go_sem] Oper.semAt_some
section
variable {F : Fence} {n : Nat} {P : Program} (w : World) {ops : Array Oper} {rest : List Oper} {o : Oper} {a : Act} {Q : Exit → Act → World → Prop}
theorem wpListIn_range_raw (hg : o.guard = none) (m : Operand) (t : TypeId) (hop : o.op = Op.range t m) (k e : TypeId) (ht : P.underlying t = some (.map k e)) (b : Nat) (es : Array MapEntry) (clock : Nat)
    (hm : a.eval m = .map (some b)) (hb : w.heap[b]? = some (.map es clock))
    (hK : wpListIn F n P ops Q rest (a.put o.dst (.pointer (some ⟨w.heap.size, 0, none⟩))) (w.alloc (.mapIter (some b) clock #[] clock))) :
    wpListIn F n P ops Q (o :: rest) a w := by
  refine wpListIn_plain hg fun K' hK' => ?_
  have hrun := run_range_map (P := P) w t k e b es clock ht hb
  unfold Oper.wpIn
  refine ⟨?_, ?_⟩
  · simp [Oper.about, hop]
  · rw [Oper.semAt_plain F _ _ (by rw [hop]; intro c hc'; cases hc')]
    simp [execOp, hop, hm, hrun, Result.andThen]
    exact hK' _ _ hK
theorem wpListIn_next_raw (hg : o.guard = none) (it : Operand) (hop : o.op = Op.next it false) (r b since c0 : Nat) (seen : Array Nat) (es : Array MapEntry) (clock : Nat)
    (hit : a.eval it = .pointer (some ⟨r, 0, none⟩)) (hr : w.heap[r]? = some (.mapIter (some b) since seen c0)) (hb : w.heap[b]? = some (.map es clock)) (hold : ∀ x ∈ es.toList, x.born < since) (hsc : since ≤ c0)
    (hDone : (leftOf es seen).size = 0 → wpListIn F n P ops Q rest (a.put o.dst (.tuple #[.bool false])) w)
    (hMore : ∀ e ∈ (leftOf es seen).toList, ∀ w2, w2.heap[r]? = some (.mapIter (some b) since (seen.push e.born) clock) → w.grownBy w2 (some r) → wpListIn F n P ops Q rest (a.put o.dst (.tuple #[.bool true, e.key, e.val])) w2) :
    wpListIn F n P ops Q (o :: rest) a w := by
  refine wpListIn_plain hg fun K' hK' => ?_
  unfold Oper.wpIn
  refine ⟨by simp [Oper.about, hop], ?_⟩
  rw [Oper.semAt_plain F _ _ (by rw [hop]; intro c hc'; cases hc')]
  rcases run_next_at (P := P) w o.type r b since c0 seen es clock hr hb hold hsc with ⟨h0, hrun⟩ | ⟨e, he, w1, hal, hrun⟩
  · simp [execOp, hop, hit, hrun, Result.andThen]
    exact hK' _ _ (hDone h0)
  · simp [execOp, hop, hit, hrun, Result.andThen]
    have hr1 : w1.heap[r]? = some (.mapIter (some b) since seen c0) := by rcases hal with rfl | rfl <;> exact hr
    have hset := MapKept.heap_set (o' := .mapIter (some b) since (seen.push e.born) clock) hr1
    refine hK' _ _ (hMore e he _ hset.1 ?_)
    rcases hal with rfl | rfl <;> exact ⟨rfl, rfl, rfl, by simp [setBlock], fun i _ hi => hset.2 i (fun e1 => hi (by rw [e1]))⟩
theorem nodup_of_map {α β : Type} {f : α → β} : ∀ {l : List α}, (l.map f).Nodup → l.Nodup
  | [], _ => List.nodup_nil
  | a :: l, h => by
    rw [List.map_cons, List.nodup_cons] at h
    exact List.nodup_cons.2 ⟨fun ha => h.1 (List.mem_map.2 ⟨a, ha, rfl⟩), nodup_of_map h.2⟩
end
/-- An entry of a map. -/
abbrev Ent (es : Array MapEntry) := { e : MapEntry // e ∈ es.toList }
/-- What has come of a map's entries, with what was seen. -/
structure Came (es : Array MapEntry) (seen : Array Nat) (xs : List (Ent es)) : Prop where
  nodup : (xs.map (fun y : Ent es => y.1.born)).Nodup
  seen : ∀ x, seen.contains x = true ↔ x ∈ xs.map (fun y : Ent es => y.1.born)
theorem Came.start (es : Array MapEntry) : Came es #[] [] := ⟨by simp, by simp⟩
theorem Came.step {es : Array MapEntry} {seen : Array Nat} {xs : List (Ent es)} (h : Came es seen xs) {e : MapEntry} (he : e ∈ es.toList) (hs : seen.contains e.born = false) : Came es (seen.push e.born) (xs ++ [⟨e, he⟩]) := by
  have hn : e.born ∉ xs.map (fun y : Ent es => y.1.born) := fun hm => by rw [(h.seen _).2 hm] at hs; cases hs
  refine ⟨?_, fun x => ?_⟩
  · rw [List.map_append, List.nodup_append]
    refine ⟨h.nodup, by simp, ?_⟩
    intro a ha b hb
    simp at hb
    subst hb
    exact fun e => hn (e ▸ ha)
  · rw [contains_push, Bool.or_eq_true, h.seen, List.map_append, List.mem_append]
    simp
theorem Came.perm {es : Array MapEntry} {seen : Array Nat} {xs : List (Ent es)} (h : Came es seen xs) (hn : (es.toList.map (·.born)).Nodup) (h0 : (leftOf es seen).size = 0) : (xs.map (·.1)).Perm es.toList := by
  have hx : (xs.map (·.1)).Nodup := by
    have : (xs.map (fun y : Ent es => y.1.born)) = (xs.map (·.1)).map (·.born) := by simp
    exact nodup_of_map (this ▸ h.nodup)
  have he : es.toList.Nodup := nodup_of_map hn
  refine (List.perm_ext_iff_of_nodup hx he).2 fun e => ⟨fun hm => ?_, fun hm => ?_⟩
  · obtain ⟨y, _, rfl⟩ := List.mem_map.1 hm
    exact y.2
  · have := (h.seen _).1 (all_seen es seen h0 e hm)
    obtain ⟨y, hy, hb⟩ := List.mem_map.1 this
    have : y.1 = e := born_inj hn y.2 hm hb
    exact List.mem_map.2 ⟨y, hy, this⟩
theorem nodup_len {α : Type} [BEq α] [LawfulBEq α] : ∀ {l m : List α}, l.Nodup → (∀ x ∈ l, x ∈ m) → l.length ≤ m.length
  | [], _, _, _ => by simp
  | a :: l, m, h, hs => by
    obtain ⟨ha, hl⟩ := List.nodup_cons.1 h
    have hm := hs a (by simp)
    have := nodup_len (m := m.erase a) hl (fun x hx => (List.mem_erase_of_ne (fun e : x = a => ha (by rw [← e]; exact hx))).2 (hs x (by simp [hx])))
    rw [List.length_erase_of_mem hm] at this
    have := List.length_pos_of_mem hm
    simp
    omega
theorem Came.length {es : Array MapEntry} {seen : Array Nat} {xs : List (Ent es)} (h : Came es seen xs) {e : MapEntry} (he : e ∈ es.toList) (hs : seen.contains e.born = false) : xs.length < es.size := by
  have h1 := (h.step he hs).nodup
  have := nodup_len (m := es.toList.map (·.born)) h1 (fun x hx => by
    obtain ⟨y, _, rfl⟩ := List.mem_map.1 hx
    exact List.mem_map.2 ⟨y.1, y.2, rfl⟩)
  simp at this
  omega
theorem left_of {w : World} {b r : Nat} {es : Array MapEntry} {clock since c0 : Nat} {seen : Array Nat} (hb : w.heap[b]? = some (.map es clock)) (hr : w.heap[r]? = some (.mapIter (some b) since seen c0)) : w.rangeLeft b r = (leftOf es seen).size := by
  simp [World.rangeLeft, hb, hr]
/-- Steps as a map's entries. -/
def StepsIn (es : Array MapEntry) : Prop := ∀ e ∈ es.toList, ∃ s : StepM, e.val = .agg s.cells.toArray
set_option maxRecDepth 100000 in
set_option maxHeartbeats 1000000 in
theorem values205_in (F : Fence) (n : Nat) (h205 : F.fn 205) (hro : F.round = none) (hn : 1 ≤ n) (l Bm b : Nat) (es : Array MapEntry) (clock : Nat) (hnd : (es.toList.map (·.born)).Nodup) (hold : ∀ x ∈ es.toList, x.born < clock) (hst : StepsIn es)
    (J Jx : List (Ent es) → World → Prop)
    (hY : ∀ pre x W, J pre W → pre.length < es.size → YieldAt F (n - 1) Tryz.prog l #[x.1.val] W fun e W' =>
      (e = .returned (.bool true) ∧ J (pre ++ [x]) W' ∧ KeepsWalks W W') ∨ (e = .returned (.bool false) ∧ Jx (pre ++ [x]) W'))
    (W : World) (hJ : AbidesFrom W.heap.size J) (hm : W.cell? ⟨Bm, 0, none⟩ = some (.map (some b))) (hb : W.heap[b]? = some (.map es clock)) (h0 : J [] W) :
    CallsIn F n Tryz.prog 205 #[.func (.yield l) #[] #[], .pointer (some ⟨Bm, 0, none⟩)] W fun e W' => (∃ v, e = .returned v) ∧
      ((∃ xs, (xs.map (·.1)).Perm es.toList ∧ J xs W') ∨ (∃ pre, Jx pre W')) := by
  have hbl : b < W.heap.size := block_lt hb
  have HR := Lib.hid hb
  clear hb
  refine callsIn_of_wp Tryz.func205 rfl h205 ?_ hro
  simp only [Tryz.ntmps205, List.size_toArray, List.length_cons, List.length_nil, Nat.reduceAdd, Nat.reduceSub, Array.replicate_succ, Array.replicate_zero, List.push_toArray, List.append_toArray, List.nil_append, List.cons_append]
  gi_wp2_with (first
    | (gi_at_range; refine wpListIn_range_raw _ rfl _ 240 rfl 3 155 Tryz.underlying240 b es clock rfl HR.out ?_)
    | gi_in)
  have hrt : (W.alloc (.mapIter (some b) clock #[] clock)).heap[W.heap.size]? = some (.mapIter (some b) clock #[] clock) := heap_alloc_new _ _
  have hbt : (W.alloc (.mapIter (some b) clock #[] clock)).heap[b]? = some (.map es clock) := (heap_alloc_old _ _ hbl).trans HR.out
  have hJt := hJ [] W (W.alloc (.mapIter (some b) clock #[] clock)) none h0 (World.grownBy_alloc W _ none) (fun r e => by cases e)
  have HB := Lib.hid (And.intro hrt (And.intro hbt hJt))
  clear hrt hbt hJt
  go_frame
  gi_loopw [4] (fun _ wr => ∃ (seen : Array Nat) (c0 : Nat) (xs : List (Ent es)), wr.heap[W.heap.size]? = some (.mapIter (some b) clock seen c0) ∧ wr.heap[b]? = some (.map es clock) ∧ clock ≤ c0 ∧ Came es seen xs ∧ J xs wr)
    (fun _ wr => wr.rangeLeft b W.heap.size)
  case atStart =>
    exact ⟨_, _, [], HB.out.1, HB.out.2.1, Nat.le_refl _, Came.start es, HB.out.2.2⟩
  case round =>
    obtain ⟨seen, c0, xs, hr, hb, hc0, hC, hJs⟩ := hrel
    have HM := Lib.hid (left_of hb hr)
    have HRR := Lib.hid (And.intro hr hb)
    clear hr hb
    gi_wp2_with (first
      | (gi_at_next; refine wpListIn_next_raw _ rfl _ rfl W.heap.size b clock c0 seen es clock rfl HRR.out.1 HRR.out.2 hold hc0 ?_ ?_)
      | gi_in)
    · intro hz
      gi_wp2
      go_end0
      exact ⟨⟨_, rfl⟩, .inl ⟨xs, hC.perm hnd (by rw [hz]; rfl), hJs⟩⟩
    · intro e he w2 hr2 hgr
      have he := Array.mem_toList_iff.2 he
      obtain ⟨hem, hes⟩ := mem_left he
      have hJ2 : J xs w2 := hJ xs wr _ (some W.heap.size) hJs hgr (fun r e => by cases e; exact ⟨Nat.le_refl _, _, HRR.out.1, rfl⟩)
      have hb2 : w2.heap[b]? = some (.map es clock) := (hgr.block b (block_lt HRR.out.2) (by simp; omega)).trans HRR.out.2
      have hlt := left_shrinks es seen e he
      have hlen := hC.length hem hes
      have hC2 := hC.step hem hes
      have hen := run_entry_at (P := Tryz.prog) _ W.heap.size b clock seen es clock e hr2 hb2 hem hnd
      obtain ⟨s, hs⟩ := hst e hem
      rw [hs] at hen
      have hY2 := hY xs ⟨e, hem⟩
      simp only [hs] at hY2
      have HY := Lib.hid hY2
      have HR2 := Lib.hid (And.intro hr2 hb2)
      have hJ3 := hJ xs w2 (w2.alloc (.cells s.cells.toArray 155)) none hJ2 (World.grownBy_alloc w2 _ none) (fun r e => by cases e)
      have HJ3 := Lib.hid hJ3
      clear hJ2 hr2 hb2 hgr hs hY2 hJ3
      obtain ⟨sx, sk, sn, sw⟩ := s
      simp only [StepM.cells] at hen HY HJ3
      obtain ⟨fn, tmps, assign, body, hy, hR⟩ := HY.out _ HJ3.out hlen
      gi_wp2
      refine hR.mono ?_
      have hk0 : KeepsWalks w2 (w2.alloc (.cells #[.int .i64 sx, .int .i64 sk, .int .i64 sn, .bool sw] 155)) := KeepsWalks.alloc _ _
      rintro e3 W3 (⟨rfl, hJ4, hk3⟩ | ⟨rfl, hJx3⟩)
      · have hr3 := hk3.same _ _ (hk0.same _ _ HR2.out.1 rfl) rfl
        have hb3 := hk3.same _ _ (hk0.same _ _ HR2.out.2 rfl) rfl
        gi_wp2
        go_roundw
        case rel => exact ⟨_, clock, xs ++ [⟨e, hem⟩], hr3, hb3, Nat.le_refl _, hC2, hJ4⟩
        case measure => rw [left_of hb3 hr3, HM.out]; exact hlt
      · gi_wp2
        refine bodyPost_ret (results_none rfl _ _ _) rfl ?_
        exact ⟨⟨_, rfl⟩, .inr ⟨_, hJx3⟩⟩
theorem values205_stops (F : Fence) (n : Nat) (h205 : F.fn 205) (hro : F.round = none) (hn : 1 ≤ n) (Bm b : Nat) (es : Array MapEntry) (clock : Nat) (hnd : (es.toList.map (·.born)).Nodup) (hold : ∀ x ∈ es.toList, x.born < clock) (hst : StepsIn es) (w : World) (hBm : Bm < w.heap.size)
    (hm : w.cell? ⟨Bm, 0, none⟩ = some (.map (some b))) (hb : w.heap[b]? = some (.map es clock)) :
    SeqStopsK F n Tryz.prog 205 #[.pointer (some ⟨Bm, 0, none⟩)] (fun x : Ent es => #[x.1.val]) KeepsWalks (fun xs => (xs.map (·.1)).Perm es.toList) (fun _ => True) es.size w := by
  intro l J Jx W hW hJ _ hY h0
  refine (values205_in F n h205 hro hn l Bm b es clock hnd hold hst J Jx hY W hJ ((hW.cell (p := ⟨Bm, 0, none⟩) hBm).trans hm) ((hW.block _ (block_lt hb)).trans hb) h0).mono fun e W' h => ⟨h.1, ?_⟩
  rcases h.2 with h | ⟨pre, h⟩
  · exact .inl h
  · exact .inr ⟨pre, trivial, h⟩
end Go.Proofs.YteflpdhgojcmcaaGreatDoor
namespace Go.Proofs.YteflpdhgojcmcaaGreatDoor
open Go.RowKit Go.Shelf
attribute [local go_sem] Oper.semAt_some
/-- An entry's cells. -/
def entC {es : Array MapEntry} (x : Ent es) : List Value := match x.1.val with | .agg cs => cs.toList | _ => []
theorem entC_of {es : Array MapEntry} {x : Ent es} {s : StepM} (h : x.1.val = .agg s.cells.toArray) : entC x = s.cells := by simp [entC, h]
set_option maxRecDepth 100000 in
set_option maxHeartbeats 1000000 in
theorem append233 (F : Fence) (n : Nat) (h233 : F.fn 233) (h205 : F.fn 205) (hro : F.round = none) (hn : 3 ≤ n) (Bm b : Nat) (es : Array MapEntry) (clock : Nat) (hnd : (es.toList.map (·.born)).Nodup) (hold : ∀ x ∈ es.toList, x.born < clock) (hst : StepsIn es) (hN : es.size ≤ 1000) (w : World)
    (hm : w.cell? ⟨Bm, 0, none⟩ = some (.map (some b))) (hBm : Bm < w.heap.size) (hb : w.heap[b]? = some (.map es clock)) :
    CallsIn F n Tryz.prog 233 #[.slice none 0 0, .func (.func 205) #[] #[.pointer (some ⟨Bm, 0, none⟩)]] w fun e w' => ∃ (xs : List (Ent es)) (v : Value), (xs.map (·.1)).Perm es.toList ∧ e = .returned v ∧ w'.ownsRow w.heap.size 155 4 v xs.length (xs.flatMap entC) ∧ (v = .slice none 0 0 ↔ xs = []) ∧ Below w.heap.size w w' := by
  have h1 : 1 ≤ n := by omega
  obtain ⟨i0, z, hi, hz0, hz1, hz2, hz3⟩ := info_155
  refine callsIn_of_wp_marks Tryz.func233 rfl h233 ?_ hro
  simp only [Tryz.ntmps233, List.size_toArray, List.length_cons, List.length_nil, Nat.reduceAdd, Nat.reduceSub, Array.replicate_succ, Array.replicate_zero, List.push_toArray, List.append_toArray, List.nil_append, List.cons_append]
  gi_wp2
  have hB0 : Boxed (w.alloc (.cells #[.slice none 0 0] 40)) w.heap.size 40 (.slice none 0 0) := Boxed.new w 40 _
  have hsz : (w.alloc (.cells #[.slice none 0 0] 40)).heap.size = w.heap.size + 1 := by simp
  have hbel : Below w.heap.size w (w.alloc (.cells #[.slice none 0 0] 40)) := (Below.refl _ _).alloc (Nat.le_refl _) _
  have hm0 := (hbel.cell (p := ⟨Bm, 0, none⟩) hBm).trans hm
  have hb0 := (hbel.block _ (block_lt hb)).trans hb
  generalize w.alloc (.cells #[.slice none 0 0] 40) = W0 at *
  refine wpIn_rangeFunc_ownH hro h1 (gf := 205) (lb := #[.pointer (some ⟨Bm, 0, none⟩)]) rfl h205 (enters_of Tryz.func205 (by kernel_rfl) rfl)
    (values205_stops F (n - 1) h205 hro (by omega) Bm b es clock hnd hold hst W0 (by omega) hm0 hb0) walksK_t walksK_b (Below.refl _ _) (fun _ => rfl)
    (fun pre W => (∃ v, Boxed W w.heap.size 40 v ∧ W.ownsRow w.heap.size 155 4 v pre.length (pre.flatMap entC) ∧ (v = .slice none 0 0 ↔ pre = [])) ∧ Below w.heap.size w W)
    (fun _ _ _ => False)
    (OwnFrom.and (Own.from (holdsRow_own w.heap.size w.heap.size 40 155 4 (fun pre : List (Ent es) => pre.length) (fun pre => pre.flatMap entC) (fun pre v => v = .slice none 0 0 ↔ pre = [])) _) (ownFrom_below (Nat.le_refl _) (by omega)))
    (fun _ _ _ _ _ hs _ _ => hs)
    ⟨⟨_, hB0, ⟨rfl, .inl ⟨rfl, rfl⟩⟩, by simp⟩, hbel⟩
    (fun x a' W => ∃ (Bx : Nat) (s : StepM), x.1.val = .agg s.cells.toArray ∧ w.heap.size < Bx ∧ W.heap[Bx]? = some (.cells s.cells.toArray 155 (0, 0)) ∧ a' = { tmps := #[.slice none 0 0, .func (.func 205) #[] #[.pointer (some ⟨Bm, 0, none⟩)], .pointer (some ⟨w.heap.size, 0, none⟩), undef, .slice none 0 0, .pointer (some ⟨Bx, 0, none⟩), .func (.func 205) #[] #[.pointer (some ⟨Bm, 0, none⟩)], .agg s.cells.toArray, undef, undef, undef, undef, undef], defers := [] })
    (fun x a' _ X Y row hs hg hr => by obtain ⟨Bx, s, h1, h2, h3, h4⟩ := hs; exact ⟨Bx, s, h1, h2, (grownBy_keeps_cells hg (fun r e => (hr r e).2) h3 rfl).trans h3, h4⟩)
    ?assign ?body ?done ?stop
  case assign =>
    rintro l pre x W K ⟨⟨v, hv, hrow, hnil⟩, hB⟩ hK
    obtain ⟨s, hs⟩ := hst x.1 x.2
    rw [hs]
    have hlt := hv.lt
    have hk := hK { tmps := #[.slice none 0 0, .func (.func 205) #[] #[.pointer (some ⟨Bm, 0, none⟩)], .pointer (some ⟨w.heap.size, 0, none⟩), undef, .slice none 0 0, .pointer (some ⟨W.heap.size, 0, none⟩), .func (.func 205) #[] #[.pointer (some ⟨Bm, 0, none⟩)], .agg s.cells.toArray, undef, undef, undef, undef, undef], defers := [] } (W.alloc (.cells s.cells.toArray 155)) ((KeepsOthers.alloc _ _).from _) (KeepsWalks.alloc _ _) ⟨⟨v, hv.alloc _, hrow.alloc _, hnil⟩, hB.alloc hB.size _⟩ ⟨W.heap.size, s, hs, hlt, Go.heap_alloc_new _ _, rfl⟩
    have HK := Lib.hid hk
    clear hk hK hs hv hrow hnil hB
    obtain ⟨sx, sk, sn, sw⟩ := s
    simp only [StepM.cells] at HK ⊢
    gi_wp2
    exact HK.out
  case body =>
    rintro l pre x a' W hl ⟨r, hr⟩ ⟨⟨v, hv, hrow, hnil⟩, hB⟩ ⟨Bx, s, hs, hBx, hX, rfl⟩ hlt
    have hlen : pre.length ≤ 1000 := by omega
    have hcv := hv.cell
    have x0 := cell_of_row _ _ 0 _ _ _ hX
    have x1 := cell_of_row _ _ 1 _ _ _ hX
    have x2 := cell_of_row _ _ 2 _ _ _ hX
    have x3 := cell_of_row _ _ 3 _ _ _ hX
    have HV := Lib.hid hv
    have HRW := Lib.hid hrow
    have HBB := Lib.hid hB
    have HE := Lib.hid (entC_of hs)
    have hone := s.one
    have hsl := s.len
    clear hX hs hv hrow hB hr
    have hXX : ∃ cs, cs = s.cells := ⟨_, rfl⟩
    obtain ⟨sx, sk, sn, sw⟩ := s
    simp only [StepM.cells, List.getElem?_toArray, List.getElem?_cons_zero, List.getElem?_cons_succ] at x0 x1 x2 x3
    simp only [StepM.cells] at HE hone hsl ⊢
    gi_wp2_with (first
      | (gi_at_builtin; refine wpListIn_append_own _ rfl _ _ 40 rfl w.heap.size 155 i0 z 4 32 Tryz.underlying40 hi hz0 hz1 hz2 hz3 (by decide) v pre.length (pre.flatMap entC) rfl (HRW.out.alloc _) ⟨W.heap.size, 0, none⟩ 1 1 [.int .i64 sx, .int .i64 sk, .int .i64 sn, .bool sw] rfl rfl (by exact news_new W [.int .i64 sx, .int .i64 sk, .int .i64 sn, .bool sw] 155) hone (by unfold maxLen; omega) (by omega) (by have := HBB.out.size; simp; omega) ?_; intro v' w1 hown' hgrow _; obtain ⟨g', cap', rfl⟩ := ownsRow_succ hown'; obtain ⟨hv1, hv2, hr2, hk2, hb2⟩ := HV.out.appended (by decide) HRW.out HBB.out.size (Nat.le_refl _) hown' hgrow; have hc1 := hv1.cell; have hf1 := hv1.frozen; have HF := Lib.hid (And.intro hv2 (And.intro hr2 (And.intro hk2 hb2))); clear hv2 hr2 hk2 hb2 hv1 hown' hgrow)
      | gi_in)
    have hx2 : (pre ++ [x]).flatMap entC = pre.flatMap entC ++ [.int .i64 sx, .int .i64 sk, .int .i64 sn, .bool sw] := by rw [List.flatMap_append]; simp [HE.out]
    refine ⟨HF.out.2.2.1.from _, HF.out.2.2.1.walks, ⟨_, HF.out.1, ?_, by simp⟩, HBB.out.trans HF.out.2.2.2⟩
    rw [hx2, List.length_append]
    exact HF.out.2.1
  case done =>
    rintro D ys W hD hS ⟨⟨v, hv, hrow, hnil⟩, hB⟩ hK
    have hcv := hv.cell
    gi_wp2
    refine ⟨by simp, .inl ⟨_, _, rfl, run_takeDeferred hK, ?_⟩⟩
    exact ⟨_, results_tmp rfl _ _ _, ys, v, hS, rfl, ownsRow_putObj hrow _ hK rfl, hnil, hB.trans (belowK_b (w := w) (Nat.le_refl _) W D _ _ (by omega) hK rfl rfl)⟩
  case stop =>
    rintro D c pre W _ _ h _
    exact h.elim
set_option maxRecDepth 100000 in
theorem collect203 (F : Fence) (n : Nat) (h203 : F.fn 203) (h233 : F.fn 233) (h205 : F.fn 205) (hro : F.round = none) (hn : 4 ≤ n) (Bm b : Nat) (es : Array MapEntry) (clock : Nat) (hnd : (es.toList.map (·.born)).Nodup) (hold : ∀ x ∈ es.toList, x.born < clock) (hst : StepsIn es) (hN : es.size ≤ 1000) (w : World)
    (hm : w.cell? ⟨Bm, 0, none⟩ = some (.map (some b))) (hBm : Bm < w.heap.size) (hb : w.heap[b]? = some (.map es clock)) :
    CallsIn F n Tryz.prog 203 #[.func (.func 205) #[] #[.pointer (some ⟨Bm, 0, none⟩)]] w fun e w' => ∃ (xs : List (Ent es)) (v : Value), (xs.map (·.1)).Perm es.toList ∧ e = .returned v ∧ w'.ownsRow w.heap.size 155 4 v xs.length (xs.flatMap entC) ∧ (v = .slice none 0 0 ↔ xs = []) ∧ Below w.heap.size w w' := by
  have h1 : 1 ≤ n := by omega
  have hc := append233 F (n - 1) h233 h205 hro (by omega) Bm b es clock hnd hold hst hN w hm hBm hb
  have HC := Lib.hid hc
  clear hc hm hb hold hnd hst
  refine callsIn_of_wp Tryz.func203 rfl h203 ?_ hro
  simp only [Tryz.ntmps203, List.size_toArray, List.length_cons, List.length_nil, Nat.reduceAdd, Nat.reduceSub, Array.replicate_succ, Array.replicate_zero, List.push_toArray, List.append_toArray, List.nil_append, List.cons_append]
  gi_wp2_with (gi_at_call 233; refine (HC.out).mono ?_; rintro e w' ⟨xs, v, hp, rfl, hown, hnil, hB⟩; have HF := Lib.hid (And.intro hp (And.intro hown (And.intro hnil hB))); clear hp hown hnil hB)
  go_ret
  exact ⟨xs, v, HF.out.1, rfl, HF.out.2.1, HF.out.2.2.1, HF.out.2.2.2⟩
end Go.Proofs.YteflpdhgojcmcaaGreatDoor
