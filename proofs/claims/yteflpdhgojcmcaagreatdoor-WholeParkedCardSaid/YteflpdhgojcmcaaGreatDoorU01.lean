/- What a call may change: the blocks of a footprint, and new ones; rows of cells in blocks. One operation after the other in a region that draws its order: a load of many cells, whatever yields, a call or a store. One operation after the other in a region that draws its order, where what is held need not hold behind one operation that waits for the others. H2's laws with what is closed filled in. No conditions but those that each theorem names. -/
import Derived.WalkKit
import Derived.WalkSpells
import Derived.WalkLawsBesides
import Derived.Lib.Hide
import Derived.Laws.Rows
import Derived.Laws.AppendOwn
import Derived.Deep.MidRow
import Derived.Test.YteflpdhgojcmcaaGreatDoorProg
import Derived.Deep.RegionHeld3
namespace Go.Proofs.YteflpdhgojcmcaaGreatDoor
/-- Short names for the laws of a list's cell that is put anew (the walks name them at each step). -/
theorem pt1 {α : Type} (l : List α) (i : Nat) (a : α) : l.toArray.setIfInBounds i a = (l.set i a).toArray := List.setIfInBounds_toArray l i a
theorem pt2 {α : Type} {a : α} {l : List α} {b : α} : (a :: l).set 0 b = b :: l := rfl
theorem pt3 {α : Type} {a : α} {l : List α} {n : Nat} {b : α} : (a :: l).set (n + 1) b = a :: l.set n b := rfl
open Go.RowKit
/-- Nothing but blocks of a footprint, and new ones, is another. -/
structure Chg (F : Nat → Prop) (w w' : World) : Prop where
  os : w'.os = w.os
  tape : w'.tape = w.tape
  output : w'.output = w.output
  size : w.heap.size ≤ w'.heap.size
  block : ∀ k, k < w.heap.size → ¬ F k → w'.heap[k]? = w.heap[k]?
theorem Chg.refl (F : Nat → Prop) (w : World) : Chg F w w := ⟨rfl, rfl, rfl, Nat.le_refl _, fun _ _ _ => rfl⟩
theorem Chg.trans {F G : Nat → Prop} {a b c : World} (h : Chg F a b) (k : Chg G b c) (hG : ∀ i, G i → F i ∨ a.heap.size ≤ i) : Chg F a c :=
  ⟨k.os.trans h.os, k.tape.trans h.tape, k.output.trans h.output, Nat.le_trans h.size k.size, fun i hi hn =>
    (k.block i (Nat.lt_of_lt_of_le hi h.size) (fun g => (hG i g).elim hn (by omega))).trans (h.block i hi hn)⟩
theorem Chg.below {F : Nat → Prop} {a b c : World} (h : Chg F a b) {B : Nat} (k : Below B b c) (hB : a.heap.size ≤ B) : Chg F a c :=
  ⟨k.os.trans h.os, k.tape.trans h.tape, k.output.trans h.output, Nat.le_trans h.size k.size, fun i hi hn => (k.block i (by omega)).trans (h.block i hi hn)⟩
theorem Chg.of_below {F : Nat → Prop} {a b : World} (k : Below a.heap.size a b) : Chg F a b := (Chg.refl F a).below k (Nat.le_refl _)
theorem Chg.setCell {F : Nat → Prop} {a b : World} (h : Chg F a b) {p : Addr} (hp : F p.block ∨ a.heap.size ≤ p.block) (u : Value) : Chg F a (b.setCell p u) :=
  ⟨h.os, h.tape, h.output, by have := h.size; simpa [World.setCell] using this, fun i hi hn => (Below.heap_setCell _ _ _ _ (fun e : i = p.block => hp.elim (fun f => hn (e ▸ f)) (by omega))).trans (h.block i hi hn)⟩
theorem Chg.setRow {F : Nat → Prop} {a b : World} (h : Chg F a b) {g : Nat} (hp : F g ∨ a.heap.size ≤ g) (cs : Array Value) : Chg F a (b.setRow g cs) :=
  ⟨h.os, h.tape, h.output, by have := h.size; simpa [World.setRow] using this, fun i hi hn => (setRow_other b g i cs (fun e : i = g => hp.elim (fun f => hn (e ▸ f)) (by omega))).trans (h.block i hi hn)⟩
theorem Chg.alloc {F : Nat → Prop} {a b : World} (h : Chg F a b) (o : Obj) : Chg F a (b.alloc o) :=
  ⟨h.os, h.tape, h.output, by have := h.size; simp; omega, fun i hi hn => (Below.heap_alloc _ _ _ (by have := h.size; omega)).trans (h.block i hi hn)⟩
theorem Chg.drew {F : Nat → Prop} {a b : World} (h : Chg F a b) : Chg F a b.drew := ⟨h.os, h.tape, h.output, h.size, h.block⟩
theorem Chg.grown {F : Nat → Prop} {a b c : World} {row : Option Nat} (h : Chg F a b) (hg : b.grownBy c row) (hr : ∀ k, row = some k → F k ∨ a.heap.size ≤ k) : Chg F a c :=
  ⟨hg.os.trans h.os, hg.tape.trans h.tape, hg.output.trans h.output, Nat.le_trans h.size hg.size, fun i hi hn =>
    (hg.block i (by have := h.size; omega) (fun e => (hr i e.symm).elim hn (by omega))).trans (h.block i hi hn)⟩
theorem Chg.to_below {F : Nat → Prop} {a b : World} (h : Chg F a b) {B : Nat} (hB : B ≤ a.heap.size) (hF : ∀ i, F i → B ≤ i) : Below B a b :=
  ⟨h.os, h.tape, h.output, h.size, fun i hi => h.block i (by omega) (fun f => by have := hF i f; omega)⟩
theorem Chg.weak {F G : Nat → Prop} {a b : World} (h : Chg F a b) (hG : ∀ i, F i → G i ∨ a.heap.size ≤ i) : Chg G a b :=
  (Chg.refl G a).trans h hG
theorem Chg.cell {F : Nat → Prop} {a b : World} (h : Chg F a b) {p : Addr} (hp : p.block < a.heap.size) (hn : ¬ F p.block) : b.cell? p = a.cell? p := World.cell?_of_block (h.block _ hp hn)
theorem Chg.frozen {F : Nat → Prop} {a b : World} (h : Chg F a b) {p : Addr} (hp : p.block < a.heap.size) (hn : ¬ F p.block) : b.frozen? p = a.frozen? p := World.frozen?_of_block (h.block _ hp hn)
theorem new_cell (w : World) (cs : Array Value) (t j : Nat) : (w.alloc (.cells cs t)).cell? ⟨w.heap.size, j, none⟩ = cs[j]? := cell_of_row _ _ _ _ _ _ (Go.heap_alloc_new w _)
theorem block_lt {w : World} {g : Nat} {o : Obj} (h : w.heap[g]? = some o) : g < w.heap.size := (Array.getElem?_eq_some_iff.1 h).1
/-- The first index below n of which p holds; -1: there is none. -/
def IdxOf (p : Nat → Bool) (n : Nat) (r : Int) : Prop := (r = -1 ∧ ∀ i, i < n → p i = false) ∨ ∃ j : Nat, j < n ∧ r = j ∧ p j = true ∧ ∀ i, i < j → p i = false
def anyB (p : Nat → Bool) (n : Nat) : Bool := (List.range n).any p
theorem IdxOf.any {p : Nat → Bool} {n : Nat} {r : Int} (h : IdxOf p n r) : decide (0 ≤ r) = anyB p n := by
  rcases h with ⟨rfl, h⟩ | ⟨j, hj, rfl, hp, _⟩
  · have : anyB p n = false := by
      unfold anyB
      rw [List.any_eq_false]
      intro i hi
      rw [h i (by simpa using hi)]
      decide
    rw [this]; rfl
  · have : anyB p n = true := by
      unfold anyB
      rw [List.any_eq_true]
      exact ⟨j, by simpa using hj, hp⟩
    rw [this]; simp
end Go.Proofs.YteflpdhgojcmcaaGreatDoor
namespace Go.Proofs.YteflpdhgojcmcaaGreatDoor
open Go.RowKit
/-- The operation at a place of a list. -/
def nth : List Oper → Nat → Option Oper
  | [], _ => none
  | o :: _, 0 => some o
  | _ :: l, i + 1 => nth l i
theorem nth_spec : ∀ (l : List Oper) (i : Nat) (o : Oper), nth l i = some o → l.toArray[i]? = some o
  | [], _, _, h => by cases h
  | _ :: _, 0, _, h => by simpa [nth] using h
  | _ :: l, i + 1, o, h => by
      have := nth_spec l i o h
      simpa using this
section
variable {l : List Oper} {Q : Exit → Act → World → Prop} {md : Region.Mode} {S : World → Prop}
theorem held_do (i : Nat) {oi : Oper} {v : Value} {fuel : Nat} {listed : Array Bool} {a : Act} {w : World} (hi : nth l i = some oi)
    (hs : Region.noSelect l.toArray = true) (hf : Region.free md l.toArray listed i = true) (hr : (Region.ready md l.toArray listed).contains i = true)
    (hQ : ∀ c a w, Q (.panic c) (a.put oi.dst v) w → Q (.panic c) a w) (hw : Region.wanted oi (yielded l.toArray a.tmps) = true) (hS : S w)
    (hy : ∀ w, S w → (execOp a.eval oi).run Tryz.prog w = .ok (.value v) w)
    (h : wpAnyH Tryz.prog md l.toArray Q S fuel (listed.setIfInBounds i true) (a.put oi.dst v) w) : wpAnyH Tryz.prog md l.toArray Q S (fuel + 1) listed a w :=
  wpAnyH_take (nth_spec l i oi hi) hs hf hr hQ (Or.inl ⟨hw, hy⟩) hS h
theorem held_long (i : Nat) {oi : Oper} (ty : TypeId) (x : Operand) (b o : Nat) (cs : List Value) (d : TypeDesc) {fuel : Nat} {listed : Array Bool} {a : Act} {w : World} (hi : nth l i = some oi) (ho : oi.op = .load ty x)
    (hs : Region.noSelect l.toArray = true) (hf : Region.free md l.toArray listed i = true) (hr : (Region.ready md l.toArray listed).contains i = true)
    (hQ : ∀ c a w, Q (.panic c) (a.put oi.dst (.agg cs.toArray)) w → Q (.panic c) a w) (hw : Region.wanted oi (yielded l.toArray a.tmps) = true)
    (hx : a.eval x = .pointer (some ⟨b, o, none⟩)) (hu : Tryz.prog.underlying ty = some d) (hd : d.isRow = true) (hz : (Tryz.prog.info? ty).map (·.size) = some cs.length) (hg : ∀ w, S w → w.rangeAt b o cs) (hS : S w)
    (h : wpAnyH Tryz.prog md l.toArray Q S fuel (listed.setIfInBounds i true) (a.put oi.dst (.agg cs.toArray)) w) : wpAnyH Tryz.prog md l.toArray Q S (fuel + 1) listed a w :=
  wpAnyH_take (nth_spec l i oi hi) hs hf hr hQ (yieldsIf_load_mid hw ty x ho b o hx cs d hg hu hd hz) hS h
theorem held_call (i : Nat) {oi : Oper} {fuel : Nat} {listed : Array Bool} {a : Act} {w : World} (hi : nth l i = some oi) (hr : Region.ready md l.toArray listed = [i])
    (h : ∀ K' : Act → World → Prop, Shut (∀ a w, S w → (S w → wpAnyH Tryz.prog md l.toArray Q S fuel (listed.setIfInBounds i true) a w) → K' a w) → if Region.wanted oi (yielded l.toArray a.tmps) = true then Oper.wp Tryz.prog oi a w K' Q else K' (a.put oi.dst undef) w) :
    wpAnyH Tryz.prog md l.toArray Q S (fuel + 1) listed a w :=
  wpAnyH_ready hr (by simp) (AllReadyH.cons (nth_spec l i oi hi) h .nil)
theorem held_done {listed : Array Bool} {a : Act} {w : World} {fuel : Nat} (hr : Region.ready md l.toArray listed = []) (h : Q .normal a w) : wpAnyH Tryz.prog md l.toArray Q S fuel listed a w := wpAnyH_done hr h fuel
/-- A store of a whole struct or array into a block of its own, its turn come. -/
theorem held_store (i : Nat) {oi : Oper} {fuel : Nat} {listed : Array Bool} {a : Act} {w : World} (ty : TypeId) (x y : Operand) (g : Nat) (cells old : Array Value) (t : TypeId) (hi : nth l i = some oi) (ho : oi.op = .store ty x y)
    (hr : Region.ready md l.toArray listed = [i]) (hw : Region.wanted oi (yielded l.toArray a.tmps) = true)
    (hx : a.eval x = .pointer (some ⟨g, 0, none⟩)) (hy : a.eval y = .agg cells) (hg : w.heap[g]? = some (.cells old t (0, 0))) (hz : (Tryz.prog.info? ty).map (·.size) = some cells.size)
    (hold : old.size = cells.size) (h1 : cells.all (·.oneCell') = true) (hS : S (w.setRow g cells))
    (h : wpAnyH Tryz.prog md l.toArray Q S fuel (listed.setIfInBounds i true) (a.put oi.dst undef) (w.setRow g cells)) : wpAnyH Tryz.prog md l.toArray Q S (fuel + 1) listed a w :=
  held_call i hi hr fun K hK => by
    rw [if_pos hw]
    exact wp_store_row ty x y ho g cells hx hy t old hg hz hold h1 (hK _ _ hS fun _ => h)
end
theorem range_of_block {w : World} {g t : Nat} {L : List Value} (h : w.heap[g]? = some (.cells L.toArray t (0, 0))) : w.rangeAt g 0 L := fun j v hj => by
  rw [cell_of_row _ _ _ _ _ _ h]
  simpa using hj
theorem range_keep {w w' : World} {b o : Nat} {L : List Value} (h : w.rangeAt b o L) (e : w'.heap[b]? = w.heap[b]?) : w'.rangeAt b o L := fun j v hj =>
  (World.cell?_of_block (a := ⟨b, o + j, none⟩) e).trans (h j v hj)
end Go.Proofs.YteflpdhgojcmcaaGreatDoor
namespace Go.Proofs.YteflpdhgojcmcaaGreatDoor
open Go.RowKit
section
variable {P : Program} {ops : Array Oper} {Q : Exit → Act → World → Prop} {md : Region.Mode} {S : World → Prop} {z : Nat}
/-- Whatever order is picked from here on; S holds behind every operation that is carried out ahead of z. -/
def wpAnyZ (P : Program) (md : Region.Mode) (ops : Array Oper) (Q : Exit → Act → World → Prop) (S : World → Prop) (z : Nat) : Nat → Array Bool → Act → World → Prop
  | 0, listed, a, w => Region.ready md ops listed = [] ∧ Q .normal a w
  | fuel + 1, listed, a, w =>
    (Region.ready md ops listed = [] → Q .normal a w) ∧
    ∀ i ∈ Region.ready md ops listed, wpOp P ops Q i (fun a' w' => ((listed.setIfInBounds i true).getD z false = false → S w') ∧ wpAnyZ P md ops Q S z fuel (listed.setIfInBounds i true) a' w') a w
theorem wpAny_of_Z : ∀ (fuel : Nat) (listed : Array Bool) (a : Act) (w : World), wpAnyZ P md ops Q S z fuel listed a w → wpAny P md ops Q fuel listed a w
  | 0, _, _, _, h => h
  | fuel + 1, _, _, _, h => ⟨h.1, fun i hi => wpOp_mono (fun _ _ h' => wpAny_of_Z fuel _ _ _ h'.2) (h.2 i hi)⟩
/-- Does z wait for i? -/
def waitsFor (md : Region.Mode) (ops : Array Oper) (z i : Nat) : Bool := match ops[z]? with
  | some o => o.after.any fun e => Region.binds md e && e.on == i
  | none => false
theorem waitsFor_ready {i : Nat} {listed : Array Bool} (h : waitsFor md ops z i = true) (hz : z ∈ Region.ready md ops listed) : listed.getD i false = true := by
  obtain ⟨_, o, ho, hall⟩ := mem_ready.1 hz
  unfold waitsFor at h
  rw [ho] at h
  simp only [Array.any_eq_true', Bool.and_eq_true, beq_iff_eq] at h
  obtain ⟨e, he, hb, rfl⟩ := h
  exact hall e he hb
theorem getD_set_far {listed : Array Bool} {i z : Nat} (h : i ≠ z) : (listed.setIfInBounds i true).getD z false = listed.getD z false := by
  simp [Array.getElem?_setIfInBounds_ne h]
theorem wpAnyZ_first {i : Nat} {oi : Oper} {v : Value} (hi : ops[i]? = some oi) (hsel : ∀ (j : Nat) (o : Oper) cs b, ops[j]? = some o → o.op ≠ .select cs b)
    (hQ : ∀ c a w, Q (.panic c) (a.put oi.dst v) w → Q (.panic c) a w) (hz : waitsFor md ops z i = true) :
    ∀ (fuel : Nat) (listed : Array Bool) (a : Act) (w : World),
      (∀ j oj, ops[j]? = some oj → j ≠ i → listed.getD j true = false → (∀ e ∈ oj.after, Region.binds md e = true → e.on ≠ i) → oi.apart ops oj = true) →
      i ∈ Region.ready md ops listed → YieldsIf P ops S oi v a → S w → listed.getD z false = false →
      wpAnyZ P md ops Q S z fuel (listed.setIfInBounds i true) (a.put oi.dst v) w → wpAnyZ P md ops Q S z (fuel + 1) listed a w := by
  have notz : ∀ {listed : Array Bool} {j : Nat}, i ∈ Region.ready md ops listed → j ∈ Region.ready md ops listed → j ≠ z := by
    intro listed j hir hj e
    subst e
    have h1 := waitsFor_ready hz hj
    have h0 := (mem_ready.1 hir).1
    rcases Nat.lt_or_ge i listed.size with h' | h'
    · simp [h'] at h0 h1; rw [h0] at h1; cases h1
    · simp [Array.getElem?_eq_none h'] at h1
  intro fuel
  induction fuel with
  | zero =>
    intro listed a w _ hr hy hS _ H
    refine ⟨fun h => (by rw [h] at hr; cases hr), fun j hj => ?_⟩
    by_cases hji : j = i
    · subst hji; exact hy.wpOp hi hS ⟨fun _ => hS, H⟩
    · have := ready_mono hj hji
      rw [H.1] at this
      cases this
  | succ fuel ih =>
    intro listed a w hfree hr hy hS hlz H
    refine ⟨fun h => (by rw [h] at hr; cases hr), fun j hj => ?_⟩
    by_cases hji : j = i
    · subst hji; exact hy.wpOp hi hS ⟨fun _ => hS, H⟩
    · have h1 := H.2 j (ready_mono hj hji)
      have hjz := notz hr hj
      have hiz := notz hr hr
      obtain ⟨hjun, oj, hoj, hall⟩ := mem_ready.1 hj
      have hnot : ∀ e ∈ oj.after, Region.binds md e = true → e.on ≠ i := fun e he hb heq => by
        have h1 := hall e he hb
        have h0 := (mem_ready.1 hr).1
        rw [heq] at h1
        rcases Nat.lt_or_ge i listed.size with h' | h'
        · simp [h'] at h0 h1; rw [h0] at h1; cases h1
        · simp [Array.getElem?_eq_none h'] at h1
      have h2 := wpOp_putIf hoj (hfree j oj hoj hji hjun hnot) (fun cs b => hsel i oi cs b hi) (fun cs b => hsel j oj cs b hoj) hQ hy h1
      have hfree' : ∀ k ok, ops[k]? = some ok → k ≠ i → (listed.setIfInBounds j true).getD k true = false →
          (∀ e ∈ ok.after, Region.binds md e = true → e.on ≠ i) → oi.apart ops ok = true := fun k ok hk hki hun hno => by
        refine hfree k ok hk hki ?_ hno
        by_cases hjk : j = k
        · subst hjk; exact hjun
        · rw [getD_set_ne true hjk] at hun; exact hun
      have hz2 : ((listed.setIfInBounds i true).setIfInBounds j true).getD z false = false := by rw [getD_set_far hjz, getD_set_far hiz]; exact hlz
      refine wpOp_mono (fun a' w' h3 => ⟨fun _ => h3.2.1 hz2, ih (listed.setIfInBounds j true) a' w' hfree' (ready_mono hr (Ne.symm hji)) h3.1 (h3.2.1 hz2) (by rw [getD_set_far hjz]; exact hlz) ?_⟩) h2
      rw [Array.setIfInBounds_comm _ _ hji]
      exact h3.2.2
/-- What yields in whatever world may be taken first, whether z waits for it or not. -/
theorem wpAnyZ_pure {i : Nat} {oi : Oper} {v : Value} (hi : ops[i]? = some oi) (hsel : ∀ (j : Nat) (o : Oper) cs b, ops[j]? = some o → o.op ≠ .select cs b)
    (hQ : ∀ c a w, Q (.panic c) (a.put oi.dst v) w → Q (.panic c) a w) (hiz : i ≠ z) :
    ∀ (fuel : Nat) (listed : Array Bool) (a : Act) (w : World),
      (∀ j oj, ops[j]? = some oj → j ≠ i → listed.getD j true = false → (∀ e ∈ oj.after, Region.binds md e = true → e.on ≠ i) → oi.apart ops oj = true) →
      i ∈ Region.ready md ops listed → YieldsIf P ops (fun _ => True) oi v a → (listed.getD z false = false → S w) →
      wpAnyZ P md ops Q S z fuel (listed.setIfInBounds i true) (a.put oi.dst v) w → wpAnyZ P md ops Q S z (fuel + 1) listed a w := by
  intro fuel
  induction fuel with
  | zero =>
    intro listed a w _ hr hy hS H
    refine ⟨fun h => (by rw [h] at hr; cases hr), fun j hj => ?_⟩
    by_cases hji : j = i
    · subst hji; exact hy.wpOp hi trivial ⟨fun hz => hS (by rw [getD_set_far hiz] at hz; exact hz), H⟩
    · have := ready_mono hj hji
      rw [H.1] at this
      cases this
  | succ fuel ih =>
    intro listed a w hfree hr hy hS H
    refine ⟨fun h => (by rw [h] at hr; cases hr), fun j hj => ?_⟩
    by_cases hji : j = i
    · subst hji; exact hy.wpOp hi trivial ⟨fun hz => hS (by rw [getD_set_far hiz] at hz; exact hz), H⟩
    · have h1 := H.2 j (ready_mono hj hji)
      obtain ⟨hjun, oj, hoj, hall⟩ := mem_ready.1 hj
      have hnot : ∀ e ∈ oj.after, Region.binds md e = true → e.on ≠ i := fun e he hb heq => by
        have h1 := hall e he hb
        have h0 := (mem_ready.1 hr).1
        rw [heq] at h1
        rcases Nat.lt_or_ge i listed.size with h' | h'
        · simp [h'] at h0 h1; rw [h0] at h1; cases h1
        · simp [Array.getElem?_eq_none h'] at h1
      have h2 := wpOp_putIf hoj (hfree j oj hoj hji hjun hnot) (fun cs b => hsel i oi cs b hi) (fun cs b => hsel j oj cs b hoj) hQ hy h1
      have hfree' : ∀ k ok, ops[k]? = some ok → k ≠ i → (listed.setIfInBounds j true).getD k true = false →
          (∀ e ∈ ok.after, Region.binds md e = true → e.on ≠ i) → oi.apart ops ok = true := fun k ok hk hki hun hno => by
        refine hfree k ok hk hki ?_ hno
        by_cases hjk : j = k
        · subst hjk; exact hjun
        · rw [getD_set_ne true hjk] at hun; exact hun
      have hz2 : ∀ {b : Bool}, (listed.setIfInBounds j true).getD z false = b → ((listed.setIfInBounds i true).setIfInBounds j true).getD z false = b := by
        intro b hb
        rw [Array.setIfInBounds_comm _ _ (fun e => hji e.symm), getD_set_far hiz]
        exact hb
      refine wpOp_mono (fun a' w' h3 => ⟨fun hz => h3.2.1 (hz2 hz), ih (listed.setIfInBounds j true) a' w' hfree' (ready_mono hr (Ne.symm hji)) h3.1 (fun hz => h3.2.1 (hz2 hz)) ?_⟩) h2
      rw [Array.setIfInBounds_comm _ _ hji]
      exact h3.2.2
end
section
variable {l : List Oper} {Q : Exit → Act → World → Prop} {md : Region.Mode} {S : World → Prop} {z : Nat}
theorem zTake {i : Nat} {oi : Oper} {v : Value} {fuel : Nat} {listed : Array Bool} {a : Act} {w : World} (hi : nth l i = some oi) (hz : (waitsFor md l.toArray z i && !listed.getD z false) = true)
    (hs : Region.noSelect l.toArray = true) (hf : Region.free md l.toArray listed i = true) (hr : (Region.ready md l.toArray listed).contains i = true)
    (hQ : ∀ c a w, Q (.panic c) (a.put oi.dst v) w → Q (.panic c) a w) (hy : YieldsIf Tryz.prog l.toArray S oi v a) (hS : S w)
    (h : wpAnyZ Tryz.prog md l.toArray Q S z fuel (listed.setIfInBounds i true) (a.put oi.dst v) w) : wpAnyZ Tryz.prog md l.toArray Q S z (fuel + 1) listed a w :=
  wpAnyZ_first (nth_spec l i oi hi) (Region.noSelect_spec hs) hQ (Bool.and_eq_true_iff.1 hz).1 fuel listed a w (Region.free_spec (nth_spec l i oi hi) hf) (by simpa using hr) hy hS (by simpa using (Bool.and_eq_true_iff.1 hz).2) h
theorem zDo (i : Nat) {oi : Oper} {v : Value} {fuel : Nat} {listed : Array Bool} {a : Act} {w : World} (hi : nth l i = some oi) (hz : (waitsFor md l.toArray z i && !listed.getD z false) = true)
    (hs : Region.noSelect l.toArray = true) (hf : Region.free md l.toArray listed i = true) (hr : (Region.ready md l.toArray listed).contains i = true)
    (hQ : ∀ c a w, Q (.panic c) (a.put oi.dst v) w → Q (.panic c) a w) (hw : Region.wanted oi (yielded l.toArray a.tmps) = true) (hS : S w)
    (hy : ∀ w, S w → (execOp a.eval oi).run Tryz.prog w = .ok (.value v) w)
    (h : wpAnyZ Tryz.prog md l.toArray Q S z fuel (listed.setIfInBounds i true) (a.put oi.dst v) w) : wpAnyZ Tryz.prog md l.toArray Q S z (fuel + 1) listed a w :=
  zTake hi hz hs hf hr hQ (Or.inl ⟨hw, hy⟩) hS h
/-- What yields in whatever world. -/
theorem zPure (i : Nat) {oi : Oper} {v : Value} {fuel : Nat} {listed : Array Bool} {a : Act} {w : World} (hi : nth l i = some oi) (hz : decide (i ≠ z) = true)
    (hs : Region.noSelect l.toArray = true) (hf : Region.free md l.toArray listed i = true) (hr : (Region.ready md l.toArray listed).contains i = true)
    (hQ : ∀ c a w, Q (.panic c) (a.put oi.dst v) w → Q (.panic c) a w) (hw : Region.wanted oi (yielded l.toArray a.tmps) = true) (hS : S w)
    (hy : ∀ w, (execOp a.eval oi).run Tryz.prog w = .ok (.value v) w)
    (h : wpAnyZ Tryz.prog md l.toArray Q S z fuel (listed.setIfInBounds i true) (a.put oi.dst v) w) : wpAnyZ Tryz.prog md l.toArray Q S z (fuel + 1) listed a w :=
  wpAnyZ_pure (nth_spec l i oi hi) (Region.noSelect_spec hs) hQ (by simpa using hz) fuel listed a w (Region.free_spec (nth_spec l i oi hi) hf) (by simpa using hr) (Or.inl ⟨hw, fun w _ => hy w⟩) (fun _ => hS) h
theorem zLong (i : Nat) {oi : Oper} (ty : TypeId) (x : Operand) (b o : Nat) (cs : List Value) (d : TypeDesc) {fuel : Nat} {listed : Array Bool} {a : Act} {w : World} (hi : nth l i = some oi) (ho : oi.op = .load ty x) (hz : (waitsFor md l.toArray z i && !listed.getD z false) = true)
    (hs : Region.noSelect l.toArray = true) (hf : Region.free md l.toArray listed i = true) (hr : (Region.ready md l.toArray listed).contains i = true)
    (hQ : ∀ c a w, Q (.panic c) (a.put oi.dst (.agg cs.toArray)) w → Q (.panic c) a w) (hw : Region.wanted oi (yielded l.toArray a.tmps) = true)
    (hx : a.eval x = .pointer (some ⟨b, o, none⟩)) (hu : Tryz.prog.underlying ty = some d) (hd : d.isRow = true) (hsz : (Tryz.prog.info? ty).map (·.size) = some cs.length) (hg : ∀ w, S w → w.rangeAt b o cs) (hS : S w)
    (h : wpAnyZ Tryz.prog md l.toArray Q S z fuel (listed.setIfInBounds i true) (a.put oi.dst (.agg cs.toArray)) w) : wpAnyZ Tryz.prog md l.toArray Q S z (fuel + 1) listed a w :=
  zTake hi hz hs hf hr hQ (yieldsIf_load_mid hw ty x ho b o hx cs d hg hu hd hsz) hS h
/-- Each of some operations comes up next. -/
def AllZ (md : Region.Mode) (l : List Oper) (Q : Exit → Act → World → Prop) (S : World → Prop) (z : Nat) (fuel : Nat) (listed : Array Bool) (a : Act) (w : World) (rs : List Nat) : Prop :=
  ∀ i ∈ rs, wpOp Tryz.prog l.toArray Q i (fun a' w' => ((listed.setIfInBounds i true).getD z false = false → S w') ∧ wpAnyZ Tryz.prog md l.toArray Q S z fuel (listed.setIfInBounds i true) a' w') a w
theorem AllZ.nil {fuel : Nat} {listed : Array Bool} {a : Act} {w : World} : AllZ md l Q S z fuel listed a w [] := fun _ h => by cases h
theorem AllZ.cons {fuel : Nat} {listed : Array Bool} {a : Act} {w : World} (i : Nat) {o : Oper} {rs : List Nat} (ho : nth l i = some o)
    (h : ∀ K' : Act → World → Prop, Shut (∀ a w, S w → (S w → wpAnyZ Tryz.prog md l.toArray Q S z fuel (listed.setIfInBounds i true) a w) → K' a w) → if Region.wanted o (yielded l.toArray a.tmps) = true then Oper.wp Tryz.prog o a w K' Q else K' (a.put o.dst undef) w)
    (hs : AllZ md l Q S z fuel listed a w rs) : AllZ md l Q S z fuel listed a w (i :: rs) := fun j hj => by
  rcases List.mem_cons.1 hj with rfl | hj
  · exact wpOp_step (nth_spec l j o ho) (fun K' hK => h K' (fun a w hS hW => hK a w ⟨fun _ => hS, hW hS⟩))
  · exact hs j hj
theorem zReady {rs : List Nat} {fuel : Nat} {listed : Array Bool} {a : Act} {w : World} (hr : Region.ready md l.toArray listed = rs) (hne : rs ≠ [])
    (h : AllZ md l Q S z fuel listed a w rs) : wpAnyZ Tryz.prog md l.toArray Q S z (fuel + 1) listed a w := ⟨fun h0 => absurd (hr ▸ h0) hne, hr ▸ h⟩
theorem zCall (i : Nat) {oi : Oper} {fuel : Nat} {listed : Array Bool} {a : Act} {w : World} (hi : nth l i = some oi) (hr : Region.ready md l.toArray listed = [i])
    (h : ∀ K' : Act → World → Prop, Shut (∀ a w, S w → (S w → wpAnyZ Tryz.prog md l.toArray Q S z fuel (listed.setIfInBounds i true) a w) → K' a w) → if Region.wanted oi (yielded l.toArray a.tmps) = true then Oper.wp Tryz.prog oi a w K' Q else K' (a.put oi.dst undef) w) :
    wpAnyZ Tryz.prog md l.toArray Q S z (fuel + 1) listed a w := zReady hr (by simp) (AllZ.cons i hi h .nil)
/-- The one that need not keep what is held, its turn come: behind it nothing is left. -/
theorem zLast {oi : Oper} {fuel : Nat} {listed : Array Bool} {a : Act} {w : World} (hi : nth l z = some oi) (hr : Region.ready md l.toArray listed = [z]) (hr' : Region.ready md l.toArray (listed.setIfInBounds z true) = [])
    (h : ∀ K' : Act → World → Prop, Shut (∀ a w, Q .normal a w → K' a w) → if Region.wanted oi (yielded l.toArray a.tmps) = true then Oper.wp Tryz.prog oi a w K' Q else K' (a.put oi.dst undef) w) :
    wpAnyZ Tryz.prog md l.toArray Q S z (fuel + 1) listed a w := by
  refine zReady hr (by simp) fun j hj => ?_
  have hjz : j = z := by simpa using hj
  subst hjz
  exact wpOp_step (nth_spec l j oi hi) (fun K' hK => h K' (fun a w hQ => hK a w ⟨fun hn => by
    have hzs : j < l.toArray.size := (Array.getElem?_eq_some_iff.1 (nth_spec l j oi hi)).1
    have hun := (mem_ready.1 (show j ∈ Region.ready md l.toArray listed by rw [hr]; simp)).1
    rcases Nat.lt_or_ge j listed.size with h' | h'
    · simp [h'] at hn
    · simp [Array.getElem?_eq_none h'] at hun, by
    cases fuel with
    | zero => exact ⟨hr', hQ⟩
    | succ n => exact ⟨fun _ => hQ, by rw [hr']; simp⟩⟩))
theorem zDone {listed : Array Bool} {a : Act} {w : World} (hr : Region.ready md l.toArray listed = []) (h : Q .normal a w) :
    ∀ fuel, wpAnyZ Tryz.prog md l.toArray Q S z fuel listed a w
  | 0 => ⟨hr, h⟩
  | _ + 1 => ⟨fun _ => h, by rw [hr]; simp⟩
theorem zRegion (z : Nat) {id : Nat} {a : Act} {w : World} (hm : Tryz.prog.follows .mixedOrders = true) (hS : S w.drew)
    (h : S w.drew → wpAnyZ Tryz.prog .any l.toArray Q S z l.toArray.size (Array.replicate l.toArray.size false) a w.drew) : (Code.region id l.toArray true).wp Tryz.prog Q a w :=
  wp_region_any hm (wpAny_of_Z _ _ _ _ (h hS))
end
end Go.Proofs.YteflpdhgojcmcaaGreatDoor
namespace Go.Proofs.YteflpdhgojcmcaaGreatDoor
open Go.RowKit
section
variable {l : List Oper} {Q : Exit → Act → World → Prop} {md : Region.Mode} {S : World → Prop} {z : Nat}
theorem held_skip (i : Nat) {oi : Oper} {fuel : Nat} {listed : Array Bool} {a : Act} {w : World} (hi : nth l i = some oi)
    (hs : Region.noSelect l.toArray = true) (hf : Region.free md l.toArray listed i = true) (hr : (Region.ready md l.toArray listed).contains i = true)
    (hQ : ∀ c a w, Q (.panic c) (a.put oi.dst undef) w → Q (.panic c) a w) (hw : Region.wanted oi (yielded l.toArray a.tmps) = false) (hS : S w)
    (h : wpAnyH Tryz.prog md l.toArray Q S fuel (listed.setIfInBounds i true) (a.put oi.dst undef) w) : wpAnyH Tryz.prog md l.toArray Q S (fuel + 1) listed a w :=
  wpAnyH_take (nth_spec l i oi hi) hs hf hr hQ (Or.inr ⟨hw, rfl⟩) hS h
theorem zd (i : Nat) {oi : Oper} {v : Value} {fuel : Nat} {listed : Array Bool} {a : Act} {w : World}
    (hy : ∀ w, S w → (execOp a.eval oi).run Tryz.prog w = .ok (.value v) w)
    (h : wpAnyZ Tryz.prog md l.toArray Q S z fuel (listed.setIfInBounds i true) (a.put oi.dst v) w)
    (hi : nth l i = some oi := by rfl) (hz : (waitsFor md l.toArray z i && !listed.getD z false) = true := by kernel_rfl)
    (hs : Region.noSelect l.toArray = true := by kernel_rfl) (hf : Region.free md l.toArray listed i = true := by kernel_rfl) (hr : (Region.ready md l.toArray listed).contains i = true := by kernel_rfl)
    (hQ : ∀ c a w, Q (.panic c) (a.put oi.dst v) w → Q (.panic c) a w := by intro _ _ _ h; exact h) (hw : Region.wanted oi (yielded l.toArray a.tmps) = true := by rfl) (hS : S w := by assumption) : wpAnyZ Tryz.prog md l.toArray Q S z (fuel + 1) listed a w :=
  zDo i hi hz hs hf hr hQ hw hS hy h
theorem zp (i : Nat) {oi : Oper} {v : Value} {fuel : Nat} {listed : Array Bool} {a : Act} {w : World}
    (hy : ∀ w, (execOp a.eval oi).run Tryz.prog w = .ok (.value v) w)
    (h : wpAnyZ Tryz.prog md l.toArray Q S z fuel (listed.setIfInBounds i true) (a.put oi.dst v) w)
    (hi : nth l i = some oi := by rfl) (hz : decide (i ≠ z) = true := by kernel_rfl)
    (hs : Region.noSelect l.toArray = true := by kernel_rfl) (hf : Region.free md l.toArray listed i = true := by kernel_rfl) (hr : (Region.ready md l.toArray listed).contains i = true := by kernel_rfl)
    (hQ : ∀ c a w, Q (.panic c) (a.put oi.dst v) w → Q (.panic c) a w := by intro _ _ _ h; exact h) (hw : Region.wanted oi (yielded l.toArray a.tmps) = true := by rfl) (hS : S w := by assumption) : wpAnyZ Tryz.prog md l.toArray Q S z (fuel + 1) listed a w :=
  zPure i hi hz hs hf hr hQ hw hS hy h
theorem zcl (i : Nat) {oi : Oper} {fuel : Nat} {listed : Array Bool} {a : Act} {w : World}
    (h : ∀ K' : Act → World → Prop, Shut (∀ a w, S w → (S w → wpAnyZ Tryz.prog md l.toArray Q S z fuel (listed.setIfInBounds i true) a w) → K' a w) → if Region.wanted oi (yielded l.toArray a.tmps) = true then Oper.wp Tryz.prog oi a w K' Q else K' (a.put oi.dst undef) w)
    (hi : nth l i = some oi := by rfl) (hr : Region.ready md l.toArray listed = [i] := by kernel_rfl) : wpAnyZ Tryz.prog md l.toArray Q S z (fuel + 1) listed a w := zCall i hi hr h
theorem zla {oi : Oper} {fuel : Nat} {listed : Array Bool} {a : Act} {w : World}
    (h : ∀ K' : Act → World → Prop, Shut (∀ a w, Q .normal a w → K' a w) → if Region.wanted oi (yielded l.toArray a.tmps) = true then Oper.wp Tryz.prog oi a w K' Q else K' (a.put oi.dst undef) w)
    (hi : nth l z = some oi := by rfl) (hr : Region.ready md l.toArray listed = [z] := by kernel_rfl) (hr' : Region.ready md l.toArray (listed.setIfInBounds z true) = [] := by kernel_rfl) :
    wpAnyZ Tryz.prog md l.toArray Q S z (fuel + 1) listed a w := zLast hi hr hr' h
/-- The same by H1's laws: what is held holds all along. -/
theorem hd (i : Nat) {oi : Oper} {v : Value} {fuel : Nat} {listed : Array Bool} {a : Act} {w : World}
    (hy : ∀ w, S w → (execOp a.eval oi).run Tryz.prog w = .ok (.value v) w)
    (h : wpAnyH Tryz.prog md l.toArray Q S fuel (listed.setIfInBounds i true) (a.put oi.dst v) w)
    (hi : nth l i = some oi := by rfl)
    (hs : Region.noSelect l.toArray = true := by kernel_rfl) (hf : Region.free md l.toArray listed i = true := by kernel_rfl) (hr : (Region.ready md l.toArray listed).contains i = true := by kernel_rfl)
    (hQ : ∀ c a w, Q (.panic c) (a.put oi.dst v) w → Q (.panic c) a w := by intro _ _ _ h; exact h) (hw : Region.wanted oi (yielded l.toArray a.tmps) = true := by rfl) (hS : S w := by assumption) : wpAnyH Tryz.prog md l.toArray Q S (fuel + 1) listed a w :=
  held_do i hi hs hf hr hQ hw hS hy h
theorem hk (i : Nat) {oi : Oper} {fuel : Nat} {listed : Array Bool} {a : Act} {w : World}
    (h : wpAnyH Tryz.prog md l.toArray Q S fuel (listed.setIfInBounds i true) (a.put oi.dst undef) w)
    (hi : nth l i = some oi := by rfl)
    (hs : Region.noSelect l.toArray = true := by kernel_rfl) (hf : Region.free md l.toArray listed i = true := by kernel_rfl) (hr : (Region.ready md l.toArray listed).contains i = true := by kernel_rfl)
    (hQ : ∀ c a w, Q (.panic c) (a.put oi.dst undef) w → Q (.panic c) a w := by intro _ _ _ h; exact h) (hw : Region.wanted oi (yielded l.toArray a.tmps) = false := by rfl) (hS : S w := by assumption) : wpAnyH Tryz.prog md l.toArray Q S (fuel + 1) listed a w :=
  held_skip i hi hs hf hr hQ hw hS h
theorem hcl (i : Nat) {oi : Oper} {fuel : Nat} {listed : Array Bool} {a : Act} {w : World}
    (h : ∀ K' : Act → World → Prop, Shut (∀ a w, S w → (S w → wpAnyH Tryz.prog md l.toArray Q S fuel (listed.setIfInBounds i true) a w) → K' a w) → if Region.wanted oi (yielded l.toArray a.tmps) = true then Oper.wp Tryz.prog oi a w K' Q else K' (a.put oi.dst undef) w)
    (hi : nth l i = some oi := by rfl) (hr : Region.ready md l.toArray listed = [i] := by kernel_rfl) : wpAnyH Tryz.prog md l.toArray Q S (fuel + 1) listed a w := held_call i hi hr h
theorem hend {listed : Array Bool} {a : Act} {w : World} {fuel : Nat} (h : Q .normal a w) (hr : Region.ready md l.toArray listed = [] := by kernel_rfl) : wpAnyH Tryz.prog md l.toArray Q S fuel listed a w := held_done hr h
theorem hregion (S : World → Prop) {id : Nat} {a : Act} {w : World} (hS : S w.drew)
    (h : S w.drew → wpAnyH Tryz.prog .any l.toArray Q S l.toArray.size (Array.replicate l.toArray.size false) a w.drew) : (Code.region id l.toArray true).wp Tryz.prog Q a w :=
  wp_region_held_drew (S := S) (by kernel_rfl) hS h
end
end Go.Proofs.YteflpdhgojcmcaaGreatDoor
