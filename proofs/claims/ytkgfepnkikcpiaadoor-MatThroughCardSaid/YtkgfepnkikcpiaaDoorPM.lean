/- The laws of graphs: what is reached by what is reached; the other way round; with an edge more; without a node. -/
import Derived.Test.YtkgfepnkikcpiaaDoorPG
import Derived.Test.YtkgfepnkikcpiaaDoorM5
namespace Go.Proofs.YtkgfepnkikcpiaaDoor.PM
open PSet PMat PWay

/-- A way of one edge or more. -/
def Way (f : Nat → Nat) (x j : Nat) : Prop := Path (f x) f j
theorem Way.edge {f : Nat → Nat} {x j : Nat} (h : (f x).testBit j = true) : Way f x j := .one h
theorem Way.on {f : Nat → Nat} {x i j : Nat} (p : Way f x i) (h : (f i).testBit j = true) : Way f x j := .step p h
theorem Way.trans {f : Nat → Nat} {x y j : Nat} (p : Way f x y) (q : Way f y j) : Way f x j := by
  unfold Way at q
  generalize hs : f y = s at q
  induction q with
  | one h => exact p.on (hs ▸ h)
  | step _ h ih => exact Way.on ih h
theorem Way.mono {f g : Nat → Nat} (h : ∀ a j, (f a).testBit j = true → (g a).testBit j = true) {x j : Nat} (p : Way f x j) : Way g x j := by
  unfold Way at p
  generalize hs : f x = s at p
  induction p with
  | one k => exact .edge (h _ _ (hs ▸ k))
  | step _ k ih => exact Way.on ih (h _ _ k)
theorem Way.turn {f g : Nat → Nat} (h : ∀ a b, (f b).testBit a = true → (g a).testBit b = true) {b a : Nat} (p : Way f b a) : Way g a b := by
  unfold Way at p
  generalize hs : f b = s at p
  induction p with
  | one k => exact .edge (h _ _ (hs ▸ k))
  | step _ k ih => exact Way.trans (.edge (h _ _ k)) ih
theorem Way.first {f : Nat → Nat} {x j : Nat} (p : Way f x j) : (f x).testBit j = true ∨ ∃ i, (f x).testBit i = true ∧ Way f i j := by
  unfold Way at p
  generalize hs : f x = s at p
  induction p with
  | one k => exact .inl k
  | @step i j _ k ih =>
    rcases ih with h | ⟨n, h, q⟩
    · exact .inr ⟨i, h, .edge k⟩
    · exact .inr ⟨n, h, Way.on q k⟩

def E (m : List Nat) (i : Nat) : Nat := outsN m (i : Int)
def F (m : List Nat) (i : Nat) : Nat := insN m (i : Int)
theorem E_lt {m : List Nat} {i j : Nat} (h : (E m i).testBit j = true) : i < 32 ∧ j < 32 := by
  unfold E at h
  rw [testBit_outsN] at h
  unfold nodeB at h
  simp at h
  omega
theorem nodeB_nat (i : Nat) : nodeB (i : Int) = decide (i < 32) := by
  unfold nodeB
  rw [Bool.eq_iff_iff]
  simp only [decide_eq_true_eq]
  omega
theorem EF (m : List Nat) (a b : Nat) : (F m b).testBit a = (E m a).testBit b := by
  unfold E F
  rw [testBit_insN, testBit_outsN]
  rw [nodeB_nat, nodeB_nat]
  by_cases ha : a < 32 <;> by_cases hb : b < 32
  · rw [hasB_nat _ _ (by omega)]
    simp [ha, hb, at_]
  all_goals simp [ha, hb]
theorem Way.to_lt {m : List Nat} {x j : Nat} (p : Way (E m) x j) : j < 32 := by
  cases p with
  | one h => exact (E_lt h).2
  | step _ h => exact (E_lt h).2
theorem reach_bit (m : List Nat) (x j : Nat) : (reachN m (x : Int)).testBit j = true ↔ Way (E m) x j := by
  unfold reachN pathN
  constructor
  · intro h
    exact (testBit_setOf _ j (lt_of_testBit (setOf_lt _) h)).1 h
  · intro h
    exact (testBit_setOf _ j (by have := Way.to_lt h; omega)).2 h
theorem back_bit (m : List Nat) (x j : Nat) : (backN m (x : Int)).testBit j = true ↔ Way (E m) j x := by
  have hF : ∀ {x j : Nat}, Way (F m) x j → j < 32 := by
    intro x j p
    cases p with
    | one h => rw [EF] at h; exact (E_lt h).1
    | step _ h => rw [EF] at h; exact (E_lt h).1
  have ht : Way (F m) x j ↔ Way (E m) j x := ⟨fun p => p.turn fun a b h => by rwa [EF] at h, fun p => p.turn fun a b h => by rwa [EF]⟩
  rw [← ht]
  unfold backN pathN
  constructor
  · intro h
    exact (testBit_setOf _ j (lt_of_testBit (setOf_lt _) h)).1 h
  · intro h
    exact (testBit_setOf _ j (by have := hF h; omega)).2 h

/-- Nothing of the first is missing in the second. -/
theorem none_left {a b : Nat} (hb : b < 2 ^ 64) (h : ∀ j, a.testBit j = true → b.testBit j = true) : a &&& (18446744073709551615 - b) = 0 := by
  apply eq_of_bits
  intro j
  rw [testBit_andNot a b j hb, Nat.zero_testBit]
  cases e : a.testBit j
  · simp
  · simp [h j e]

/-! MatThrough -/
theorem through (m : List Nat) (x y : Nat) (hy : y < 32) (h : hasB (reachN m (x : Int)) (y : Int) = true) : reachN m (y : Int) &&& (18446744073709551615 - reachN m (x : Int)) = 0 := by
  rw [hasB_nat _ _ (by omega)] at h
  exact none_left (setOf_lt _) fun j hj => (reach_bit m x j).2 (((reach_bit m x y).1 h).trans ((reach_bit m y j).1 hj))
theorem both_ways (m : List Nat) (x y : Nat) (hx : x < 32) (hy : y < 32) : hasB (reachN m (x : Int)) (y : Int) = hasB (backN m (y : Int)) (x : Int) := by
  rw [hasB_nat _ _ (by omega), hasB_nat _ _ (by omega), Bool.eq_iff_iff, reach_bit, back_bit]
theorem outs_in (m : List Nat) (x : Nat) : outsN m (x : Int) &&& (18446744073709551615 - reachN m (x : Int)) = 0 :=
  none_left (setOf_lt _) fun j hj => (reach_bit m x j).2 (.edge hj)

/-! Without a node -/
theorem cut_get {m : List Nat} (hm : m.length = 32) {x : Nat} (hx : x < 32) {i : Nat} (hi : i < 32) :
    at_ (cutN m (x : Int)) (i : Int) = if i = x then lessN (at_ m (i : Int)) (x : Int) &&& 18446744069414584320 else lessN (at_ m (i : Int)) (x : Int) := by
  have hn : nodeB (x : Int) = true := by unfold nodeB; simp; omega
  unfold cutN at_
  rw [if_pos hn]
  simp only [Int.toNat_natCast]
  have hl : (cutTo m (x : Int) 32).length = 32 := by rw [cutTo_length, hm]
  have hg : ∀ j, j < 32 → (cutTo m (x : Int) 32).getD j 0 = lessN (m.getD j 0) (x : Int) := fun j hj => by
    rw [cutTo_get _ _ _ _ (by omega), if_pos hj]
  by_cases h : i = x
  · subst h
    rw [if_pos rfl, ← hg i hi]
    simp [List.getD, hl, hi]
  · rw [if_neg h, ← hg i hi]
    simp [List.getD, Ne.symm h]
theorem E_cut {m : List Nat} (hm : m.length = 32) {x : Nat} (hx : x < 32) (a j : Nat) (h : (E (cutN m (x : Int)) a).testBit j = true) : (E m a).testBit j = true ∧ a ≠ x ∧ j ≠ x := by
  have hl := E_lt h
  unfold E at h ⊢
  rw [testBit_outsN, cut_get hm hx hl.1] at h
  rw [testBit_outsN]
  split at h
  · exfalso
    rw [Nat.testBit_and] at h
    have : Nat.testBit 18446744069414584320 j = false := by
      have : ∀ j : Nat, j < 32 → Nat.testBit 18446744069414584320 j = false := by decide +kernel
      exact this j hl.2
    simp [this] at h
  · rename_i hne
    rw [testBit_lessN] at h
    simp only [Bool.and_eq_true, decide_eq_true_eq, Bool.not_eq_true', decide_eq_false_iff_not] at h ⊢
    refine ⟨⟨h.1, h.2.1.1⟩, hne, fun e => h.2.2 (by omega)⟩
theorem cut_reach {m : List Nat} (hm : m.length = 32) {x : Nat} (hx : x < 32) : reachN (cutN m (x : Int)) (x : Int) = 0 := by
  apply reach_none
  apply eq_of_bits
  intro j
  rw [Nat.zero_testBit]
  cases e : (outsN (cutN m (x : Int)) (x : Int)).testBit j
  · rfl
  · exact absurd rfl (E_cut hm hx x j e).2.1
theorem cut_back {m : List Nat} (hm : m.length = 32) {x : Nat} (hx : x < 32) : backN (cutN m (x : Int)) (x : Int) = 0 := by
  apply back_none
  apply eq_of_bits
  intro j
  rw [Nat.zero_testBit]
  cases e : (insN (cutN m (x : Int)) (x : Int)).testBit j
  · rfl
  · have h : (E (cutN m (x : Int)) j).testBit x = true := by rw [← EF]; exact e
    exact absurd rfl (E_cut hm hx j x h).2.2
theorem cut_less {m : List Nat} (hm : m.length = 32) {x : Nat} (hx : x < 32) (y : Nat) : reachN (cutN m (x : Int)) (y : Int) &&& (18446744073709551615 - reachN m (y : Int)) = 0 :=
  none_left (setOf_lt _) fun j hj => (reach_bit m y j).2 (((reach_bit _ y j).1 hj).mono fun a j h => (E_cut hm hx a j h).1)

/-! With an edge more -/
theorem E_put {m : List Nat} (hm : m.length = 32) {x y : Nat} (hx : x < 32) (hy : y < 32) (hne : x ≠ y) (a j : Nat) : (E (putN m (x : Int) (y : Int)) a).testBit j = true ↔ ((E m a).testBit j = true ∨ (a = x ∧ j = y)) := by
  have hp : putB (x : Int) (y : Int) = true := by unfold putB nodeB; simp; omega
  unfold E putN
  rw [if_pos hp, testBit_outsN, testBit_outsN]
  unfold at_
  simp only [Int.toNat_natCast]
  by_cases ha : a = x
  · subst ha
    have : (m.set a (withN (m.getD a 0) (y : Int))).getD a 0 = withN (m.getD a 0) (y : Int) := by
      simp [List.getD, hm, hx]
    rw [this, testBit_withN]
    simp [nodeB]
    constructor
    · rintro ⟨h1, h2 | h2⟩
      · exact .inl ⟨h1, h2⟩
      · exact .inr (by omega)
    · rintro (⟨h1, h2⟩ | h2)
      · exact ⟨h1, .inl h2⟩
      · exact ⟨by omega, .inr (by omega)⟩
  · have : (m.set x (withN (m.getD x 0) (y : Int))).getD a 0 = m.getD a 0 := by
      simp [List.getD, Ne.symm ha]
    rw [this]
    simp [ha]
theorem put_same {m : List Nat} (x : Nat) : putN m (x : Int) (x : Int) = m ∧ putB (x : Int) (x : Int) = false := by
  have : putB (x : Int) (x : Int) = false := by unfold putB; simp
  exact ⟨by unfold putN; rw [this]; rfl, this⟩
theorem put_is {x y : Nat} (hx : x < 32) (hy : y < 32) (hne : x ≠ y) : putB (x : Int) (y : Int) = true := by unfold putB nodeB; simp; omega
theorem E_more {m : List Nat} (hm : m.length = 32) {x y : Nat} (hx : x < 32) (hy : y < 32) (a j : Nat) (h : (E m a).testBit j = true) : (E (putN m (x : Int) (y : Int)) a).testBit j = true := by
  by_cases hne : x = y
  · subst hne; rw [(put_same x).1]; exact h
  · exact (E_put hm hx hy hne a j).2 (.inl h)
theorem put_more {m : List Nat} (hm : m.length = 32) {x y : Nat} (hx : x < 32) (hy : y < 32) (i : Nat) : reachN m (i : Int) &&& (18446744073709551615 - reachN (putN m (x : Int) (y : Int)) (i : Int)) = 0 :=
  none_left (setOf_lt _) fun j hj => (reach_bit _ i j).2 (((reach_bit _ i j).1 hj).mono fun a j h => E_more hm hx hy a j h)
theorem put_has {m : List Nat} (hm : m.length = 32) {x y : Nat} (hx : x < 32) (hy : y < 32) (hne : x ≠ y) : hasB (reachN (putN m (x : Int) (y : Int)) (x : Int)) (y : Int) = true := by
  rw [hasB_nat _ _ (by omega), reach_bit]
  exact .edge ((E_put hm hx hy hne x y).2 (.inr ⟨rfl, rfl⟩))

/-! No way round -/
theorem free_iff {m : List Nat} : freeB m = true ↔ ∀ i, ¬ Way (E m) i i := by
  rw [freeB_true]
  constructor
  · intro h i p
    have hi := p.to_lt
    have := h i hi
    rw [hasB_nat _ _ (by omega)] at this
    rw [(reach_bit m i i).2 p] at this
    cases this
  · intro h i hi
    rw [hasB_nat _ _ (by omega)]
    cases e : (reachN m (i : Int)).testBit i
    · rfl
    · exact absurd ((reach_bit m i i).1 e) (h i)
theorem free_put {m : List Nat} (hm : m.length = 32) {x y : Nat} (hx : x < 32) (hy : y < 32) (h : freeB m = false) : freeB (putN m (x : Int) (y : Int)) = false := by
  cases e : freeB (putN m (x : Int) (y : Int))
  · rfl
  · exfalso
    have h1 := free_iff.1 e
    have : freeB m = true := free_iff.2 fun i p => h1 i (p.mono fun a j h => E_more hm hx hy a j h)
    rw [h] at this
    cases this
theorem way_put {m : List Nat} (hm : m.length = 32) {x y : Nat} (hx : x < 32) (hy : y < 32) (hne : x ≠ y) {a j : Nat} (p : Way (E (putN m (x : Int) (y : Int))) a j) :
    Way (E m) a j ∨ ((a = x ∨ Way (E m) a x) ∧ (j = y ∨ Way (E m) y j)) := by
  unfold Way at p
  generalize hs : E (putN m (x : Int) (y : Int)) a = s at p
  induction p with
  | one k =>
    rw [← hs] at k
    rcases (E_put hm hx hy hne _ _).1 k with k | ⟨rfl, rfl⟩
    · exact .inl (.edge k)
    · exact .inr ⟨.inl rfl, .inl rfl⟩
  | step _ k ih =>
    rcases (E_put hm hx hy hne _ _).1 k with k' | ⟨rfl, rfl⟩
    · rcases ih with q | ⟨q, rfl | r⟩
      · exact .inl (q.on k')
      · exact .inr ⟨q, .inr (.edge k')⟩
      · exact .inr ⟨q, .inr (r.on k')⟩
    · rcases ih with q | ⟨q, _⟩
      · exact .inr ⟨.inr q, .inl rfl⟩
      · exact .inr ⟨q, .inl rfl⟩
theorem closes {m : List Nat} (hm : m.length = 32) {x y : Nat} (hx : x < 32) (hy : y < 32) (hne : x ≠ y) (hf : freeB m = true) : freeB (putN m (x : Int) (y : Int)) = !hasB (reachN m (y : Int)) (x : Int) := by
  rw [hasB_nat _ _ (by omega)]
  have h0 := free_iff.1 hf
  cases e : (reachN m (y : Int)).testBit x
  · refine free_iff.2 fun i p => ?_
    have hno : ¬ Way (E m) y x := fun q => by rw [(reach_bit m y x).2 q] at e; cases e
    rcases way_put hm hx hy hne p with q | ⟨rfl | q, rfl | r⟩
    · exact h0 i q
    · exact hne rfl
    · exact hno r
    · exact hno q
    · exact hno (r.trans q)
  · cases e2 : freeB (putN m (x : Int) (y : Int))
    · rfl
    · exfalso
      refine free_iff.1 e2 x (Way.trans (.edge ((E_put hm hx hy hne x y).2 (.inr ⟨rfl, rfl⟩))) ?_)
      exact ((reach_bit m y x).1 e).mono fun a j h => E_more hm hx hy a j h

/-! What one edge goes to, and what that reaches -/
noncomputable def wantN (m : List Nat) (s : Nat) (l : List Int) : Nat := l.foldl (fun s i => s ||| reachN m i) s
theorem wantN_lt (m : List Nat) : ∀ (l : List Int) (s : Nat), s < 2 ^ 64 → wantN m s l < 2 ^ 64
  | [], _, h => h
  | _ :: l, _, h => wantN_lt m l _ (Nat.or_lt_two_pow h (setOf_lt _))
theorem wantN_take (m : List Nat) (s : Nat) (l : List Int) (k : Nat) (hk : k < l.length) : wantN m s (l.take (k + 1)) = wantN m s (l.take k) ||| reachN m (l.getD k 0) := by
  unfold wantN
  rw [List.take_succ_eq_append_getElem hk, List.foldl_append]
  simp [List.getD, hk]
theorem wantN_bit (m : List Nat) (j : Nat) : ∀ (l : List Nat) (s : Nat), (wantN m s (l.map fun (i : Nat) => (i : Int))).testBit j = true ↔ (s.testBit j = true ∨ ∃ i, i ∈ l ∧ (reachN m (i : Int)).testBit j = true)
  | [], s => by simp [wantN]
  | x :: l, s => by
      have := wantN_bit m j l (s ||| reachN m (x : Int))
      unfold wantN at this ⊢
      rw [List.map_cons, List.foldl_cons, this, Nat.testBit_or]
      simp [or_assoc]
theorem steps (m : List Nat) (x : Nat) : wantN m (outsN m (x : Int)) ((itemsN (outsN m (x : Int))).map fun (i : Nat) => (i : Int)) = reachN m (x : Int) := by
  apply eq_of_bits
  intro j
  rw [Bool.eq_iff_iff, wantN_bit, reach_bit]
  constructor
  · rintro (h | ⟨i, h, p⟩)
    · exact .edge h
    · exact Way.trans (.edge (mem_itemsN.1 h).2) ((reach_bit m i j).1 p)
  · intro p
    rcases p.first with h | ⟨i, h, q⟩
    · exact .inl h
    · exact .inr ⟨i, mem_itemsN.2 ⟨by have := (E_lt h).2; omega, h⟩, (reach_bit m i j).2 q⟩
end Go.Proofs.YtkgfepnkikcpiaaDoor.PM
