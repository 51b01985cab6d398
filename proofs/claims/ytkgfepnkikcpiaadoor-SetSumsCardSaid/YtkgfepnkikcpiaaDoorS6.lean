/- More on rows of numbers: set.Items with all that its row is good for; a row appended to a row of the call's own; what a set of a row has. -/
import Derived.Test.YtkgfepnkikcpiaaDoorS5
import Derived.Laws.AppendOwnNone
namespace Go.Proofs.YtkgfepnkikcpiaaDoor
open Go.RowKit
open PSet

def intI (i : Int) : Value := .int .i64 i
theorem map_intV (l : List Nat) : l.map intV = (l.map fun i : Nat => (i : Int)).map intI := by simp [intV, intI]

theorem ints_of_owns_cap {w : World} {base : Nat} {v : Value} {l : List Int} (h : w.ownsRow base 3 1 v l.length (l.map intI)) :
    ∃ a cap, v = .slice a l.length cap ∧ IntsAt w a l ∧ l.length ≤ cap ∧ (a = none → cap = 0) := by
  rcases h.2 with ⟨rfl, hn⟩ | ⟨g, cap, cur, rfl, _, _, hle, _⟩
  · have : l = [] := List.eq_nil_of_length_eq_zero hn
    subst this
    exact ⟨none, 0, rfl, IntsAt.nil _ _, Nat.le_refl _, fun _ => rfl⟩
  · refine ⟨_, cap, rfl, fun k hk => ⟨g, 0, rfl, ?_⟩, hle, fun e => by cases e⟩
    have hc := h.cells (g := g) rfl k (intI l[k]) (by simp [hk])
    have hadd : (⟨g, 0, none⟩ : Addr).add k = ⟨g, 0 + k, none⟩ := by unfold Addr.add; split <;> simp_all
    rw [hadd] at hc
    rw [hc]
    simp [intI, List.getD, hk]

/-- set.Items, with its capacity. -/
theorem items_cap (s : Nat) (w : World) (hs : s < 2 ^ 64) (hT : Tab w) :
    Calls Tryd.prog 23 #[.int .u64 s] w fun e w' => ∃ a cap, e = .returned (.slice a (itemsI s).length cap) ∧ IntsAt w' a (itemsI s) ∧ (itemsI s).length ≤ cap ∧ (a = none → cap = 0) ∧ Below w.heap.size w w' := by
  refine (items_any s w hs hT).mono ?_
  rintro e w' ⟨v, rfl, hown, hbel⟩
  rw [map_intV] at hown
  have hown' : w'.ownsRow w.heap.size 3 1 v (itemsI s).length ((itemsI s).map intI) := by rw [itemsI_length]; exact hown
  obtain ⟨a, cap, rfl, h, hc, hn⟩ := ints_of_owns_cap hown'
  exact ⟨a, cap, rfl, h, hc, hn, hbel⟩

/-- append(v, xs...), v nil or the call's own, xs whatever row of ints, nil too. -/
theorem wpList_append_row {ops : Array Oper} {rest : List Oper} {o : Oper} {a : Act} {w : World} {Q : Exit → Act → World → Prop} (hgd : o.guard = none) (s x : Operand)
    (ho : o.op = .call { callee := .builtin .append, args := #[s, x], argTypes := #[23, 23] })
    (base : Nat) (v : Value) (n : Nat) (xs : List Int) (hs : a.eval s = v) (hown : w.ownsRow base 3 1 v n (xs.map intI))
    (sa : Option Addr) (c : Nat) (l : List Int) (hx : a.eval x = .slice sa l.length c) (hI : IntsAt w sa l) (hnil : sa = none → c = 0) (hlen : n + l.length ≤ 1000) (hbase : base ≤ w.heap.size)
    (h : ∀ v' w', w'.ownsRow base 3 1 v' (n + l.length) ((xs ++ l).map intI) → w.grownBy w' v.ownBlock → wpList Tryd.prog ops Q rest (a.put o.dst v') w') : wpList Tryd.prog ops Q (o :: rest) a w := by
  obtain ⟨i0, hi, hz0, hz1, hz2⟩ := info_parts info3
  cases sa with
  | none =>
    have hc := hnil rfl
    subst hc
    have hl : l = [] := by
      cases l with
      | nil => rfl
      | cons y l => obtain ⟨b, off, e⟩ := hI.some (by simp); cases e
    subst hl
    refine wpList_append_own_none hgd s x 23 ho base 3 i0 1 Tryd.underlying23 hi v n (xs.map intI) hs hown hx ?_
    refine h v w ?_ ⟨rfl, rfl, rfl, Nat.le_refl _, fun _ _ _ => rfl⟩
    simpa using hown
  | some ad =>
    refine wpList_append_own _ hgd s x 23 ho base 3 i0 (.int .i64 0) 1 8 Tryd.underlying23 hi hz0 hz1 hz2 rfl (by decide) v n (xs.map intI) hs hown ad l.length c (l.map intI) hx (by simp) ?_ ?_ (by unfold maxLen; omega) (by omega) hbase ?_
    · intro j u hu
      by_cases hj : j < l.length
      · obtain ⟨b, off, e⟩ := hI.some (by omega)
        injection e with e
        subst e
        have hadd : (⟨b, off, none⟩ : Addr).add j = ⟨b, off + j, none⟩ := by unfold Addr.add; split <;> simp_all
        rw [hadd, hI.cell hj]
        have : u = intI l[j] := by simpa [hj] using hu.symm
        rw [this]
        simp [intI, List.getD, hj]
      · have : (l.map intI)[j]? = none := by simp; omega
        rw [this] at hu; cases hu
    · intro u hu
      obtain ⟨y, _, rfl⟩ := List.mem_map.1 hu
      rfl
    · intro v' w' h1 h2 _
      exact h v' w' (by rw [List.map_append]; exact h1) h2

theorem testBit_ofN (l : List Int) (j : Nat) : (ofN l).testBit j = decide ((j : Int) ∈ l ∧ j < 64) := by
  unfold ofN
  have key : ∀ (l : List Int) (s : Nat), (l.foldl withN s).testBit j = (s.testBit j || decide ((j : Int) ∈ l ∧ j < 64)) := by
    intro l
    induction l with
    | nil => intro s; simp
    | cons x l ih =>
      intro s
      rw [List.foldl_cons, ih, testBit_withN, Bool.or_assoc]
      congr 1
      rw [Bool.eq_iff_iff]
      simp only [Bool.or_eq_true, decide_eq_true_eq, List.mem_cons]
      constructor
      · rintro (⟨h1, h2⟩ | ⟨h1, h2⟩)
        · exact ⟨.inl h1.symm, h2⟩
        · exact ⟨.inr h1, h2⟩
      · rintro ⟨h1 | h1, h2⟩
        · exact .inl ⟨h1.symm, h2⟩
        · exact .inr ⟨h1, h2⟩
  rw [key, Nat.zero_testBit, Bool.false_or]

theorem mem_itemsI {s : Nat} {x : Int} : x ∈ itemsI s ↔ ∃ j : Nat, x = (j : Int) ∧ j < 64 ∧ s.testBit j = true := by
  unfold itemsI
  simp only [List.mem_map, mem_itemsN]
  constructor
  · rintro ⟨j, ⟨h1, h2⟩, rfl⟩; exact ⟨j, rfl, h1, h2⟩
  · rintro ⟨j, rfl, h1, h2⟩; exact ⟨j, ⟨h1, h2⟩, rfl⟩

/-- The set of all its numbers, in whatever order, is the set. -/
theorem ofN_of_mem {s : Nat} (hs : s < 2 ^ 64) {l : List Int} (h : ∀ x, x ∈ l ↔ x ∈ itemsI s) : ofN l = s := by
  apply eq_of_low (ofN_lt l) hs
  intro j hj
  rw [testBit_ofN, Bool.eq_iff_iff, decide_eq_true_eq, h, mem_itemsI]
  constructor
  · rintro ⟨⟨k, e, _, hk⟩, _⟩
    have : j = k := by omega
    subst this; exact hk
  · intro hb; exact ⟨⟨j, rfl, hj, hb⟩, hj⟩

/-- Has of a set of a row put together. -/
theorem has_of_append (a b : List Int) (i : Int) : hasB (ofN (a ++ b)) i = (hasB (ofN a) i || hasB (ofN b) i) := by
  rw [hasB_bit _ (ofN_lt _), hasB_bit _ (ofN_lt _), hasB_bit _ (ofN_lt _), testBit_ofN, testBit_ofN, testBit_ofN, ← Bool.and_or_distrib_left]
  congr 1
  rw [Bool.eq_iff_iff]
  simp only [Bool.or_eq_true, decide_eq_true_eq, List.mem_append]
  constructor
  · rintro ⟨h1 | h1, h2⟩
    · exact .inl ⟨h1, h2⟩
    · exact .inr ⟨h1, h2⟩
  · rintro (⟨h1, h2⟩ | ⟨h1, h2⟩)
    · exact ⟨.inl h1, h2⟩
    · exact ⟨.inr h1, h2⟩
end Go.Proofs.YtkgfepnkikcpiaaDoor
