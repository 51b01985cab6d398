/- Graphs of 32 nodes as 32 numbers: edges out and in, one edge more, a node cut off, ways. -/
import Derived.Test.YtkgfepnkikcpiaaDoorPSet
namespace Go.Proofs.YtkgfepnkikcpiaaDoor.PMat
open PSet

/-- A graph is 32 numbers of 64 bits. -/
def Mat (m : List Nat) : Prop := m.length = 32 ∧ ∀ k, m.getD k 0 < 2 ^ 64
def nodeB (a : Int) : Bool := decide (0 ≤ a ∧ a < 32)
def at_ (m : List Nat) (a : Int) : Nat := m.getD a.toNat 0
def outsN (m : List Nat) (a : Int) : Nat := if nodeB a = true then at_ m a % 4294967296 else 0
/-- All those below k from which an edge comes. -/
def insTo (m : List Nat) (a : Int) (k : Nat) : Nat := ((List.range k).filter fun i => hasB (m.getD i 0) a).foldl (fun s (i : Nat) => withN s (i : Int)) 0
def insN (m : List Nat) (a : Int) : Nat := if nodeB a = true then insTo m a 32 else 0
def putB (a b : Int) : Bool := nodeB a && nodeB b && !decide (a = b)
def putN (m : List Nat) (a b : Int) : List Nat := if putB a b = true then m.set a.toNat (withN (at_ m a) b) else m
/-- The first k rows without a number. -/
def cutTo (m : List Nat) (a : Int) (k : Nat) : List Nat := (List.range m.length).map fun j => if j < k then lessN (m.getD j 0) a else m.getD j 0
def cutN (m : List Nat) (a : Int) : List Nat := if nodeB a = true then (cutTo m a 32).set a.toNat ((cutTo m a 32).getD a.toNat 0 &&& 18446744069414584320) else m

theorem hasB_all (a : Int) : hasB 4294967295 a = nodeB a := by
  unfold hasB nodeB
  by_cases h : 0 ≤ a ∧ a < 32
  · have h2 : 0 ≤ a ∧ a ≤ 63 := by omega
    rw [decide_eq_true h, decide_eq_true h2, Bool.true_and]
    have := Nat.testBit_two_pow_sub_one 32 a.toNat
    have e : 2 ^ 32 - 1 = 4294967295 := rfl
    rw [e] at this
    rw [this, decide_eq_true (by omega)]
  · rw [decide_eq_false h]
    by_cases h2 : 0 ≤ a ∧ a ≤ 63
    · have := Nat.testBit_two_pow_sub_one 32 a.toNat
      have e : 2 ^ 32 - 1 = 4294967295 := rfl
      rw [e] at this
      rw [this, decide_eq_true h2, decide_eq_false (show ¬ a.toNat < 32 by omega), Bool.and_false]
    · rw [decide_eq_false h2, Bool.false_and]

theorem Mat.at_lt {m : List Nat} (h : Mat m) (a : Int) : at_ m a < 2 ^ 64 := h.2 _
theorem outsN_lt (m : List Nat) (a : Int) : outsN m a < 2 ^ 64 := by
  unfold outsN
  split
  · exact Nat.lt_of_lt_of_le (Nat.mod_lt _ (by decide)) (by decide)
  · decide
theorem insTo_lt (m : List Nat) (a : Int) (k : Nat) : insTo m a k < 2 ^ 64 := by
  unfold insTo
  have : ∀ (l : List Nat) (s : Nat), s < 2 ^ 64 → l.foldl (fun s (i : Nat) => withN s (i : Int)) s < 2 ^ 64 := by
    intro l
    induction l with
    | nil => intro s h; exact h
    | cons x l ih => intro s h; exact ih _ (withN_lt h _)
  exact this _ 0 (by decide)
theorem insTo_succ (m : List Nat) (a : Int) (k : Nat) : insTo m a (k + 1) = if hasB (m.getD k 0) a = true then withN (insTo m a k) (k : Int) else insTo m a k := by
  unfold insTo
  rw [List.range_succ, List.filter_append, List.foldl_append]
  cases h : hasB (m.getD k 0) a <;> simp only [List.filter_cons, List.filter_nil, h] <;> rfl
theorem insN_lt (m : List Nat) (a : Int) : insN m a < 2 ^ 64 := by
  unfold insN
  split
  · exact insTo_lt _ _ _
  · decide
theorem testBit_insTo (m : List Nat) (a : Int) (j : Nat) : ∀ k, k ≤ 64 → (insTo m a k).testBit j = (decide (j < k) && hasB (m.getD j 0) a) := by
  intro k
  induction k with
  | zero => intro _; simp [insTo]
  | succ k ih =>
    intro hk
    have ih := ih (by omega)
    rw [insTo_succ]
    by_cases e : j = k
    · subst e
      cases h : hasB (m.getD j 0) a
      · rw [if_neg (by decide), ih, h, Bool.and_false, Bool.and_false]
      · rw [if_pos rfl, testBit_withN, decide_eq_true (show (j : Int) = (j : Int) ∧ j < 64 from ⟨rfl, by omega⟩), Bool.or_true, decide_eq_true (show j < j + 1 by omega)]
        rfl
    · have e1 : decide (j < k + 1) = decide (j < k) := by
        have : (j < k + 1) ↔ (j < k) := by omega
        simp only [this]
      rw [e1]
      split
      · rw [testBit_withN, ih, decide_eq_false (show ¬ ((k : Int) = (j : Int) ∧ j < 64) by omega), Bool.or_false]
      · exact ih
theorem testBit_insN (m : List Nat) (a : Int) (j : Nat) : (insN m a).testBit j = (nodeB a && decide (j < 32) && hasB (m.getD j 0) a) := by
  unfold insN
  cases h : nodeB a
  · simp
  · rw [if_pos rfl, testBit_insTo m a j 32 (by decide), Bool.true_and]
theorem testBit_outsN (m : List Nat) (a : Int) (j : Nat) : (outsN m a).testBit j = (nodeB a && decide (j < 32) && (at_ m a).testBit j) := by
  unfold outsN
  cases h : nodeB a
  · simp
  · rw [if_pos rfl, Bool.true_and]
    have := Nat.testBit_mod_two_pow (at_ m a) 32 j
    have e : 2 ^ 32 = 4294967296 := rfl
    rw [e] at this
    exact this

theorem cutTo_length (m : List Nat) (a : Int) (k : Nat) : (cutTo m a k).length = m.length := by simp [cutTo]
theorem cutTo_get (m : List Nat) (a : Int) (k j : Nat) (hj : j < m.length) : (cutTo m a k).getD j 0 = if j < k then lessN (m.getD j 0) a else m.getD j 0 := by
  simp [cutTo, List.getD, hj]
theorem cutTo_zero (m : List Nat) (a : Int) : cutTo m a 0 = m := by
  apply List.ext_getElem
  · simp [cutTo]
  · intro j h1 h2
    simp [cutTo, h2]
theorem cutTo_succ (m : List Nat) (a : Int) (k : Nat) : (cutTo m a k).set k (lessN ((cutTo m a k).getD k 0) a) = cutTo m a (k + 1) := by
  apply List.ext_getElem
  · simp [cutTo_length]
  · intro j h1 h2
    have hj : j < m.length := by simpa [cutTo_length] using h2
    have g : ∀ (l : List Nat) (h : j < l.length), l[j] = l.getD j 0 := fun l h => by simp [List.getD, h]
    rw [List.getElem_set, g _ h2, cutTo_get m a (k + 1) j hj]
    by_cases e : k = j
    · subst e
      rw [if_pos rfl, if_pos (by omega), cutTo_get m a k k hj, if_neg (by omega)]
    · rw [if_neg e, g _ (by rw [cutTo_length]; exact hj), cutTo_get m a k j hj]
      have : (j < k + 1) ↔ (j < k) := by omega
      simp only [this]
end Go.Proofs.YtkgfepnkikcpiaaDoor.PMat
