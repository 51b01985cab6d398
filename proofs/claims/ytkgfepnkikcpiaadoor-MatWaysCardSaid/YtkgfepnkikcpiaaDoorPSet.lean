/- Sets of numbers 0 to 63 as natural numbers: what is in a set with one number more, or less, and the row of its numbers. -/
import Derived.Lib.TrailingZeros
namespace Go.Proofs.YtkgfepnkikcpiaaDoor.PSet

/-- The bit of a number; 0: it may be in none. -/
def bitN (i : Int) : Nat := if 0 ≤ i ∧ i ≤ 63 then 2 ^ i.toNat else 0
/-- Whether a number is in a set. -/
def hasB (s : Nat) (i : Int) : Bool := decide (0 ≤ i ∧ i ≤ 63) && s.testBit i.toNat
def withN (s : Nat) (i : Int) : Nat := s ||| bitN i
def lessN (s : Nat) (i : Int) : Nat := s &&& (18446744073709551615 - bitN i)
/-- All numbers of a set, rising. -/
def itemsN (s : Nat) : List Nat := (List.range 64).filter fun i => s.testBit i
/-- The least number; -1: there is none. -/
def firstN (s : Nat) : Int := match itemsN s with | [] => -1 | a :: _ => a
def ofN (l : List Int) : Nat := l.foldl withN 0

theorem bitN_lt (i : Int) : bitN i < 2 ^ 64 := by
  unfold bitN
  split
  · exact Nat.pow_lt_pow_right (by decide) (by omega)
  · decide
theorem bitN_far {i : Int} (h : ¬ (0 ≤ i ∧ i ≤ 63)) : bitN i = 0 := by simp [bitN, h]
theorem bitN_near {i : Int} (h : 0 ≤ i ∧ i ≤ 63) : bitN i = 2 ^ i.toNat := by simp [bitN, h]

theorem testBit_bitN (i : Int) (j : Nat) : (bitN i).testBit j = decide (i = (j : Int) ∧ j < 64) := by
  unfold bitN
  split
  · rename_i h
    rw [Nat.testBit_two_pow]
    congr 1
    apply propext
    omega
  · rename_i h
    simp
    omega

theorem lt_of_testBit {s j : Nat} (hs : s < 2 ^ 64) (h : s.testBit j = true) : j < 64 := by
  by_cases hj : j < 64
  · exact hj
  · have : s.testBit j = false := Nat.testBit_lt_two_pow (Nat.lt_of_lt_of_le hs (Nat.pow_le_pow_right (by decide) (by omega)))
    rw [this] at h; cases h

theorem testBit_withN (s : Nat) (i : Int) (j : Nat) : (withN s i).testBit j = (s.testBit j || decide (i = (j : Int) ∧ j < 64)) := by
  unfold withN
  rw [Nat.testBit_or, testBit_bitN]

theorem testBit_lessN (s : Nat) (i : Int) (j : Nat) : (lessN s i).testBit j = (s.testBit j && decide (j < 64) && !decide (i = (j : Int))) := by
  unfold lessN
  have h := Nat.testBit_two_pow_sub_succ (bitN_lt i) j
  have e : 2 ^ 64 - (bitN i + 1) = 18446744073709551615 - bitN i := by omega
  rw [e] at h
  rw [Nat.testBit_and, h, testBit_bitN, Bool.and_assoc]
  congr 1
  by_cases h1 : j < 64 <;> by_cases h2 : i = (j : Int) <;> simp [h1, h2]

theorem withN_lt {s : Nat} (hs : s < 2 ^ 64) (i : Int) : withN s i < 2 ^ 64 := Nat.or_lt_two_pow hs (bitN_lt i)
theorem lessN_lt {s : Nat} (hs : s < 2 ^ 64) (i : Int) : lessN s i < 2 ^ 64 := Nat.lt_of_le_of_lt Nat.and_le_left hs

theorem ofN_lt (l : List Int) : ofN l < 2 ^ 64 := by
  unfold ofN
  have : ∀ (l : List Int) (s : Nat), s < 2 ^ 64 → l.foldl withN s < 2 ^ 64 := by
    intro l
    induction l with
    | nil => intro s h; exact h
    | cons a l ih => intro s h; exact ih _ (withN_lt h a)
  exact this l 0 (by decide)

theorem eq_of_bits {a b : Nat} (h : ∀ j, a.testBit j = b.testBit j) : a = b := Nat.eq_of_testBit_eq h

/-- Two sets are one, if each number is in both or in none. -/
theorem eq_of_low {a b : Nat} (ha : a < 2 ^ 64) (hb : b < 2 ^ 64) (h : ∀ j, j < 64 → a.testBit j = b.testBit j) : a = b := by
  apply Nat.eq_of_testBit_eq
  intro j
  by_cases hj : j < 64
  · exact h j hj
  · have h64 : 2 ^ 64 ≤ 2 ^ j := Nat.pow_le_pow_right (by decide) (by omega)
    rw [Nat.testBit_lt_two_pow (Nat.lt_of_lt_of_le ha h64), Nat.testBit_lt_two_pow (Nat.lt_of_lt_of_le hb h64)]

theorem mem_itemsN {s j : Nat} : j ∈ itemsN s ↔ j < 64 ∧ s.testBit j = true := by
  simp [itemsN]

theorem itemsN_zero : itemsN 0 = [] := by
  simp [itemsN]

theorem eq_zero_of_items {s : Nat} (hs : s < 2 ^ 64) (h : itemsN s = []) : s = 0 := by
  apply eq_of_low hs (by decide)
  intro j hj
  rw [Nat.zero_testBit]
  by_cases hb : s.testBit j = true
  · have : j ∈ itemsN s := mem_itemsN.2 ⟨hj, hb⟩
    rw [h] at this; cases this
  · simpa using hb

theorem itemsN_length_le (s : Nat) : (itemsN s).length ≤ 64 := by
  unfold itemsN
  exact Nat.le_trans (List.length_filter_le _ _) (by simp)

/-- The row of a filter: its first one, and the rest. -/
theorem filter_range_cons (p : Nat → Bool) (n k : Nat) (hk : k < n) (hp : p k = true) (hl : ∀ j, j < k → p j = false) :
    (List.range n).filter p = k :: (List.range n).filter fun j => p j && !decide (k = j) := by
  have hsplit : List.range n = List.range k ++ (k :: List.range' (k + 1) (n - k - 1)) := by
    rw [List.range_eq_range', List.range_eq_range']
    have e : n = k + ((n - k - 1) + 1) := by omega
    have h1 := List.range'_append_1 (s := 0) (m := k) (n := (n - k - 1) + 1)
    rw [Nat.zero_add, List.range'_succ] at h1
    rw [h1]
    congr 1
  rw [hsplit, List.filter_append, List.filter_append]
  have h0 : (List.range k).filter p = [] := by
    rw [List.filter_eq_nil_iff]
    intro a ha
    rw [hl a (by simpa using ha)]
    decide
  have h1 : (List.range k).filter (fun j => p j && !decide (k = j)) = [] := by
    rw [List.filter_eq_nil_iff]
    intro a ha
    rw [hl a (by simpa using ha)]
    simp
  rw [h0, h1, List.nil_append, List.nil_append, List.filter_cons_of_pos hp, List.filter_cons_of_neg (by simp)]
  congr 1
  apply List.filter_congr
  intro a ha
  have : k + 1 ≤ a := (List.mem_range'_1.1 ha).1
  have : ¬ (k = a) := by omega
  simp [this]

/-- The numbers of a set that is not empty: its least one, and those of the rest. -/
theorem itemsN_cons {s k : Nat} (hk : k < 64) (hp : s.testBit k = true) (hl : ∀ j, j < k → s.testBit j = false) :
    itemsN s = k :: itemsN (lessN s (k : Int)) := by
  unfold itemsN
  rw [filter_range_cons (fun i => s.testBit i) 64 k hk hp hl]
  congr 1
  apply List.filter_congr
  intro a ha
  rw [testBit_lessN]
  have h64 : a < 64 := by simpa using ha
  by_cases e : k = a
  · subst e; simp
  · have : ¬ ((k : Int) = (a : Int)) := by omega
    simp [h64, e, this]

/-- The least number by the machine's way. -/
theorem ctz_spec {s : Nat} (h0 : s ≠ 0) (hs : s < 2 ^ 64) : Lib.ctz 64 s < 64 ∧ s.testBit (Lib.ctz 64 s) = true ∧ ∀ j, j < Lib.ctz 64 s → s.testBit j = false := by
  have hx := Lib.ctzFrom_spec 64 s (by omega) hs
  have e : Lib.ctz 64 s = Lib.ctzFrom 64 s := by simp [Lib.ctz, h0]
  obtain ⟨m, hm, hk⟩ := hx
  rw [e]
  refine ⟨hk, ?_, ?_⟩
  · generalize Lib.ctzFrom 64 s = c at *
    rw [hm, Nat.testBit_two_pow_mul]
    simp
  · intro j hj
    generalize Lib.ctzFrom 64 s = c at *
    rw [hm, Nat.testBit_two_pow_mul]
    have : ¬ (c ≤ j) := by omega
    simp [this]

theorem firstN_ctz {s : Nat} (h0 : s ≠ 0) (hs : s < 2 ^ 64) : firstN s = (Lib.ctz 64 s : Int) := by
  obtain ⟨h1, h2, h3⟩ := ctz_spec h0 hs
  unfold firstN
  rw [itemsN_cons h1 h2 h3]

theorem firstN_zero : firstN 0 = -1 := by
  unfold firstN
  rw [itemsN_zero]

/-- The first one of a set that is not empty. -/
theorem first_spec {s : Nat} (h0 : s ≠ 0) (hs : s < 2 ^ 64) : ∃ k : Nat, firstN s = (k : Int) ∧ k < 64 ∧ s.testBit k = true ∧ itemsN s = k :: itemsN (lessN s (k : Int)) := by
  obtain ⟨h1, h2, h3⟩ := ctz_spec h0 hs
  exact ⟨_, firstN_ctz h0 hs, h1, h2, itemsN_cons h1 h2 h3⟩

theorem hasB_nat (s j : Nat) (hj : j < 64) : hasB s (j : Int) = s.testBit j := by
  unfold hasB
  have : (0 ≤ (j : Int) ∧ (j : Int) ≤ 63) := by omega
  simp [this]

theorem hasB_far (s : Nat) {i : Int} (h : ¬ (0 ≤ i ∧ i ≤ 63)) : hasB s i = false := by
  unfold hasB
  simp [h]

theorem hasB_bit (s : Nat) (hs : s < 2 ^ 64) (i : Int) : hasB s i = (decide (0 ≤ i) && s.testBit i.toNat) := by
  unfold hasB
  by_cases h0 : 0 ≤ i
  · by_cases hb : s.testBit i.toNat = true
    · have := lt_of_testBit hs hb
      have h : 0 ≤ i ∧ i ≤ 63 := by omega
      rw [decide_eq_true h, decide_eq_true h0]
    · have hb' : s.testBit i.toNat = false := by simpa using hb
      rw [hb', Bool.and_false, Bool.and_false]
  · have h : ¬ (0 ≤ i ∧ i ≤ 63) := by omega
    rw [decide_eq_false h, decide_eq_false h0]
theorem has_with_other (s : Nat) (hs : s < 2 ^ 64) (i k : Int) (h : k ≠ i) : hasB (withN s i) k = hasB s k := by
  rw [hasB_bit _ (withN_lt hs i), hasB_bit _ hs, testBit_withN]
  by_cases h0 : 0 ≤ k
  · have : ¬ (i = ((k.toNat : Nat) : Int) ∧ k.toNat < 64) := by omega
    rw [decide_eq_false this, Bool.or_false]
  · rw [decide_eq_false h0, Bool.false_and, Bool.false_and]
theorem has_less_other (s : Nat) (hs : s < 2 ^ 64) (i k : Int) (h : k ≠ i) : hasB (lessN s i) k = hasB s k := by
  rw [hasB_bit _ (lessN_lt hs i), hasB_bit _ hs, testBit_lessN]
  by_cases h0 : 0 ≤ k
  · have h1 : ¬ (i = ((k.toNat : Nat) : Int)) := by omega
    rw [decide_eq_false h1, Bool.not_false, Bool.and_true]
    by_cases hb : s.testBit k.toNat = true
    · rw [decide_eq_true (lt_of_testBit hs hb), Bool.and_true]
    · have hb' : s.testBit k.toNat = false := by simpa using hb
      rw [hb', Bool.false_and]
  · rw [decide_eq_false h0, Bool.false_and, Bool.false_and]
theorem has_with_same (s : Nat) (hs : s < 2 ^ 64) (i : Int) : hasB (withN s i) i = decide (0 ≤ i ∧ i < 64) := by
  rw [hasB_bit _ (withN_lt hs i), testBit_withN]
  by_cases h0 : 0 ≤ i
  · by_cases h1 : i < 64
    · have : (i = ((i.toNat : Nat) : Int) ∧ i.toNat < 64) := by omega
      rw [decide_eq_true this, decide_eq_true h0, decide_eq_true (⟨h0, h1⟩ : 0 ≤ i ∧ i < 64), Bool.or_true, Bool.and_true]
    · have hn : ¬ (i = ((i.toNat : Nat) : Int) ∧ i.toNat < 64) := by omega
      have hb : s.testBit i.toNat = false := by
        by_cases hb : s.testBit i.toNat = true
        · have := lt_of_testBit hs hb; omega
        · simpa using hb
      rw [decide_eq_false hn, hb, decide_eq_false (by omega : ¬ (0 ≤ i ∧ i < 64)), Bool.or_false, Bool.and_false]
  · rw [decide_eq_false h0, decide_eq_false (by omega : ¬ (0 ≤ i ∧ i < 64)), Bool.false_and]
theorem has_less_same (s : Nat) (hs : s < 2 ^ 64) (i : Int) : hasB (lessN s i) i = false := by
  rw [hasB_bit _ (lessN_lt hs i), testBit_lessN]
  by_cases h0 : 0 ≤ i
  · have : (i = ((i.toNat : Nat) : Int)) := by omega
    rw [decide_eq_true this, Bool.not_true, Bool.and_false, Bool.and_false]
  · rw [decide_eq_false h0, Bool.false_and]

end Go.Proofs.YtkgfepnkikcpiaaDoor.PSet
