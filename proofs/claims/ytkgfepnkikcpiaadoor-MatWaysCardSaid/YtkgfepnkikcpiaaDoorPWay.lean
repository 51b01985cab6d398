/- Ways in a graph: what is reached from a first row of nodes, step by step; the set of it; and that looking at node after node finds just it. -/
import Derived.Test.YtkgfepnkikcpiaaDoorPMat
namespace Go.Proofs.YtkgfepnkikcpiaaDoor.PWay
open PSet PMat

/-- What is reached: what stands in the first row, and what comes of what is reached. -/
inductive Path (s0 : Nat) (nx : Nat → Nat) : Nat → Prop where
  | one {j : Nat} (h : s0.testBit j = true) : Path s0 nx j
  | step {i j : Nat} (p : Path s0 nx i) (h : (nx i).testBit j = true) : Path s0 nx j

open Classical in
/-- The set of the numbers below 64 with a property. -/
noncomputable def setOf (p : Nat → Prop) : Nat := ((List.range 64).filter fun j => decide (p j)).foldl (fun s (i : Nat) => withN s (i : Int)) 0

theorem foldl_lt : ∀ (l : List Nat) (s : Nat), s < 2 ^ 64 → l.foldl (fun s (i : Nat) => withN s (i : Int)) s < 2 ^ 64 := by
  intro l
  induction l with
  | nil => intro s h; exact h
  | cons x l ih => intro s h; exact ih _ (withN_lt h _)
theorem foldl_bit (j : Nat) (hj : j < 64) : ∀ (l : List Nat) (s : Nat), (l.foldl (fun s (i : Nat) => withN s (i : Int)) s).testBit j = true ↔ (s.testBit j = true ∨ j ∈ l) := by
  intro l
  induction l with
  | nil => intro s; simp
  | cons x l ih =>
    intro s
    rw [List.foldl_cons, ih, testBit_withN, List.mem_cons]
    simp only [Bool.or_eq_true, decide_eq_true_eq]
    constructor
    · rintro ((h | h) | h)
      · exact .inl h
      · exact .inr (.inl (by omega))
      · exact .inr (.inr h)
    · rintro (h | h | h)
      · exact .inl (.inl h)
      · exact .inl (.inr ⟨by omega, hj⟩)
      · exact .inr h

theorem setOf_lt (p : Nat → Prop) : setOf p < 2 ^ 64 := foldl_lt _ 0 (by decide)
theorem testBit_setOf (p : Nat → Prop) (j : Nat) (hj : j < 64) : (setOf p).testBit j = true ↔ p j := by
  unfold setOf
  rw [foldl_bit j hj]
  simp [hj]
/-- A set that has just the numbers with a property. -/
theorem eq_setOf {p : Nat → Prop} {s : Nat} (hs : s < 2 ^ 64) (h : ∀ j, j < 64 → (s.testBit j = true ↔ p j)) : s = setOf p := by
  apply eq_of_low hs (setOf_lt p)
  intro j hj
  rw [Bool.eq_iff_iff, h j hj, testBit_setOf p j hj]

noncomputable def pathN (s0 : Nat) (nx : Nat → Nat) : Nat := setOf (Path s0 nx)

/-- What holds while nodes are looked at, one behind the other. -/
structure Look (s0 : Nat) (nx : Nat → Nat) (had now : Nat) : Prop where
  hl : had < 2 ^ 64
  ol : now < 2 ^ 64
  apart : ∀ j, now.testBit j = true → had.testBit j = false
  way : ∀ j, had.testBit j = true ∨ now.testBit j = true → Path s0 nx j
  first : ∀ j, s0.testBit j = true → had.testBit j = true ∨ now.testBit j = true
  next : ∀ i j, had.testBit i = true → (nx i).testBit j = true → had.testBit j = true ∨ now.testBit j = true

theorem Look.start {s0 : Nat} {nx : Nat → Nat} (h : s0 < 2 ^ 64) : Look s0 nx 0 s0 :=
  ⟨by decide, h, fun j _ => Nat.zero_testBit j, fun j hj => by
    rcases hj with hj | hj
    · rw [Nat.zero_testBit] at hj; cases hj
    · exact .one hj, fun j hj => .inr hj, fun i j hi _ => by rw [Nat.zero_testBit] at hi; cases hi⟩

theorem testBit_andNot (a b j : Nat) (hb : b < 2 ^ 64) : (a &&& (18446744073709551615 - b)).testBit j = (a.testBit j && (decide (j < 64) && !b.testBit j)) := by
  have h := Nat.testBit_two_pow_sub_succ hb j
  have e : 2 ^ 64 - (b + 1) = 18446744073709551615 - b := by omega
  rw [e] at h
  rw [Nat.testBit_and, h]

theorem Look.step {s0 : Nat} {nx : Nat → Nat} {had now k : Nat} (h : Look s0 nx had now) (hk : now.testBit k = true) (hn : nx k < 2 ^ 64) :
    Look s0 nx (withN had (k : Int)) ((now ||| nx k) &&& (18446744073709551615 - withN had (k : Int))) := by
  have hk64 := lt_of_testBit h.ol hk
  have hb : ∀ j, (withN had (k : Int)).testBit j = true ↔ (had.testBit j = true ∨ j = k) := by
    intro j
    rw [testBit_withN]
    simp only [Bool.or_eq_true, decide_eq_true_eq]
    constructor
    · rintro (h | h)
      · exact .inl h
      · exact .inr (by omega)
    · rintro (h | h)
      · exact .inl h
      · exact .inr ⟨by omega, by omega⟩
  have hw := withN_lt h.hl (k : Int)
  have ho : ∀ j, ((now ||| nx k) &&& (18446744073709551615 - withN had (k : Int))).testBit j = true ↔ ((now.testBit j = true ∨ (nx k).testBit j = true) ∧ ¬ (had.testBit j = true ∨ j = k)) := by
    intro j
    rw [testBit_andNot _ _ _ hw, Nat.testBit_or]
    simp only [Bool.and_eq_true, Bool.or_eq_true, decide_eq_true_eq, Bool.not_eq_true']
    rw [← hb j]
    constructor
    · rintro ⟨h1, _, h2⟩; exact ⟨h1, by rw [h2]; decide⟩
    · rintro ⟨h1, h2⟩
      refine ⟨h1, ?_, by simpa using h2⟩
      rcases h1 with h1 | h1
      · exact lt_of_testBit h.ol h1
      · exact lt_of_testBit hn h1
  have hpk : Path s0 nx k := h.way k (.inr hk)
  refine ⟨hw, Nat.lt_of_le_of_lt Nat.and_le_left (Nat.or_lt_two_pow h.ol hn), ?_, ?_, ?_, ?_⟩
  · intro j hj
    have := ((ho j).1 hj).2
    rw [← hb j] at this
    simpa using this
  · rintro j (hj | hj)
    · rcases (hb j).1 hj with hj | rfl
      · exact h.way j (.inl hj)
      · exact hpk
    · rcases ((ho j).1 hj).1 with hj | hj
      · exact h.way j (.inr hj)
      · exact .step hpk hj
  · intro j hj
    by_cases hc : had.testBit j = true ∨ j = k
    · exact .inl ((hb j).2 hc)
    · rcases h.first j hj with h1 | h1
      · exact absurd (.inl h1) hc
      · exact .inr ((ho j).2 ⟨.inl h1, hc⟩)
  · intro i j hi hj
    by_cases hc : had.testBit j = true ∨ j = k
    · exact .inl ((hb j).2 hc)
    · rcases (hb i).1 hi with hi | rfl
      · rcases h.next i j hi hj with h1 | h1
        · exact absurd (.inl h1) hc
        · exact .inr ((ho j).2 ⟨.inl h1, hc⟩)
      · exact .inr ((ho j).2 ⟨.inr hj, hc⟩)

theorem withN_grows {had k : Nat} (h : had.testBit k = false) (hk : k < 64) : had < withN had (k : Int) := by
  have hne : had ≠ withN had (k : Int) := by
    intro e
    have := congrArg (fun s => s.testBit k) e
    simp only [testBit_withN] at this
    simp [h, hk] at this
  have hle : had ≤ withN had (k : Int) := Nat.left_le_or
  omega

theorem Look.done {s0 : Nat} {nx : Nat → Nat} {had : Nat} (h : Look s0 nx had 0) : had = pathN s0 nx := by
  have none : ∀ j, ¬ ((0 : Nat).testBit j = true) := fun j hj => by rw [Nat.zero_testBit] at hj; cases hj
  have key : ∀ j, Path s0 nx j → had.testBit j = true := by
    intro j hp
    induction hp with
    | one hj =>
      rcases h.first _ hj with h1 | h1
      · exact h1
      · exact absurd h1 (none _)
    | step _ hj ih =>
      rcases h.next _ _ ih hj with h1 | h1
      · exact h1
      · exact absurd h1 (none _)
  exact eq_setOf h.hl fun j _ => ⟨fun hj => h.way j (.inl hj), key j⟩
end Go.Proofs.YtkgfepnkikcpiaaDoor.PWay
