/- The walk of the document's Sum (package ref01); and what the document's Reach (ref03) comes to, in plain words. -/
import Derived.Test.YtkgfepnkikcpiaaDoorM10
namespace Go.Proofs.YtkgfepnkikcpiaaDoor
open Go.RowKit
open PSet PMat PWay

theorem half_bit (s j : Nat) : s / 2 ^ j = 2 * (s / 2 ^ (j + 1)) + (if s.testBit j = true then 1 else 0) := by
  have h := shr_bit s j
  have e : s / 2 ^ (j + 1) = s / 2 ^ j / 2 := by rw [Nat.pow_succ, Nat.div_div_eq_div_mul]
  rw [e]
  split
  · rename_i hb; have := h.2 hb; omega
  · rename_i hb; have : ¬ (s / 2 ^ j % 2 = 1) := fun x => hb (h.1 x); omega

set_option maxRecDepth 100000 in
/-- ref01.Sum. -/
theorem sum_any (s : Nat) (w : World) (hs : s < 2 ^ 64) :
    Calls Tryd.prog 57 #[.agg (boolsV (bitsL s))] w fun e w' => e = .returned (.int .u64 (s : Nat)) ∧ Below w.heap.size w w' := by
  have HB : Bools (w.alloc (.cells (boolsV (bitsL s)) 65)) w.heap.size 65 (bitsL s) := heap_alloc_new _ _
  have hbe : Below w.heap.size w (w.alloc (.cells (boolsV (bitsL s)) 65)) := (Below.refl _ _).alloc (Nat.le_refl _) _
  have G := Lib.hid HB
  have BE := Lib.hid hbe
  have HS := Lib.hid hs
  clear HB hbe hs
  go_enter Tryd.func57, Tryd.ntmps57
  go_wp2_with fail
  go_loop [3, 4] (fun z i => ∃ k : Nat, k ≤ 64 ∧ i = .int .i64 ((k : Int) - 1) ∧ z = .int .u64 ((s / 2 ^ k : Nat) : Int)) (fun _ i => (intOf i + 1).toNat)
  case atStart =>
    refine ⟨64, Nat.le_refl _, rfl, ?_⟩
    rw [Nat.div_eq_of_lt HS.out]
    rfl
  case round =>
    obtain ⟨k, hk, rfl, rfl⟩ := hrel
    by_cases hk0 : 0 < k
    · obtain ⟨j, rfl⟩ : ∃ j, k = j + 1 := ⟨k - 1, by omega⟩
      have hj : (((j + 1 : Nat) : Int) - 1) = (j : Int) := by omega
      have hc := G.out.cell (k := j) (by rw [bitsL_length]; omega)
      rw [bitsL_get s j (by omega)] at hc
      have hh := half_bit s j
      have hlt : s / 2 ^ j < 2 ^ 64 := Nat.lt_of_le_of_lt (Nat.div_le_self _ _) HS.out
      rw [hj]
      obtain ⟨q, hq⟩ : ∃ q, q = s / 2 ^ (j + 1) := ⟨_, rfl⟩
      rw [← hq] at hh ⊢
      obtain ⟨r, hr⟩ : ∃ r, r = s / 2 ^ j := ⟨_, rfl⟩
      rw [← hr] at hh hlt
      cases hb : s.testBit j
      · rw [hb] at hc hh
        have hw : IntKind.u64.wrap ((q : Int) * 2) = (r : Int) := by
          rw [IntKind.wrap_u64]
          simp at hh
          omega
        have HR := Lib.hid hr
        clear hq hr hb hh hlt
        go_wp2_with fail
        go_round
        case rel => exact ⟨j, by omega, by go_num, by rw [← HR.out]⟩
        case measure => simp [intOf]
      · rw [hb] at hc hh
        have hw : IntKind.u64.wrap ((q : Int) * 2) = ((2 * q : Nat) : Int) := by
          rw [IntKind.wrap_u64]
          simp at hh
          omega
        have hw2 : IntKind.u64.wrap (((2 * q : Nat) : Int) + 1) = (r : Int) := by
          rw [IntKind.wrap_u64]
          simp at hh
          omega
        generalize 2 * q = q2 at *
        have HR := Lib.hid hr
        clear hq hr hb hh hlt
        go_wp2_with fail
        go_round
        case rel => exact ⟨j, by omega, by go_num, by rw [← HR.out]⟩
        case measure => simp [intOf]
    · have e : k = 0 := by omega
      subst e
      go_wp2_with fail
      go_ret
      exact ⟨by simp, BE.out⟩

/-! Seen: nodes that are in; nodes that were looked at. -/
structure Seen (s0 : Nat) (nx : Nat → Nat) (had ins : Nat) : Prop where
  hl : had < 2 ^ 64
  il : ins < 2 ^ 64
  low : ∀ j, ins.testBit j = true → j < 32
  sub : ∀ j, had.testBit j = true → ins.testBit j = true
  way : ∀ j, ins.testBit j = true → Path s0 nx j
  first : ∀ j, s0.testBit j = true → ins.testBit j = true
  next : ∀ i j, had.testBit i = true → (nx i).testBit j = true → ins.testBit j = true
theorem Seen.start {s0 : Nat} {nx : Nat → Nat} (h : s0 < 2 ^ 64) (hl : ∀ j, s0.testBit j = true → j < 32) : Seen s0 nx 0 s0 :=
  ⟨by decide, h, hl, fun j hj => absurd hj (by rw [Nat.zero_testBit]; decide), fun j hj => .one hj, fun j hj => hj, fun i j hi _ => absurd hi (by rw [Nat.zero_testBit]; decide)⟩
theorem Seen.step {s0 : Nat} {nx : Nat → Nat} {had ins k : Nat} (h : Seen s0 nx had ins) (hk : ins.testBit k = true) (hn : nx k < 2 ^ 64) (hl : ∀ j, (nx k).testBit j = true → j < 32) : Seen s0 nx (withN had (k : Int)) (ins ||| nx k) := by
  have hk32 := h.low k hk
  have hb : ∀ j, (withN had (k : Int)).testBit j = true ↔ (had.testBit j = true ∨ j = k) := by
    intro j
    rw [testBit_withN]
    simp only [Bool.or_eq_true, decide_eq_true_eq]
    constructor
    · rintro (h | h)
      · exact .inl h
      · exact .inr (by omega)
    · rintro (h | h)
      · exact .inl h
      · exact .inr ⟨by omega, by omega⟩
  have ho : ∀ j, (ins ||| nx k).testBit j = true ↔ (ins.testBit j = true ∨ (nx k).testBit j = true) := by
    intro j; rw [Nat.testBit_or, Bool.or_eq_true]
  refine ⟨withN_lt h.hl _, Nat.or_lt_two_pow h.il hn, ?_, ?_, ?_, ?_, ?_⟩
  · intro j hj
    rcases (ho j).1 hj with hj | hj
    · exact h.low j hj
    · exact hl j hj
  · intro j hj
    rcases (hb j).1 hj with hj | rfl
    · exact (ho j).2 (.inl (h.sub j hj))
    · exact (ho j).2 (.inl hk)
  · intro j hj
    rcases (ho j).1 hj with hj | hj
    · exact h.way j hj
    · exact .step (h.way k hk) hj
  · intro j hj
    exact (ho j).2 (.inl (h.first j hj))
  · intro i j hi hj
    rcases (hb i).1 hi with hi | rfl
    · exact (ho j).2 (.inl (h.next i j hi hj))
    · exact (ho j).2 (.inr hj)
theorem Seen.done {s0 : Nat} {nx : Nat → Nat} {had ins : Nat} (h : Seen s0 nx had ins) (hall : ∀ j, j < 32 → ins.testBit j = true → had.testBit j = true) : ins = pathN s0 nx := by
  have key : ∀ j, Path s0 nx j → ins.testBit j = true := by
    intro j hp
    induction hp with
    | one hj => exact h.first _ hj
    | step _ hj ih => exact h.next _ _ (hall _ (h.low _ ih) ih) hj
  exact eq_setOf h.il fun j _ => ⟨fun hj => h.way j hj, key j⟩

/-- The numbers of one set, and of the first c of another. -/
def orTo (i o c : Nat) : List Bool := (List.range 64).map fun j => i.testBit j || (decide (j < c) && o.testBit j)
theorem orTo_length (i o c : Nat) : (orTo i o c).length = 64 := by simp [orTo]
theorem orTo_get (i o c k : Nat) (hk : k < 64) : (orTo i o c).getD k false = (i.testBit k || (decide (k < c) && o.testBit k)) := by simp [orTo, List.getD, hk]
theorem orTo_zero (i o : Nat) : orTo i o 0 = bitsL i := by simp [orTo, bitsL]
theorem orTo_succ (i o c : Nat) : (orTo i o c).set c (i.testBit c || o.testBit c) = orTo i o (c + 1) := by
  apply List.ext_getElem
  · simp [orTo]
  · intro j h1 h2
    rw [List.getElem_set]
    by_cases e : c = j
    · subst e
      simp [orTo]
    · rw [if_neg e]
      simp only [orTo, List.getElem_map, List.getElem_range]
      have : (j < c) ↔ (j < c + 1) := by omega
      simp only [this]
theorem orTo_all (i o : Nat) (hl : ∀ j, o.testBit j = true → j < 32) : orTo i o 32 = bitsL (i ||| o) := by
  unfold orTo bitsL
  apply List.map_congr_left
  intro j _
  rw [Nat.testBit_or]
  cases h : o.testBit j
  · simp
  · simp [hl j h]
theorem bitsL_with (s k : Nat) (hk : k < 64) : (bitsL s).set k true = bitsL (withN s (k : Int)) := by
  apply List.ext_getElem
  · simp [bitsL]
  · intro j h1 h2
    rw [List.getElem_set]
    simp only [bitsL, List.getElem_map, List.getElem_range, testBit_withN]
    by_cases e : k = j
    · subst e
      simp [hk]
    · have : ¬ ((k : Int) = (j : Int) ∧ j < 64) := by omega
      simp [e, this]
theorem bitsL_inj {s t : Nat} (hs : s < 2 ^ 64) (ht : t < 2 ^ 64) (h : bitsL s = bitsL t) : s = t := by
  apply eq_of_low hs ht
  intro j hj
  rw [← bitsL_get s j hj, ← bitsL_get t j hj, h]
theorem bitsL_none : bitsL 0 = List.replicate 64 false := by
  unfold bitsL
  rw [List.eq_replicate_iff]
  simp

open Classical in
/-- The set that lies in a block. -/
noncomputable def setIn (X : World) (g : Nat) : Nat := if h : ∃ s, s < 2 ^ 64 ∧ Bools X g 65 (bitsL s) then h.choose else 0
theorem boolsV_inj {l l' : List Bool} (h : boolsV l = boolsV l') : l = l' := by
  have h2 := congrArg Array.toList h
  simp only [boolsV] at h2
  exact (List.map_inj_right (fun a b e => by injection e)).1 h2
theorem setIn_eq {X : World} {g s : Nat} (hs : s < 2 ^ 64) (h : Bools X g 65 (bitsL s)) : setIn X g = s := by
  have hx : ∃ s, s < 2 ^ 64 ∧ Bools X g 65 (bitsL s) := ⟨s, hs, h⟩
  unfold setIn
  rw [dif_pos hx]
  have h2 := hx.choose_spec
  refine bitsL_inj h2.1 hs (boolsV_inj ?_)
  have h3 := h2.2
  have h4 := h3.symm.trans h
  injection h4 with h4
  injection h4 with h4
end Go.Proofs.YtkgfepnkikcpiaaDoor
