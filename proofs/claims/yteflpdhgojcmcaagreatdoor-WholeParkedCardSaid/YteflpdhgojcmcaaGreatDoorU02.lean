/- Rows of cells that a slice reads. The walks of slices.Clone. Rows of elements of k cells each: what a cell is, what a store makes of them. Sets of numbers 0 to 63 as natural numbers: what is in a set with one number more, or less, and the row of its numbers. No conditions but those that each theorem names. -/
import Derived.Test.YteflpdhgojcmcaaGreatDoorU01
import Derived.Lib.SliceRun
import Derived.OwnWalk
import Derived.WalkMore
import Derived.WalkSmall
import Derived.Lib.TrailingZeros
namespace Go.Proofs.YteflpdhgojcmcaaGreatDoor
open Go.RowKit
/-- A slice of n elements of k cells reads as a row of cells. -/
def RowAt (w : World) (v : Value) (n k : Nat) (xs : List Value) : Prop :=
  xs.length = n * k ∧ ∃ a cap, v = .slice a n cap ∧ (0 < n → ∃ b off, a = some ⟨b, off, none⟩ ∧ b < w.heap.size ∧ w.rangeAt b off xs)
theorem RowAt.nil (w : World) (k : Nat) : RowAt w (.slice none 0 0) 0 k [] := ⟨by simp, none, 0, rfl, by omega⟩
theorem RowAt.empty (w : World) (a : Option Addr) (cap k : Nat) : RowAt w (.slice a 0 cap) 0 k [] := ⟨by simp, a, cap, rfl, by omega⟩
theorem RowAt.chg {F : Nat → Prop} {w w' : World} {v : Value} {n k : Nat} {xs : List Value} (h : RowAt w v n k xs) (hc : Chg F w w') (hF : ∀ b, v.ownBlock = some b → ¬ F b) : RowAt w' v n k xs := by
  obtain ⟨hl, a, cap, rfl, hx⟩ := h
  refine ⟨hl, a, cap, rfl, fun hn => ?_⟩
  obtain ⟨b, off, rfl, hb, hr⟩ := hx hn
  exact ⟨b, off, rfl, Nat.lt_of_lt_of_le hb hc.size, range_keep hr (hc.block b hb (hF b rfl))⟩
theorem RowAt.below {w w' : World} {v : Value} {n k : Nat} {xs : List Value} (h : RowAt w v n k xs) (hb : Below w.heap.size w w') : RowAt w' v n k xs :=
  h.chg (F := fun _ => False) (Chg.of_below hb) (fun _ _ h => h)
theorem RowAt.of_owns {w : World} {base : Nat} {e : TypeId} {k : Nat} {v : Value} {n : Nat} {xs : List Value} (h : w.ownsRow base e k v n xs) : RowAt w v n k xs := by
  obtain ⟨hl, h⟩ := h
  rcases h with ⟨rfl, rfl⟩ | ⟨g, cap, cur, rfl, _, hg, hnc, _, hsz, htk⟩
  · exact ⟨hl, none, 0, rfl, by omega⟩
  · refine ⟨hl, _, cap, rfl, fun _ => ⟨g, 0, rfl, block_lt hg, fun j u hj => ?_⟩⟩
    rw [cell_of_row _ _ _ _ _ _ hg, ← hj, ← htk]
    have hjl := (List.getElem?_eq_some_iff.1 hj).1
    rw [List.getElem?_take_of_lt (by omega)]
    simp
theorem owns_empty (w : World) (e k : Nat) : (w.alloc (.cells #[] e)).ownsRow w.heap.size e k (.slice (some ⟨w.heap.size, 0, none⟩) 0 0) 0 [] :=
  ⟨by simp, .inr ⟨w.heap.size, 0, #[], rfl, Nat.le_refl _, Go.heap_alloc_new _ _, Nat.le_refl _, by simp, by simp, by simp⟩⟩
/-- A row that the call owns, from a later base. -/
theorem owns_mono {w : World} {B B' : Nat} {e : TypeId} {k : Nat} {v : Value} {n : Nat} {xs : List Value} (h : w.ownsRow B e k v n xs) (hB : B' ≤ B) : w.ownsRow B' e k v n xs := by
  obtain ⟨hl, h⟩ := h
  refine ⟨hl, ?_⟩
  rcases h with h | ⟨g, cap, cur, hv, hg, r⟩
  · exact .inl h
  · exact .inr ⟨g, cap, cur, hv, Nat.le_trans hB hg, r⟩
theorem below_of_grown {w w' w1 : World} {g : Nat} (hb : Below w.heap.size w w1) (hg : w1.grownBy w' (some g)) (h : w.heap.size ≤ g) : Below w.heap.size w w' :=
  hb.grown hg hb.size fun k e => by cases e; exact h
def AllOne (xs : List Value) : Prop := ∀ u ∈ xs, u.oneCell' = true
end Go.Proofs.YteflpdhgojcmcaaGreatDoor
namespace Go.Proofs.YteflpdhgojcmcaaGreatDoor
open Go.RowKit
theorem parts197 : (Tryz.prog.info? 197).map (fun i => (i.zero.map (·.cells.size), i.size, i.bytes)) = some (some 5, 5, 40) := by kernel_rfl
theorem info_197 : ∃ i z, Tryz.prog.info? 197 = some i ∧ i.zero = some z ∧ i.size = 5 ∧ i.bytes = 40 ∧ z.cells.size = 5 := by
  have h := parts197
  cases hi : Tryz.prog.info? 197 with
  | none => rw [hi] at h; cases h
  | some i =>
    rw [hi] at h
    simp only [Option.map_some, Option.some.injEq, Prod.mk.injEq] at h
    obtain ⟨h1, h2, h3⟩ := h
    cases hz : i.zero with
    | none => rw [hz] at h1; cases h1
    | some z =>
      rw [hz] at h1
      exact ⟨i, z, rfl, hz, h2, h3, by simpa using h1⟩
theorem clone326 (v : Value) (n : Nat) (xs : List Value) (w : World) (hv : RowAt w v n 5 xs) (h1 : AllOne xs) (hn : n ≤ 100000) :
    Calls Tryz.prog 326 #[v] w fun e w' => ∃ v', e = .returned v' ∧ w'.ownsRow w.heap.size 197 5 v' n xs ∧ Below w.heap.size w w' := by
  obtain ⟨i, z, hi, hz0, hz1, hz2, hz3⟩ := info_197
  have qT : ∀ (w : World) (a : Option Addr) (n c n' c' : Nat), (binOp .eql 121 (.slice a n c) (.slice none n' c')).run Tryz.prog w = .ok (.bool a.isNone) w := fun w a n c n' c' => Lib.run_eql_slice_nil w _ _ a n c n' c' Tryz.underlying121
  obtain ⟨hl, a, cap, rfl, hx⟩ := hv
  cases a with
  | none =>
    have h0 : n = 0 := by
      rcases Nat.eq_zero_or_pos n with h | h
      · exact h
      · obtain ⟨_, _, e, _⟩ := hx h
        cases e
    subst h0
    have hl0 : xs = [] := List.length_eq_zero_iff.1 (by simpa using hl)
    subst hl0
    go_enter Tryz.func326, Tryz.ntmps326
    go_wp2_with fail
    go_ret
    exact ⟨_, rfl, World.ownsRow_nil _ _ _ _, Below.refl _ _⟩
  | some ad =>
    have hcell : ∀ j u, xs[j]? = some u → (w.alloc (.cells #[] 197)).cell? (ad.add j) = some u := by
      intro j u hj
      have hjl := (List.getElem?_eq_some_iff.1 hj).1
      have hp : 0 < n := by
        rcases Nat.eq_zero_or_pos n with h | h
        · subst h; simp at hl; rw [hl] at hjl; simp at hjl
        · exact h
      obtain ⟨b, off, e, hb, hr⟩ := hx hp
      cases e
      rw [Addr.add_mid]
      exact (World.cell?_alloc_past _ _ _ hb).trans (hr j u hj)
    have hown := owns_empty w 197 5
    have HX := Lib.hid hcell
    have HL := Lib.hid hl
    clear hx hcell hl
    go_enter Tryz.func326, Tryz.ntmps326
    go_wp2_with (at_builtin; refine wpList_append_own _ rfl _ _ 121 rfl w.heap.size 197 i z 5 40 Tryz.underlying121 hi hz0 hz1 hz2 hz3 (by decide) _ _ _ rfl hown ad n cap xs rfl HL.out HX.out h1 (by unfold maxLen; omega) (by omega) (by simp) ?_)
    intro v' w1 hown1 hgrow _
    have hbel1 : Below w.heap.size w w1 := below_of_grown ((Below.refl _ _).alloc (Nat.le_refl _) _) hgrow (Nat.le_refl _)
    clear hgrow hown
    go_wp2_with fail
    go_ret
    exact ⟨v', rfl, hown1, hbel1⟩
theorem parts50 : (Tryz.prog.info? 50).map (fun i => (i.zero.map (·.cells.size), i.size, i.bytes)) = some (some 5, 5, 40) := by kernel_rfl
theorem info_50 : ∃ i z, Tryz.prog.info? 50 = some i ∧ i.zero = some z ∧ i.size = 5 ∧ i.bytes = 40 ∧ z.cells.size = 5 := by
  have h := parts50
  cases hi : Tryz.prog.info? 50 with
  | none => rw [hi] at h; cases h
  | some i =>
    rw [hi] at h
    simp only [Option.map_some, Option.some.injEq, Prod.mk.injEq] at h
    obtain ⟨h1, h2, h3⟩ := h
    cases hz : i.zero with
    | none => rw [hz] at h1; cases h1
    | some z =>
      rw [hz] at h1
      exact ⟨i, z, rfl, hz, h2, h3, by simpa using h1⟩
theorem clone25 (v : Value) (n : Nat) (xs : List Value) (w : World) (hv : RowAt w v n 5 xs) (h1 : AllOne xs) (hn : n ≤ 100000) :
    Calls Tryz.prog 25 #[v] w fun e w' => ∃ v', e = .returned v' ∧ w'.ownsRow w.heap.size 50 5 v' n xs ∧ Below w.heap.size w w' := by
  obtain ⟨i, z, hi, hz0, hz1, hz2, hz3⟩ := info_50
  have qT : ∀ (w : World) (a : Option Addr) (n c n' c' : Nat), (binOp .eql 51 (.slice a n c) (.slice none n' c')).run Tryz.prog w = .ok (.bool a.isNone) w := fun w a n c n' c' => Lib.run_eql_slice_nil w _ _ a n c n' c' Tryz.underlying51
  obtain ⟨hl, a, cap, rfl, hx⟩ := hv
  cases a with
  | none =>
    have h0 : n = 0 := by
      rcases Nat.eq_zero_or_pos n with h | h
      · exact h
      · obtain ⟨_, _, e, _⟩ := hx h
        cases e
    subst h0
    have hl0 : xs = [] := List.length_eq_zero_iff.1 (by simpa using hl)
    subst hl0
    go_enter Tryz.func25, Tryz.ntmps25
    go_wp2_with fail
    go_ret
    exact ⟨_, rfl, World.ownsRow_nil _ _ _ _, Below.refl _ _⟩
  | some ad =>
    have hcell : ∀ j u, xs[j]? = some u → (w.alloc (.cells #[] 50)).cell? (ad.add j) = some u := by
      intro j u hj
      have hjl := (List.getElem?_eq_some_iff.1 hj).1
      have hp : 0 < n := by
        rcases Nat.eq_zero_or_pos n with h | h
        · subst h; simp at hl; rw [hl] at hjl; simp at hjl
        · exact h
      obtain ⟨b, off, e, hb, hr⟩ := hx hp
      cases e
      rw [Addr.add_mid]
      exact (World.cell?_alloc_past _ _ _ hb).trans (hr j u hj)
    have hown := owns_empty w 50 5
    have HX := Lib.hid hcell
    have HL := Lib.hid hl
    clear hx hcell hl
    go_enter Tryz.func25, Tryz.ntmps25
    go_wp2_with (at_builtin; refine wpList_append_own _ rfl _ _ 51 rfl w.heap.size 50 i z 5 40 Tryz.underlying51 hi hz0 hz1 hz2 hz3 (by decide) _ _ _ rfl hown ad n cap xs rfl HL.out HX.out h1 (by unfold maxLen; omega) (by omega) (by simp) ?_)
    intro v' w1 hown1 hgrow _
    have hbel1 : Below w.heap.size w w1 := below_of_grown ((Below.refl _ _).alloc (Nat.le_refl _) _) hgrow (Nat.le_refl _)
    clear hgrow hown
    go_wp2_with fail
    go_ret
    exact ⟨v', rfl, hown1, hbel1⟩
theorem parts42 : (Tryz.prog.info? 42).map (fun i => (i.zero.map (·.cells.size), i.size, i.bytes)) = some (some 5, 5, 64) := by kernel_rfl
theorem info_42 : ∃ i z, Tryz.prog.info? 42 = some i ∧ i.zero = some z ∧ i.size = 5 ∧ i.bytes = 64 ∧ z.cells.size = 5 := by
  have h := parts42
  cases hi : Tryz.prog.info? 42 with
  | none => rw [hi] at h; cases h
  | some i =>
    rw [hi] at h
    simp only [Option.map_some, Option.some.injEq, Prod.mk.injEq] at h
    obtain ⟨h1, h2, h3⟩ := h
    cases hz : i.zero with
    | none => rw [hz] at h1; cases h1
    | some z =>
      rw [hz] at h1
      exact ⟨i, z, rfl, hz, h2, h3, by simpa using h1⟩
theorem clone62 (v : Value) (n : Nat) (xs : List Value) (w : World) (hv : RowAt w v n 5 xs) (h1 : AllOne xs) (hn : n ≤ 100000) :
    Calls Tryz.prog 62 #[v] w fun e w' => ∃ v', e = .returned v' ∧ w'.ownsRow w.heap.size 42 5 v' n xs ∧ Below w.heap.size w w' := by
  obtain ⟨i, z, hi, hz0, hz1, hz2, hz3⟩ := info_42
  have qT : ∀ (w : World) (a : Option Addr) (n c n' c' : Nat), (binOp .eql 38 (.slice a n c) (.slice none n' c')).run Tryz.prog w = .ok (.bool a.isNone) w := fun w a n c n' c' => Lib.run_eql_slice_nil w _ _ a n c n' c' Tryz.underlying38
  obtain ⟨hl, a, cap, rfl, hx⟩ := hv
  cases a with
  | none =>
    have h0 : n = 0 := by
      rcases Nat.eq_zero_or_pos n with h | h
      · exact h
      · obtain ⟨_, _, e, _⟩ := hx h
        cases e
    subst h0
    have hl0 : xs = [] := List.length_eq_zero_iff.1 (by simpa using hl)
    subst hl0
    go_enter Tryz.func62, Tryz.ntmps62
    go_wp2_with fail
    go_ret
    exact ⟨_, rfl, World.ownsRow_nil _ _ _ _, Below.refl _ _⟩
  | some ad =>
    have hcell : ∀ j u, xs[j]? = some u → (w.alloc (.cells #[] 42)).cell? (ad.add j) = some u := by
      intro j u hj
      have hjl := (List.getElem?_eq_some_iff.1 hj).1
      have hp : 0 < n := by
        rcases Nat.eq_zero_or_pos n with h | h
        · subst h; simp at hl; rw [hl] at hjl; simp at hjl
        · exact h
      obtain ⟨b, off, e, hb, hr⟩ := hx hp
      cases e
      rw [Addr.add_mid]
      exact (World.cell?_alloc_past _ _ _ hb).trans (hr j u hj)
    have hown := owns_empty w 42 5
    have HX := Lib.hid hcell
    have HL := Lib.hid hl
    clear hx hcell hl
    go_enter Tryz.func62, Tryz.ntmps62
    go_wp2_with (at_builtin; refine wpList_append_own _ rfl _ _ 38 rfl w.heap.size 42 i z 5 64 Tryz.underlying38 hi hz0 hz1 hz2 hz3 (by decide) _ _ _ rfl hown ad n cap xs rfl HL.out HX.out h1 (by unfold maxLen; omega) (by omega) (by simp) ?_)
    intro v' w1 hown1 hgrow _
    have hbel1 : Below w.heap.size w w1 := below_of_grown ((Below.refl _ _).alloc (Nat.le_refl _) _) hgrow (Nat.le_refl _)
    clear hgrow hown
    go_wp2_with fail
    go_ret
    exact ⟨v', rfl, hown1, hbel1⟩
theorem parts155 : (Tryz.prog.info? 155).map (fun i => (i.zero.map (·.cells.size), i.size, i.bytes)) = some (some 4, 4, 32) := by kernel_rfl
theorem info_155 : ∃ i z, Tryz.prog.info? 155 = some i ∧ i.zero = some z ∧ i.size = 4 ∧ i.bytes = 32 ∧ z.cells.size = 4 := by
  have h := parts155
  cases hi : Tryz.prog.info? 155 with
  | none => rw [hi] at h; cases h
  | some i =>
    rw [hi] at h
    simp only [Option.map_some, Option.some.injEq, Prod.mk.injEq] at h
    obtain ⟨h1, h2, h3⟩ := h
    cases hz : i.zero with
    | none => rw [hz] at h1; cases h1
    | some z =>
      rw [hz] at h1
      exact ⟨i, z, rfl, hz, h2, h3, by simpa using h1⟩
theorem clone63 (v : Value) (n : Nat) (xs : List Value) (w : World) (hv : RowAt w v n 4 xs) (h1 : AllOne xs) (hn : n ≤ 100000) :
    Calls Tryz.prog 63 #[v] w fun e w' => ∃ v', e = .returned v' ∧ w'.ownsRow w.heap.size 155 4 v' n xs ∧ Below w.heap.size w w' := by
  obtain ⟨i, z, hi, hz0, hz1, hz2, hz3⟩ := info_155
  have qT : ∀ (w : World) (a : Option Addr) (n c n' c' : Nat), (binOp .eql 40 (.slice a n c) (.slice none n' c')).run Tryz.prog w = .ok (.bool a.isNone) w := fun w a n c n' c' => Lib.run_eql_slice_nil w _ _ a n c n' c' Tryz.underlying40
  obtain ⟨hl, a, cap, rfl, hx⟩ := hv
  cases a with
  | none =>
    have h0 : n = 0 := by
      rcases Nat.eq_zero_or_pos n with h | h
      · exact h
      · obtain ⟨_, _, e, _⟩ := hx h
        cases e
    subst h0
    have hl0 : xs = [] := List.length_eq_zero_iff.1 (by simpa using hl)
    subst hl0
    go_enter Tryz.func63, Tryz.ntmps63
    go_wp2_with fail
    go_ret
    exact ⟨_, rfl, World.ownsRow_nil _ _ _ _, Below.refl _ _⟩
  | some ad =>
    have hcell : ∀ j u, xs[j]? = some u → (w.alloc (.cells #[] 155)).cell? (ad.add j) = some u := by
      intro j u hj
      have hjl := (List.getElem?_eq_some_iff.1 hj).1
      have hp : 0 < n := by
        rcases Nat.eq_zero_or_pos n with h | h
        · subst h; simp at hl; rw [hl] at hjl; simp at hjl
        · exact h
      obtain ⟨b, off, e, hb, hr⟩ := hx hp
      cases e
      rw [Addr.add_mid]
      exact (World.cell?_alloc_past _ _ _ hb).trans (hr j u hj)
    have hown := owns_empty w 155 4
    have HX := Lib.hid hcell
    have HL := Lib.hid hl
    clear hx hcell hl
    go_enter Tryz.func63, Tryz.ntmps63
    go_wp2_with (at_builtin; refine wpList_append_own _ rfl _ _ 40 rfl w.heap.size 155 i z 4 32 Tryz.underlying40 hi hz0 hz1 hz2 hz3 (by decide) _ _ _ rfl hown ad n cap xs rfl HL.out HX.out h1 (by unfold maxLen; omega) (by omega) (by simp) ?_)
    intro v' w1 hown1 hgrow _
    have hbel1 : Below w.heap.size w w1 := below_of_grown ((Below.refl _ _).alloc (Nat.le_refl _) _) hgrow (Nat.le_refl _)
    clear hgrow hown
    go_wp2_with fail
    go_ret
    exact ⟨v', rfl, hown1, hbel1⟩
theorem parts193 : (Tryz.prog.info? 193).map (fun i => (i.zero.map (·.cells.size), i.size, i.bytes)) = some (some 5, 5, 40) := by kernel_rfl
theorem info_193 : ∃ i z, Tryz.prog.info? 193 = some i ∧ i.zero = some z ∧ i.size = 5 ∧ i.bytes = 40 ∧ z.cells.size = 5 := by
  have h := parts193
  cases hi : Tryz.prog.info? 193 with
  | none => rw [hi] at h; cases h
  | some i =>
    rw [hi] at h
    simp only [Option.map_some, Option.some.injEq, Prod.mk.injEq] at h
    obtain ⟨h1, h2, h3⟩ := h
    cases hz : i.zero with
    | none => rw [hz] at h1; cases h1
    | some z =>
      rw [hz] at h1
      exact ⟨i, z, rfl, hz, h2, h3, by simpa using h1⟩
theorem clone99 (v : Value) (n : Nat) (xs : List Value) (w : World) (hv : RowAt w v n 5 xs) (h1 : AllOne xs) (hn : n ≤ 100000) :
    Calls Tryz.prog 99 #[v] w fun e w' => ∃ v', e = .returned v' ∧ w'.ownsRow w.heap.size 193 5 v' n xs ∧ Below w.heap.size w w' := by
  obtain ⟨i, z, hi, hz0, hz1, hz2, hz3⟩ := info_193
  have qT : ∀ (w : World) (a : Option Addr) (n c n' c' : Nat), (binOp .eql 65 (.slice a n c) (.slice none n' c')).run Tryz.prog w = .ok (.bool a.isNone) w := fun w a n c n' c' => Lib.run_eql_slice_nil w _ _ a n c n' c' Tryz.underlying65
  obtain ⟨hl, a, cap, rfl, hx⟩ := hv
  cases a with
  | none =>
    have h0 : n = 0 := by
      rcases Nat.eq_zero_or_pos n with h | h
      · exact h
      · obtain ⟨_, _, e, _⟩ := hx h
        cases e
    subst h0
    have hl0 : xs = [] := List.length_eq_zero_iff.1 (by simpa using hl)
    subst hl0
    go_enter Tryz.func99, Tryz.ntmps99
    go_wp2_with fail
    go_ret
    exact ⟨_, rfl, World.ownsRow_nil _ _ _ _, Below.refl _ _⟩
  | some ad =>
    have hcell : ∀ j u, xs[j]? = some u → (w.alloc (.cells #[] 193)).cell? (ad.add j) = some u := by
      intro j u hj
      have hjl := (List.getElem?_eq_some_iff.1 hj).1
      have hp : 0 < n := by
        rcases Nat.eq_zero_or_pos n with h | h
        · subst h; simp at hl; rw [hl] at hjl; simp at hjl
        · exact h
      obtain ⟨b, off, e, hb, hr⟩ := hx hp
      cases e
      rw [Addr.add_mid]
      exact (World.cell?_alloc_past _ _ _ hb).trans (hr j u hj)
    have hown := owns_empty w 193 5
    have HX := Lib.hid hcell
    have HL := Lib.hid hl
    clear hx hcell hl
    go_enter Tryz.func99, Tryz.ntmps99
    go_wp2_with (at_builtin; refine wpList_append_own _ rfl _ _ 65 rfl w.heap.size 193 i z 5 40 Tryz.underlying65 hi hz0 hz1 hz2 hz3 (by decide) _ _ _ rfl hown ad n cap xs rfl HL.out HX.out h1 (by unfold maxLen; omega) (by omega) (by simp) ?_)
    intro v' w1 hown1 hgrow _
    have hbel1 : Below w.heap.size w w1 := below_of_grown ((Below.refl _ _).alloc (Nat.le_refl _) _) hgrow (Nat.le_refl _)
    clear hgrow hown
    go_wp2_with fail
    go_ret
    exact ⟨v', rfl, hown1, hbel1⟩
theorem parts53 : (Tryz.prog.info? 53).map (fun i => (i.zero.map (·.cells.size), i.size, i.bytes)) = some (some 2, 2, 16) := by kernel_rfl
theorem info_53 : ∃ i z, Tryz.prog.info? 53 = some i ∧ i.zero = some z ∧ i.size = 2 ∧ i.bytes = 16 ∧ z.cells.size = 2 := by
  have h := parts53
  cases hi : Tryz.prog.info? 53 with
  | none => rw [hi] at h; cases h
  | some i =>
    rw [hi] at h
    simp only [Option.map_some, Option.some.injEq, Prod.mk.injEq] at h
    obtain ⟨h1, h2, h3⟩ := h
    cases hz : i.zero with
    | none => rw [hz] at h1; cases h1
    | some z =>
      rw [hz] at h1
      exact ⟨i, z, rfl, hz, h2, h3, by simpa using h1⟩
theorem clone134 (v : Value) (n : Nat) (xs : List Value) (w : World) (hv : RowAt w v n 2 xs) (h1 : AllOne xs) (hn : n ≤ 100000) :
    Calls Tryz.prog 134 #[v] w fun e w' => ∃ v', e = .returned v' ∧ w'.ownsRow w.heap.size 53 2 v' n xs ∧ Below w.heap.size w w' := by
  obtain ⟨i, z, hi, hz0, hz1, hz2, hz3⟩ := info_53
  have qT : ∀ (w : World) (a : Option Addr) (n c n' c' : Nat), (binOp .eql 61 (.slice a n c) (.slice none n' c')).run Tryz.prog w = .ok (.bool a.isNone) w := fun w a n c n' c' => Lib.run_eql_slice_nil w _ _ a n c n' c' Tryz.underlying61
  obtain ⟨hl, a, cap, rfl, hx⟩ := hv
  cases a with
  | none =>
    have h0 : n = 0 := by
      rcases Nat.eq_zero_or_pos n with h | h
      · exact h
      · obtain ⟨_, _, e, _⟩ := hx h
        cases e
    subst h0
    have hl0 : xs = [] := List.length_eq_zero_iff.1 (by simpa using hl)
    subst hl0
    go_enter Tryz.func134, Tryz.ntmps134
    go_wp2_with fail
    go_ret
    exact ⟨_, rfl, World.ownsRow_nil _ _ _ _, Below.refl _ _⟩
  | some ad =>
    have hcell : ∀ j u, xs[j]? = some u → (w.alloc (.cells #[] 53)).cell? (ad.add j) = some u := by
      intro j u hj
      have hjl := (List.getElem?_eq_some_iff.1 hj).1
      have hp : 0 < n := by
        rcases Nat.eq_zero_or_pos n with h | h
        · subst h; simp at hl; rw [hl] at hjl; simp at hjl
        · exact h
      obtain ⟨b, off, e, hb, hr⟩ := hx hp
      cases e
      rw [Addr.add_mid]
      exact (World.cell?_alloc_past _ _ _ hb).trans (hr j u hj)
    have hown := owns_empty w 53 2
    have HX := Lib.hid hcell
    have HL := Lib.hid hl
    clear hx hcell hl
    go_enter Tryz.func134, Tryz.ntmps134
    go_wp2_with (at_builtin; refine wpList_append_own _ rfl _ _ 61 rfl w.heap.size 53 i z 2 16 Tryz.underlying61 hi hz0 hz1 hz2 hz3 (by decide) _ _ _ rfl hown ad n cap xs rfl HL.out HX.out h1 (by unfold maxLen; omega) (by omega) (by simp) ?_)
    intro v' w1 hown1 hgrow _
    have hbel1 : Below w.heap.size w w1 := below_of_grown ((Below.refl _ _).alloc (Nat.le_refl _) _) hgrow (Nat.le_refl _)
    clear hgrow hown
    go_wp2_with fail
    go_ret
    exact ⟨v', rfl, hown1, hbel1⟩
theorem parts213 : (Tryz.prog.info? 213).map (fun i => (i.zero.map (·.cells.size), i.size, i.bytes)) = some (some 2, 2, 16) := by kernel_rfl
theorem info_213 : ∃ i z, Tryz.prog.info? 213 = some i ∧ i.zero = some z ∧ i.size = 2 ∧ i.bytes = 16 ∧ z.cells.size = 2 := by
  have h := parts213
  cases hi : Tryz.prog.info? 213 with
  | none => rw [hi] at h; cases h
  | some i =>
    rw [hi] at h
    simp only [Option.map_some, Option.some.injEq, Prod.mk.injEq] at h
    obtain ⟨h1, h2, h3⟩ := h
    cases hz : i.zero with
    | none => rw [hz] at h1; cases h1
    | some z =>
      rw [hz] at h1
      exact ⟨i, z, rfl, hz, h2, h3, by simpa using h1⟩
theorem clone159 (v : Value) (n : Nat) (xs : List Value) (w : World) (hv : RowAt w v n 2 xs) (h1 : AllOne xs) (hn : n ≤ 100000) :
    Calls Tryz.prog 159 #[v] w fun e w' => ∃ v', e = .returned v' ∧ w'.ownsRow w.heap.size 213 2 v' n xs ∧ Below w.heap.size w w' := by
  obtain ⟨i, z, hi, hz0, hz1, hz2, hz3⟩ := info_213
  have qT : ∀ (w : World) (a : Option Addr) (n c n' c' : Nat), (binOp .eql 76 (.slice a n c) (.slice none n' c')).run Tryz.prog w = .ok (.bool a.isNone) w := fun w a n c n' c' => Lib.run_eql_slice_nil w _ _ a n c n' c' Tryz.underlying76
  obtain ⟨hl, a, cap, rfl, hx⟩ := hv
  cases a with
  | none =>
    have h0 : n = 0 := by
      rcases Nat.eq_zero_or_pos n with h | h
      · exact h
      · obtain ⟨_, _, e, _⟩ := hx h
        cases e
    subst h0
    have hl0 : xs = [] := List.length_eq_zero_iff.1 (by simpa using hl)
    subst hl0
    go_enter Tryz.func159, Tryz.ntmps159
    go_wp2_with fail
    go_ret
    exact ⟨_, rfl, World.ownsRow_nil _ _ _ _, Below.refl _ _⟩
  | some ad =>
    have hcell : ∀ j u, xs[j]? = some u → (w.alloc (.cells #[] 213)).cell? (ad.add j) = some u := by
      intro j u hj
      have hjl := (List.getElem?_eq_some_iff.1 hj).1
      have hp : 0 < n := by
        rcases Nat.eq_zero_or_pos n with h | h
        · subst h; simp at hl; rw [hl] at hjl; simp at hjl
        · exact h
      obtain ⟨b, off, e, hb, hr⟩ := hx hp
      cases e
      rw [Addr.add_mid]
      exact (World.cell?_alloc_past _ _ _ hb).trans (hr j u hj)
    have hown := owns_empty w 213 2
    have HX := Lib.hid hcell
    have HL := Lib.hid hl
    clear hx hcell hl
    go_enter Tryz.func159, Tryz.ntmps159
    go_wp2_with (at_builtin; refine wpList_append_own _ rfl _ _ 76 rfl w.heap.size 213 i z 2 16 Tryz.underlying76 hi hz0 hz1 hz2 hz3 (by decide) _ _ _ rfl hown ad n cap xs rfl HL.out HX.out h1 (by unfold maxLen; omega) (by omega) (by simp) ?_)
    intro v' w1 hown1 hgrow _
    have hbel1 : Below w.heap.size w w1 := below_of_grown ((Below.refl _ _).alloc (Nat.le_refl _) _) hgrow (Nat.le_refl _)
    clear hgrow hown
    go_wp2_with fail
    go_ret
    exact ⟨v', rfl, hown1, hbel1⟩
theorem parts3 : (Tryz.prog.info? 3).map (fun i => (i.zero.map (·.cells.size), i.size, i.bytes)) = some (some 1, 1, 8) := by kernel_rfl
theorem info_3 : ∃ i z, Tryz.prog.info? 3 = some i ∧ i.zero = some z ∧ i.size = 1 ∧ i.bytes = 8 ∧ z.cells.size = 1 := by
  have h := parts3
  cases hi : Tryz.prog.info? 3 with
  | none => rw [hi] at h; cases h
  | some i =>
    rw [hi] at h
    simp only [Option.map_some, Option.some.injEq, Prod.mk.injEq] at h
    obtain ⟨h1, h2, h3⟩ := h
    cases hz : i.zero with
    | none => rw [hz] at h1; cases h1
    | some z =>
      rw [hz] at h1
      exact ⟨i, z, rfl, hz, h2, h3, by simpa using h1⟩
end Go.Proofs.YteflpdhgojcmcaaGreatDoor
namespace Go.Proofs.YteflpdhgojcmcaaGreatDoor
open Go.RowKit
section
variable {α : Type} {f : α → List Value} {k : Nat}
theorem chunk_length (hf : ∀ a, (f a).length = k) : ∀ s : List α, (s.flatMap f).length = s.length * k
  | [] => by simp
  | a :: s => by rw [List.flatMap_cons, List.length_append, chunk_length hf s, hf, List.length_cons, Nat.succ_mul, Nat.add_comm]
theorem chunk_get (hf : ∀ a, (f a).length = k) : ∀ (s : List α) (x j : Nat) (a : α), s[x]? = some a → j < k → (s.flatMap f)[x * k + j]? = (f a)[j]?
  | [], x, j, a, h, _ => by simp at h
  | b :: s, 0, j, a, h, hj => by
    have e : b = a := by simpa using h
    subst e
    rw [List.flatMap_cons, Nat.zero_mul, Nat.zero_add, List.getElem?_append_left (by rw [hf]; exact hj)]
  | b :: s, x + 1, j, a, h, hj => by
    have h' : s[x]? = some a := by simpa using h
    rw [List.flatMap_cons, List.getElem?_append_right (by rw [hf, Nat.succ_mul]; omega), hf]
    have e : (x + 1) * k + j - k = x * k + j := by rw [Nat.succ_mul]; omega
    rw [e]
    exact chunk_get hf s x j a h' hj
theorem chunk_set (hf : ∀ a, (f a).length = k) : ∀ (s : List α) (x j : Nat) (a b : α) (c : Value), s[x]? = some a → j < k → f b = (f a).set j c → (s.flatMap f).set (x * k + j) c = (s.set x b).flatMap f
  | [], x, j, a, b, c, h, _, _ => by simp at h
  | d :: s, 0, j, a, b, c, h, hj, he => by
    have e : d = a := by simpa using h
    subst e
    rw [List.flatMap_cons, Nat.zero_mul, Nat.zero_add, List.set_append_left _ _ (by rw [hf]; exact hj), List.set_cons_zero, List.flatMap_cons, he]
  | d :: s, x + 1, j, a, b, c, h, hj, he => by
    have h' : s[x]? = some a := by simpa using h
    rw [List.flatMap_cons, List.set_append_right _ _ (by rw [hf, Nat.succ_mul]; omega), hf, List.set_cons_succ, List.flatMap_cons]
    have e : (x + 1) * k + j - k = x * k + j := by rw [Nat.succ_mul]; omega
    rw [e, chunk_set hf s x j a b c h' hj he]
/-- The cells of one element of a row. -/
theorem chunk_range (hf : ∀ a, (f a).length = k) {w : World} {b off : Nat} {s : List α} (h : w.rangeAt b off (s.flatMap f)) {x : Nat} {a : α} (hx : s[x]? = some a) : w.rangeAt b (off + x * k) (f a) := fun j v hj => by
  have hjk : j < k := by rw [← hf a]; exact (List.getElem?_eq_some_iff.1 hj).1
  have := h (x * k + j) v (by rw [chunk_get hf s x j a hx hjk]; exact hj)
  rw [Nat.add_assoc]
  exact this
end
theorem take_set (cur : Array Value) (m i : Nat) (c : Value) : (cur.setIfInBounds i c).toList.take m = (cur.toList.take m).set i c := by
  rw [Array.toList_setIfInBounds, List.take_set]
/-- A variable of a store. -/
structure VarM where
  k : Int
  n : Int
  ver : Int
  wr : Int
  marks : Nat
def VarM.cells (v : VarM) : List Value := [.int .i64 v.k, .int .i64 v.n, .int .i64 v.ver, .int .i64 v.wr, .int .u64 v.marks]
theorem VarM.len (v : VarM) : v.cells.length = 5 := rfl
def storeC (s : List VarM) : List Value := s.flatMap VarM.cells
theorem storeC_length (s : List VarM) : (storeC s).length = s.length * 5 := chunk_length VarM.len s
theorem storeC_one (s : List VarM) : AllOne (storeC s) := by
  intro u hu
  obtain ⟨v, _, h⟩ := List.mem_flatMap.1 hu
  simp only [VarM.cells, List.mem_cons, List.not_mem_nil, or_false] at h
  rcases h with rfl | rfl | rfl | rfl | rfl <;> rfl
end Go.Proofs.YteflpdhgojcmcaaGreatDoor
namespace Go.Proofs.YteflpdhgojcmcaaGreatDoor.PSet
/-- The bit of a number; 0: it may be in none. -/
def bitN (i : Int) : Nat := if 0 ≤ i ∧ i ≤ 63 then 2 ^ i.toNat else 0
/-- Whether a number is in a set. -/
def hasB (s : Nat) (i : Int) : Bool := decide (0 ≤ i ∧ i ≤ 63) && s.testBit i.toNat
def withN (s : Nat) (i : Int) : Nat := s ||| bitN i
def lessN (s : Nat) (i : Int) : Nat := s &&& (18446744073709551615 - bitN i)
/-- All numbers of a set, rising. -/
def itemsN (s : Nat) : List Nat := (List.range 64).filter fun i => s.testBit i
/-- The least number; -1: there is none. -/
def firstN (s : Nat) : Int := match itemsN s with | [] => -1 | a :: _ => a
def ofN (l : List Int) : Nat := l.foldl withN 0
theorem bitN_lt (i : Int) : bitN i < 2 ^ 64 := by
  unfold bitN
  split
  · exact Nat.pow_lt_pow_right (by decide) (by omega)
  · decide
theorem bitN_far {i : Int} (h : ¬ (0 ≤ i ∧ i ≤ 63)) : bitN i = 0 := by simp [bitN, h]
theorem bitN_near {i : Int} (h : 0 ≤ i ∧ i ≤ 63) : bitN i = 2 ^ i.toNat := by simp [bitN, h]
theorem testBit_bitN (i : Int) (j : Nat) : (bitN i).testBit j = decide (i = (j : Int) ∧ j < 64) := by
  unfold bitN
  split
  · rename_i h
    rw [Nat.testBit_two_pow]
    congr 1
    apply propext
    omega
  · rename_i h
    simp
    omega
theorem lt_of_testBit {s j : Nat} (hs : s < 2 ^ 64) (h : s.testBit j = true) : j < 64 := by
  by_cases hj : j < 64
  · exact hj
  · have : s.testBit j = false := Nat.testBit_lt_two_pow (Nat.lt_of_lt_of_le hs (Nat.pow_le_pow_right (by decide) (by omega)))
    rw [this] at h; cases h
theorem testBit_withN (s : Nat) (i : Int) (j : Nat) : (withN s i).testBit j = (s.testBit j || decide (i = (j : Int) ∧ j < 64)) := by
  unfold withN
  rw [Nat.testBit_or, testBit_bitN]
theorem testBit_lessN (s : Nat) (i : Int) (j : Nat) : (lessN s i).testBit j = (s.testBit j && decide (j < 64) && !decide (i = (j : Int))) := by
  unfold lessN
  have h := Nat.testBit_two_pow_sub_succ (bitN_lt i) j
  have e : 2 ^ 64 - (bitN i + 1) = 18446744073709551615 - bitN i := by omega
  rw [e] at h
  rw [Nat.testBit_and, h, testBit_bitN, Bool.and_assoc]
  congr 1
  by_cases h1 : j < 64 <;> by_cases h2 : i = (j : Int) <;> simp [h1, h2]
theorem withN_lt {s : Nat} (hs : s < 2 ^ 64) (i : Int) : withN s i < 2 ^ 64 := Nat.or_lt_two_pow hs (bitN_lt i)
theorem lessN_lt {s : Nat} (hs : s < 2 ^ 64) (i : Int) : lessN s i < 2 ^ 64 := Nat.lt_of_le_of_lt Nat.and_le_left hs
theorem ofN_lt (l : List Int) : ofN l < 2 ^ 64 := by
  unfold ofN
  have : ∀ (l : List Int) (s : Nat), s < 2 ^ 64 → l.foldl withN s < 2 ^ 64 := by
    intro l
    induction l with
    | nil => intro s h; exact h
    | cons a l ih => intro s h; exact ih _ (withN_lt h a)
  exact this l 0 (by decide)
/-- Two sets are one, if each number is in both or in none. -/
theorem eq_of_low {a b : Nat} (ha : a < 2 ^ 64) (hb : b < 2 ^ 64) (h : ∀ j, j < 64 → a.testBit j = b.testBit j) : a = b := by
  apply Nat.eq_of_testBit_eq
  intro j
  by_cases hj : j < 64
  · exact h j hj
  · have h64 : 2 ^ 64 ≤ 2 ^ j := Nat.pow_le_pow_right (by decide) (by omega)
    rw [Nat.testBit_lt_two_pow (Nat.lt_of_lt_of_le ha h64), Nat.testBit_lt_two_pow (Nat.lt_of_lt_of_le hb h64)]
theorem itemsN_zero : itemsN 0 = [] := by
  simp [itemsN]
theorem itemsN_length_le (s : Nat) : (itemsN s).length ≤ 64 := by
  unfold itemsN
  exact Nat.le_trans (List.length_filter_le _ _) (by simp)
/-- The row of a filter: its first one, and the rest. -/
theorem filter_range_cons (p : Nat → Bool) (n k : Nat) (hk : k < n) (hp : p k = true) (hl : ∀ j, j < k → p j = false) :
    (List.range n).filter p = k :: (List.range n).filter fun j => p j && !decide (k = j) := by
  have hsplit : List.range n = List.range k ++ (k :: List.range' (k + 1) (n - k - 1)) := by
    rw [List.range_eq_range', List.range_eq_range']
    have e : n = k + ((n - k - 1) + 1) := by omega
    have h1 := List.range'_append_1 (s := 0) (m := k) (n := (n - k - 1) + 1)
    rw [Nat.zero_add, List.range'_succ] at h1
    rw [h1]
    congr 1
  rw [hsplit, List.filter_append, List.filter_append]
  have h0 : (List.range k).filter p = [] := by
    rw [List.filter_eq_nil_iff]
    intro a ha
    rw [hl a (by simpa using ha)]
    decide
  have h1 : (List.range k).filter (fun j => p j && !decide (k = j)) = [] := by
    rw [List.filter_eq_nil_iff]
    intro a ha
    rw [hl a (by simpa using ha)]
    simp
  rw [h0, h1, List.nil_append, List.nil_append, List.filter_cons_of_pos hp, List.filter_cons_of_neg (by simp)]
  congr 1
  apply List.filter_congr
  intro a ha
  have : k + 1 ≤ a := (List.mem_range'_1.1 ha).1
  have : ¬ (k = a) := by omega
  simp [this]
/-- The numbers of a set that is not empty: its least one, and those of the rest. -/
theorem itemsN_cons {s k : Nat} (hk : k < 64) (hp : s.testBit k = true) (hl : ∀ j, j < k → s.testBit j = false) :
    itemsN s = k :: itemsN (lessN s (k : Int)) := by
  unfold itemsN
  rw [filter_range_cons (fun i => s.testBit i) 64 k hk hp hl]
  congr 1
  apply List.filter_congr
  intro a ha
  rw [testBit_lessN]
  have h64 : a < 64 := by simpa using ha
  by_cases e : k = a
  · subst e; simp
  · have : ¬ ((k : Int) = (a : Int)) := by omega
    simp [h64, e, this]
/-- The least number by the machine's way. -/
theorem ctz_spec {s : Nat} (h0 : s ≠ 0) (hs : s < 2 ^ 64) : Lib.ctz 64 s < 64 ∧ s.testBit (Lib.ctz 64 s) = true ∧ ∀ j, j < Lib.ctz 64 s → s.testBit j = false := by
  have hx := Lib.ctzFrom_spec 64 s (by omega) hs
  have e : Lib.ctz 64 s = Lib.ctzFrom 64 s := by simp [Lib.ctz, h0]
  obtain ⟨m, hm, hk⟩ := hx
  rw [e]
  refine ⟨hk, ?_, ?_⟩
  · generalize Lib.ctzFrom 64 s = c at *
    rw [hm, Nat.testBit_two_pow_mul]
    simp
  · intro j hj
    generalize Lib.ctzFrom 64 s = c at *
    rw [hm, Nat.testBit_two_pow_mul]
    have : ¬ (c ≤ j) := by omega
    simp [this]
theorem firstN_ctz {s : Nat} (h0 : s ≠ 0) (hs : s < 2 ^ 64) : firstN s = (Lib.ctz 64 s : Int) := by
  obtain ⟨h1, h2, h3⟩ := ctz_spec h0 hs
  unfold firstN
  rw [itemsN_cons h1 h2 h3]
theorem firstN_zero : firstN 0 = -1 := by
  unfold firstN
  rw [itemsN_zero]
/-- The first one of a set that is not empty. -/
theorem first_spec {s : Nat} (h0 : s ≠ 0) (hs : s < 2 ^ 64) : ∃ k : Nat, firstN s = (k : Int) ∧ k < 64 ∧ s.testBit k = true ∧ itemsN s = k :: itemsN (lessN s (k : Int)) := by
  obtain ⟨h1, h2, h3⟩ := ctz_spec h0 hs
  exact ⟨_, firstN_ctz h0 hs, h1, h2, itemsN_cons h1 h2 h3⟩
end Go.Proofs.YteflpdhgojcmcaaGreatDoor.PSet
