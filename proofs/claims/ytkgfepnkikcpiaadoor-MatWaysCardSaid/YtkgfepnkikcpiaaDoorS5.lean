/- set.Items' contract in the words of rows of numbers; and the walk of the first look of layer 1's statements: the answers that the document fixes are given. -/
import Derived.Test.YtkgfepnkikcpiaaDoorS4
import Derived.Outline
namespace Go.Proofs.YtkgfepnkikcpiaaDoor
open Go.RowKit
open PSet

/-- The numbers of a set, as ints. -/
def itemsI (s : Nat) : List Int := (itemsN s).map fun i : Nat => (i : Int)
theorem itemsI_length (s : Nat) : (itemsI s).length = (itemsN s).length := by simp [itemsI]
theorem itemsI_length_le (s : Nat) : (itemsI s).length ≤ 64 := by rw [itemsI_length]; exact itemsN_length_le s

theorem IntsAt.nil (w : World) (a : Option Addr) : IntsAt w a [] := fun _ hk => absurd hk (Nat.not_lt_zero _)
/-- A row of numbers is there still behind whatever wrote new blocks alone. -/
theorem IntsAt.below {w w' : World} {a : Option Addr} {l : List Int} (h : IntsAt w a l) (hb : Below w.heap.size w w') : IntsAt w' a l := fun k hk => by
  obtain ⟨b, off, e, hc⟩ := h k hk
  exact ⟨b, off, e, (hb.cell (block_lt_of_cell hc)).trans hc⟩
theorem IntsAt.cell {w : World} {b off : Nat} {l : List Int} (h : IntsAt w (some ⟨b, off, none⟩) l) {k : Nat} (hk : k < l.length) : w.cell? ⟨b, off + k, none⟩ = some (.int .i64 (l.getD k 0)) := by
  obtain ⟨b', off', e, hc⟩ := h k hk
  injection e with e
  injection e with e1 e2
  subst e1; subst e2
  exact hc
theorem IntsAt.some {w : World} {a : Option Addr} {l : List Int} (h : IntsAt w a l) (hl : 0 < l.length) : ∃ b off, a = some ⟨b, off, none⟩ := by
  obtain ⟨b, off, e, _⟩ := h 0 hl
  exact ⟨b, off, e⟩

theorem ints_of_owns {w : World} {base : Nat} {v : Value} {l : List Nat} (h : w.ownsRow base 3 1 v l.length (l.map intV)) :
    ∃ a cap, v = .slice a l.length cap ∧ IntsAt w a (l.map fun i : Nat => (i : Int)) := by
  rcases h.2 with ⟨rfl, hn⟩ | ⟨g, cap, cur, rfl, _⟩
  · have : l = [] := List.eq_nil_of_length_eq_zero hn
    subst this
    exact ⟨none, 0, rfl, IntsAt.nil _ _⟩
  · refine ⟨_, cap, rfl, fun k hk => ⟨g, 0, rfl, ?_⟩⟩
    have hk' : k < l.length := by simpa using hk
    have hc := h.cells (g := g) rfl k (intV l[k]) (by simp [hk'])
    have hadd : (⟨g, 0, none⟩ : Addr).add k = ⟨g, 0 + k, none⟩ := by unfold Addr.add; split <;> simp_all
    rw [hadd] at hc
    rw [hc]
    simp [intV, List.getD, hk']

/-- set.Items. -/
theorem items_int (s : Nat) (w : World) (hs : s < 2 ^ 64) (hT : Tab w) :
    Calls Tryd.prog 23 #[.int .u64 s] w fun e w' => ∃ a cap, e = .returned (.slice a (itemsI s).length cap) ∧ IntsAt w' a (itemsI s) ∧ Below w.heap.size w w' := by
  refine (items_any s w hs hT).mono ?_
  rintro e w' ⟨v, rfl, hown, hbel⟩
  obtain ⟨a, cap, rfl, h⟩ := ints_of_owns hown
  exact ⟨a, cap, by rw [itemsI_length], h, hbel⟩

theorem ints_new3 (w : World) (x y z : Int) : IntsAt (w.alloc (.cells #[.int .i64 x, .int .i64 y, .int .i64 z] 3)) (some ⟨w.heap.size, 0, none⟩) [x, y, z] := fun k hk => by
  refine ⟨_, _, rfl, ?_⟩
  match k, hk with
  | 0, _ => simp
  | 1, _ => simp
  | 2, _ => simp

set_option maxRecDepth 100000 in
/-- alive, of layer 1's statements. -/
theorem alive1 (w : World) (hT : Tab w) :
    Calls Tryd.prog 15 #[] w fun e w' => e = .returned (.bool true) ∧ Below w.heap.size w w' := by
  have c1 : Calls Tryd.prog 23 #[.int .u64 34] w fun e w' => ∃ a cap, e = .returned (.slice a 2 cap) ∧ IntsAt w' a [1, 5] ∧ Below w.heap.size w w' := by
    have h := items_int 34 w (by decide) hT
    have e : itemsI 34 = [1, 5] := by decide +kernel
    rw [e] at h
    exact h
  have C1 := Lib.hid c1
  have HT := Lib.hid hT
  clear c1 hT
  go_enter Tryd.func15, Tryd.ntmps15
  go_wp2_with fail
  refine (C1.out).mono ?_
  rintro e w1 ⟨a, cap, rfl, hI, hB⟩
  obtain ⟨b, off, rfl⟩ := hI.some (by decide)
  have c0 := hI.cell (k := 0) (by decide)
  simp only [Nat.add_zero] at c0
  have c0' : w1.cell? ⟨b, off, none⟩ = some (.int .i64 1) := c0
  have hT1 := Tab.below HT.out HT.out.pos hB
  have HB := Lib.hid hB
  have HT1 := Lib.hid hT1
  clear hI hB c0 hT1
  go_wp2_with fail
  refine (of_any _ _ [5, 1, 64] _ (by decide) (ints_new3 _ _ _ _)).mono ?_
  rintro e w2 ⟨rfl, rfl⟩
  have e34 : ((ofN [5, 1, 64] : Nat) : Int) = 34 := by decide +kernel
  rw [e34]
  obtain ⟨w2, hw2⟩ : ∃ w2, w2 = w1.alloc (.cells #[.int .i64 5, .int .i64 1, .int .i64 64] 3) := ⟨_, rfl⟩
  rw [← hw2]
  have c2 : w2.cell? ⟨b, off, none⟩ = some (.int .i64 1) := by
    rw [hw2, World.cell?_alloc_past _ _ _ (block_lt_of_cell c0')]; exact c0'
  have hB2 : Below w.heap.size w w2 := by rw [hw2]; exact HB.out.alloc HB.out.size _
  have hT2 : Tab w2 := Tab.below HT.out HT.out.pos hB2
  have f0 : Calls Tryd.prog 25 #[.int .u64 0] w2 fun e w' => e = .returned (.int .i64 (-1)) ∧ w2 = w' := first_any 0 w2 (by decide) hT2
  have f7 : Calls Tryd.prog 27 #[.int .u64 7] w2 fun e w' => e = .returned (.int .i64 3) ∧ w2 = w' := by
    have h := count_any 7 w2 (by decide)
    have e : (itemsN 7).length = 3 := by decide +kernel
    rw [e] at h
    exact h
  have fh : Calls Tryd.prog 16 #[.int .u64 2, .int .i64 1] w2 fun e w' => e = .returned (.bool true) ∧ w2 = w' := has_any 2 1 w2 (by decide)
  have fw : Calls Tryd.prog 18 #[.int .u64 0, .int .i64 2] w2 fun e w' => e = .returned (.int .u64 4) ∧ w2 = w' := with_any 0 2 w2 (by decide)
  have fl : Calls Tryd.prog 20 #[.int .u64 7, .int .i64 1] w2 fun e w' => e = .returned (.int .u64 5) ∧ w2 = w' := less_any 7 1 w2 (by decide)
  have F0 := Lib.hid f0
  have F7 := Lib.hid f7
  have FH := Lib.hid fh
  have FW := Lib.hid fw
  have FL := Lib.hid fl
  have HB2 := Lib.hid hB2
  clear f0 f7 fh fw fl hB2 hT2 hw2 e34 c0' HB HT1 C1
  go_wp2_with fail
  refine (F0.out).mono ?_
  rintro e w3 ⟨rfl, rfl⟩
  go_wp2_with fail
  refine (F7.out).mono ?_
  rintro e w3 ⟨rfl, rfl⟩
  go_wp2_with fail
  refine (FH.out).mono ?_
  rintro e w3 ⟨rfl, rfl⟩
  go_wp2_with fail
  refine (FW.out).mono ?_
  rintro e w3 ⟨rfl, rfl⟩
  go_wp2_with fail
  refine (FL.out).mono ?_
  rintro e w3 ⟨rfl, rfl⟩
  go_wp2_with fail
  go_ret
  exact ⟨rfl, HB2.out⟩
end Go.Proofs.YtkgfepnkikcpiaaDoor
