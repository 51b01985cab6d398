/- The walk of set.Items: a row of its own that reads as the numbers of the set, rising. -/
import Derived.Test.YtkgfepnkikcpiaaDoorS3
import Derived.WalkMore
import Derived.ScopeJumps
import Derived.OwnWalk
import Derived.WalkSmall
namespace Go.Proofs.YtkgfepnkikcpiaaDoor
open Go.RowKit
open PSet
theorem info3 : (Tryd.prog.info? 3).map (fun i => (i.zero, i.size, i.bytes)) = some (some (.int .i64 0), 1, 8) := by kernel_rfl
def intV (i : Nat) : Value := .int .i64 (i : Int)

/-- A scope with one label: what holds at every jump holds at the first pass, too. -/
theorem wp_scope_pass {P : Program} {a : Act} {w : World} {Q : Exit → Act → World → Prop} {c body : Code} (l : Nat) (J : Act → World → Prop) (μ : Act → World → Nat) (hf : findLabel c l = some (Code.skip.seq body))
    (pass : ∀ a w, J a w → body.wp P (Exit.jump l (fun a' w' => J a' w' ∧ μ a' w' < μ a w) Q) a w)
    (first : (∀ a w, J a w → body.wp P (Exit.jump l J Q) a w) → c.wp P (Exit.jump l J Q) a w) : (Code.scope c).wp P Q a w :=
  wp_scope_jumps l J μ hf (first fun a w h => Go.wp_mono (pass a w h) fun e a' w' hq => by
    cases e <;> first | exact hq | exact ⟨hq.1, hq.2.1⟩) fun a w h => wp_seq (wp_skip (pass a w h))

/-- What holds at the label of set.Items. -/
def ItemsJ (s : Nat) (w : World) (a' : Act) (w' : World) : Prop :=
  ∃ (t : Nat) (v : Value) (xs : List Nat) (u3 u4 u5 u6 u7 u8 u9 u10 u11 u12 u13 u14 u15 : Value), a' = { tmps := #[.int .u64 t, undef, v, u3, u4, u5, u6, u7, u8, u9, u10, u11, u12, u13, u14, u15], defers := [] } ∧
    t < 2 ^ 64 ∧ xs ++ itemsN t = itemsN s ∧ w'.ownsRow w.heap.size 3 1 v xs.length (xs.map intV) ∧ Below w.heap.size w w'

theorem Tab.below {w w' : World} (h : Tab w) {B : Nat} (hB : 0 < B) (hb : Below B w w') : Tab w' := fun j hj => (hb.cell hB).trans (h j hj)
theorem Tab.pos {w : World} (h : Tab w) : 0 < w.heap.size := block_lt_of_cell (h 0 (by decide))

set_option maxRecDepth 100000 in
theorem items_any (s : Nat) (w : World) (hs : s < 2 ^ 64) (hT : Tab w) :
    Calls Tryd.prog 23 #[.int .u64 s] w fun e w' => ∃ v, e = .returned v ∧ w'.ownsRow w.heap.size 3 1 v (itemsN s).length ((itemsN s).map intV) ∧ Below w.heap.size w w' := by
  obtain ⟨i0, hi, hz0, hz1, hz2⟩ := info_parts info3
  go_enter Tryd.func23, Tryd.ntmps23
  go_wp2_with fail
  refine wp_scope_pass 0 (ItemsJ s w) (fun a' _ => (itemsN (intOf (a'.tmps.getD 0 undef)).toNat).length) rfl ?_ ?_
  · rintro a' wr ⟨t, v, xs, u3, u4, u5, u6, u7, u8, u9, u10, u11, u12, u13, u14, u15, rfl, ht, hx, hown, hbel⟩
    by_cases h0 : t = 0
    · subst h0
      rw [itemsN_zero, List.append_nil] at hx
      subst hx
      go_wp2_with fail
      simp only [Exit.jump]
      go_ret
      exact ⟨v, rfl, hown, hbel⟩
    · obtain ⟨k, hk, hk64, hbit, hcons⟩ := first_spec h0 ht
      have hT' := Tab.below hT hT.pos hbel
      have c1 := first_any t wr ht hT'
      rw [hk] at c1
      have hlen : xs.length + 1 ≤ 64 := by
        have h1 := congrArg List.length hx
        rw [List.length_append, hcons, List.length_cons] at h1
        have h2 := itemsN_length_le s
        omega
      have hb0 : w.heap.size ≤ wr.heap.size := hbel.size
      have ht0 : ((t : Int) == 0) = false := by simp; omega
      have C1 := Lib.hid c1
      have HT := Lib.hid ht
      have HX := Lib.hid hx
      have HC := Lib.hid hcons
      have HN := Lib.hid hlen
      have HB := Lib.hid hb0
      clear c1 ht hx hcons hlen hb0 hT hT' hk hbit h0 hs
      go_wp2_with fail
      refine (C1.out).mono ?_
      rintro e w1 ⟨rfl, rfl⟩
      go_wp2_with (at_builtin; refine wpList_append_own _ rfl _ _ 23 rfl w.heap.size 3 i0 (.int .i64 0) 1 8 Tryd.underlying23 hi hz0 hz1 hz2 rfl (by decide) _ _ _ rfl (hown.alloc _) ⟨wr.heap.size, 0, none⟩ 1 1 [.int .i64 (k : Int)] rfl rfl ?c1 ?c2 ?c3 ?c4 ?c5 ?_)
      case c1 => exact cell_one_new _ _ _
      case c2 => simp [Value.oneCell']
      case c3 => have := HN.out; unfold maxLen; simp; omega
      case c4 => have := HN.out; simp; omega
      case c5 => have := HB.out; simp; omega
      intro v' w1 hown1 hgrow _
      have hbel1 : Below w.heap.size w w1 := (hbel.alloc HB.out _).grown hgrow (by have := HB.out; simp; omega) (fun j hj => (hown.lt j hj).1)
      clear hgrow hown hbel
      go_wp2_with fail
      refine (less_any t (k : Int) _ HT.out).mono ?_
      rintro e w2 ⟨rfl, rfl⟩
      go_wp2_with fail
      go_step3
      refine ⟨rfl, ⟨_, v', xs ++ [k], _, _, _, _, _, _, _, _, _, _, _, _, _, rfl, lessN_lt HT.out _, by rw [List.append_assoc, List.singleton_append, ← HC.out]; exact HX.out, by simpa [intV] using hown1, hbel1⟩, ?_⟩
      have h1 := HC.out
      simp [intOf]
      rw [h1]
      simp
  · intro pass
    go_wp2_with fail
    go_step3
    rename_i _ hK
    exact hK _ _ (pass _ _ ⟨s, .slice none 0 0, [], _, _, _, _, _, _, _, _, _, _, _, _, _, rfl, hs, rfl, World.ownsRow_nil _ _ _ _, Below.refl _ _⟩)
end Go.Proofs.YtkgfepnkikcpiaaDoor
