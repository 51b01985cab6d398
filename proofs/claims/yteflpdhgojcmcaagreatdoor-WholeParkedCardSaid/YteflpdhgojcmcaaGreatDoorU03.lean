/- The walks of package set's smallest functions: the bit of a number; whether a number is in a set; a set with a number more, or less. The walks of set.First, and of math/bits' function beneath them. Of a row of numbers it is asked that its cells read as that row; of the table of math/bits, that it reads as its initialiser lays it. The walk of set.Of: over a row of numbers that reads as a list, it comes to the set of them. The walk of set.Items: a row of its own that reads as the numbers of the set, rising. set.Items' contract in the words of rows of numbers; and the walk of the first look of layer 1's statements: the answers that the document fixes are given. Arrays of bools and of numbers that lie in a block of their own: what a cell of them holds, and what a store into one makes of them. Graphs of 32 nodes as 32 numbers: edges out and in, one edge more, a node cut off, ways. The walks of mat.node, Outs, Ins, Has: over whatever graph of 32 numbers. The walks of mat.Put and mat.Cut. The walks of value.Right and of package store: slot, Get, changed, and the closures of Put and Mark. No conditions but those that each theorem names. -/
import Derived.Test.YteflpdhgojcmcaaGreatDoorU01
import Derived.Test.YteflpdhgojcmcaaGreatDoorProg
import Derived.WalkKit
import Derived.WalkSpells
import Derived.WalkLawsBesides
import Derived.Lib.Hide
import Derived.Test.YteflpdhgojcmcaaGreatDoorU02
import Derived.Shelf.Spec.TrailingZeros
import Derived.WalkMore
import Derived.ScopeJumps
import Derived.OwnWalk
import Derived.WalkSmall
import Derived.Outline
import Derived.Laws.Rows
import Derived.StillTailTactics
import Derived.Deep.Cut
namespace Go.Proofs.YteflpdhgojcmcaaGreatDoor
open Go.RowKit
open PSet
theorem wrap_pow (i : Int) (h1 : i ≤ 63) : IntKind.u64.wrap ((2 : Int) ^ i.toNat) = ((2 ^ i.toNat : Nat) : Int) := by
  have h : (2 : Nat) ^ i.toNat < 2 ^ 64 := Nat.pow_lt_pow_right (by decide) (by omega)
  have e : ((2 : Int) ^ i.toNat) = ((2 ^ i.toNat : Nat) : Int) := by simp
  rw [e, IntKind.wrap_u64]
  generalize (2 : Nat) ^ i.toNat = k at *
  omega
/-- set.bit. -/
theorem bit_any (i : Int) (w : World) :
    Calls Tryz.prog 106 #[.int .i64 i] w fun e w' => e = .returned (.int .u64 (bitN i : Nat)) ∧ w = w' := by
  by_cases h0 : i < 0
  · have hb : ((bitN i : Nat) : Int) = 0 := by rw [bitN_far (by omega)]; rfl
    rw [hb]
    go_enter Tryz.func106, Tryz.ntmps106
    go_wp2
    go_ret
    exact ⟨rfl, rfl⟩
  · by_cases h1 : 63 < i
    · have hb : ((bitN i : Nat) : Int) = 0 := by rw [bitN_far (by omega)]; rfl
      rw [hb]
      go_enter Tryz.func106, Tryz.ntmps106
      go_wp2
      go_ret
      exact ⟨rfl, rfl⟩
    · have g0 : 0 ≤ i := by omega
      have g1 : i ≤ 63 := by omega
      have hb : IntKind.u64.wrap ((2 : Int) ^ i.toNat) = ((bitN i : Nat) : Int) := by rw [bitN_near ⟨g0, g1⟩]; exact wrap_pow i g1
      have H := Lib.hid hb
      clear hb
      go_enter Tryz.func106, Tryz.ntmps106
      go_wp2
      go_ret
      refine ⟨?_, rfl⟩
      rw [← H.out]
      rfl
theorem and_bit (s : Nat) (i : Int) (hs : s < 2 ^ 64) : (bits .and .u64 (s : Int) ((bitN i : Nat) : Int) != 0) = hasB s i := by
  rw [u64_and_nat s (bitN i) (by omega) (by have := bitN_lt i; omega)]
  have e : s &&& bitN i = if hasB s i then 2 ^ i.toNat else 0 := by
    apply Nat.eq_of_testBit_eq
    intro j
    rw [Nat.testBit_and, testBit_bitN]
    by_cases hh : hasB s i = true
    · rw [if_pos hh, Nat.testBit_two_pow]
      unfold hasB at hh
      simp only [Bool.and_eq_true, decide_eq_true_eq] at hh
      obtain ⟨⟨a, b⟩, c⟩ := hh
      by_cases e : i.toNat = j
      · subst e
        simp [c]
        omega
      · have : ¬ (i = (j : Int) ∧ j < 64) := by omega
        simp [e, this]
    · rw [if_neg hh, Nat.zero_testBit]
      unfold hasB at hh
      by_cases e : i = (j : Int) ∧ j < 64
      · obtain ⟨rfl, h64⟩ := e
        have h3 : (0 ≤ (j : Int) ∧ (j : Int) ≤ 63) := by omega
        simp [h3] at hh
        simp [hh]
      · simp [e]
  rw [e]
  cases h : hasB s i
  · rfl
  · have hp : (0 : Nat) < 2 ^ i.toNat := Nat.two_pow_pos _
    rw [if_pos rfl, bne_iff_ne]
    omega
theorem or_bit (s : Nat) (i : Int) (hs : s < 2 ^ 64) : bits .or .u64 (s : Int) ((bitN i : Nat) : Int) = ((withN s i : Nat) : Int) :=
  u64_or_nat s (bitN i) (by omega) (by have := bitN_lt i; omega)
theorem andNot_bit (s : Nat) (i : Int) (hs : s < 2 ^ 64) : bits .andNot .u64 (s : Int) ((bitN i : Nat) : Int) = ((lessN s i : Nat) : Int) :=
  u64_andNot_nat s (bitN i) (by omega) (by have := bitN_lt i; omega)
/-- set.Has. -/
theorem has_any (s : Nat) (i : Int) (w : World) (hs : s < 2 ^ 64) :
    Calls Tryz.prog 65 #[.int .u64 s, .int .i64 i] w fun e w' => e = .returned (.bool (hasB s i)) ∧ w = w' := by
  have H := Lib.hid (and_bit s i hs)
  clear hs
  go_enter Tryz.func65, Tryz.ntmps65
  go_wp2_with (go_at_call 106; refine (bit_any _ _).mono ?_; rintro e w' ⟨rfl, rfl⟩)
  go_ret
  refine ⟨?_, rfl⟩
  rw [← H.out]
  rfl
/-- set.With. -/
theorem with_any (s : Nat) (i : Int) (w : World) (hs : s < 2 ^ 64) :
    Calls Tryz.prog 90 #[.int .u64 s, .int .i64 i] w fun e w' => e = .returned (.int .u64 (withN s i : Nat)) ∧ w = w' := by
  have H := Lib.hid (or_bit s i hs)
  clear hs
  go_enter Tryz.func90, Tryz.ntmps90
  go_wp2_with (go_at_call 106; refine (bit_any _ _).mono ?_; rintro e w' ⟨rfl, rfl⟩)
  go_ret
  refine ⟨?_, rfl⟩
  rw [← H.out]
  rfl
/-- set.Less. -/
theorem less_any (s : Nat) (i : Int) (w : World) (hs : s < 2 ^ 64) :
    Calls Tryz.prog 350 #[.int .u64 s, .int .i64 i] w fun e w' => e = .returned (.int .u64 (lessN s i : Nat)) ∧ w = w' := by
  have H := Lib.hid (andNot_bit s i hs)
  clear hs
  go_enter Tryz.func350, Tryz.ntmps350
  go_wp2_with (go_at_call 106; refine (bit_any _ _).mono ?_; rintro e w' ⟨rfl, rfl⟩)
  go_ret
  refine ⟨?_, rfl⟩
  rw [← H.out]
  rfl
end Go.Proofs.YteflpdhgojcmcaaGreatDoor
namespace Go.Proofs.YteflpdhgojcmcaaGreatDoor
open Go.RowKit
open PSet
/-- The table of math/bits lies in block 0. -/
def Tab (w : World) : Prop := TabAt 0 Lib.deBruijn64tab w
set_option maxHeartbeats 1000000 in
theorem tz_core (x k idx : Nat) (w : World) (hx0 : ((x : Int) == 0) = false)
    (key : IntKind.u64.wrap (bits BinOp.and IntKind.u64 (x : Int) (IntKind.u64.wrap (-(x : Int))) * 285870213051353865) / 288230376151711744 = (idx : Int))
    (hi : idx < 64) (hk : k < 64) (hcell : w.cell? ⟨0, idx, none⟩ = some (.int .u8 k)) :
    Calls Tryz.prog 235 #[.int .u64 x] w fun e w' => e = .returned (.int .i64 k) ∧ w = w' := by
  go_enter Tryz.func235, Tryz.ntmps235
  go_wp2_with (simp only [key])
  go_ret
  exact ⟨rfl, rfl⟩
theorem tz_any (x : Nat) (hx : x < 18446744073709551616) (hx0 : x ≠ 0) (w : World) (hT : Tab w) :
    Calls Tryz.prog 235 #[.int .u64 x] w fun e w' => e = .returned (.int .i64 (firstN x)) ∧ w = w' := by
  obtain ⟨hlow, hk⟩ := Lib.lowest_bit 64 x hx0 hx
  obtain ⟨hi, htab⟩ := Lib.deBruijn64_at _ hk
  have hcell := hT _ hi
  rw [htab] at hcell
  rw [firstN_ctz hx0 hx]
  exact tz_core x _ _ w (by simp; omega) (tz64_key x _ hx hx0 hlow) hi hk hcell
/-- set.First. -/
theorem first_any (s : Nat) (w : World) (hs : s < 2 ^ 64) (hT : Tab w) :
    Calls Tryz.prog 207 #[.int .u64 s] w fun e w' => e = .returned (.int .i64 (firstN s)) ∧ w = w' := by
  by_cases h0 : s = 0
  · subst h0
    have H := Lib.hid firstN_zero
    go_enter Tryz.func207, Tryz.ntmps207
    go_wp2_with fail
    go_ret
    exact ⟨by rw [H.out]; rfl, rfl⟩
  · have h1 : ((s : Int) == 0) = false := by simp; omega
    have c := tz_any s (by omega) h0 w hT
    have C := Lib.hid c
    clear c hT hs
    go_enter Tryz.func207, Tryz.ntmps207
    go_wp2_with (go_at_call 235; refine (C.out).mono ?_; rintro e w' ⟨rfl, rfl⟩)
    go_ret
    exact ⟨rfl, rfl⟩
end Go.Proofs.YteflpdhgojcmcaaGreatDoor
namespace Go.Proofs.YteflpdhgojcmcaaGreatDoor
open Go.RowKit
open PSet
/-- The cells at an address read as a row of ints. -/
def IntsAt (w : World) (a : Option Addr) (l : List Int) : Prop := ∀ k, k < l.length → ∃ b off, a = some ⟨b, off, none⟩ ∧ w.cell? ⟨b, off + k, none⟩ = some (.int .i64 (l.getD k 0))
theorem ofN_snoc (l : List Int) (k : Nat) (hk : k < l.length) : ofN (l.take (k + 1)) = withN (ofN (l.take k)) (l.getD k 0) := by
  unfold ofN
  rw [List.take_add_one, List.foldl_append]
  simp [List.getD, List.getElem?_eq_getElem hk]
theorem of_at (b off cap : Nat) (l : List Int) (w : World) (hl : l.length ≤ 9223372036854775807)
    (hc : ∀ k, k < l.length → w.cell? ⟨b, off + k, none⟩ = some (.int .i64 (l.getD k 0))) :
    Calls Tryz.prog 150 #[.slice (some ⟨b, off, none⟩) l.length cap] w fun e w' => e = .returned (.int .u64 (ofN l : Nat)) ∧ w = w' := by
  generalize hn : l.length = len at *
  have HN := Lib.hid hn
  clear hn
  go_enter Tryz.func150, Tryz.ntmps150
  go_wp2_with fail
  go_loop [2, 7] (fun s i => ∃ k : Nat, k ≤ len ∧ i = .int .i64 k ∧ s = .int .u64 (ofN (l.take k) : Nat)) (fun _ i => len - (intOf i).toNat)
  case atStart => exact ⟨0, Nat.zero_le _, rfl, rfl⟩
  case round =>
    obtain ⟨k, hk, rfl, rfl⟩ := hrel
    by_cases hlt : k < len
    · have hcell := hc k hlt
      have hor := or_bit (ofN (l.take k)) (l.getD k 0) (ofN_lt _)
      rw [← ofN_snoc l k (by have := HN.out; omega)] at hor
      generalize l.getD k 0 = x at *
      have HO := Lib.hid hor
      clear hor hc
      go_wp2_with (go_at_call 106; refine (bit_any _ _).mono ?_; rintro e w' ⟨rfl, rfl⟩)
      go_round
      case rel => exact ⟨k + 1, by omega, by go_num, by rw [← HO.out]⟩
      case measure => simp [intOf]; omega
    · have e : k = len := by omega
      subst e
      clear hc
      go_wp2_with fail
      go_ret
      refine ⟨?_, rfl⟩
      rw [List.take_of_length_le (by have := HN.out; omega)]
      rfl
end Go.Proofs.YteflpdhgojcmcaaGreatDoor
namespace Go.Proofs.YteflpdhgojcmcaaGreatDoor
open Go.RowKit
open PSet
theorem info3 : (Tryz.prog.info? 3).map (fun i => (i.zero, i.size, i.bytes)) = some (some (.int .i64 0), 1, 8) := by kernel_rfl
def intV (i : Nat) : Value := .int .i64 (i : Int)
/-- A scope with one label: what holds at every jump holds at the first pass, too. -/
theorem wp_scope_pass {P : Program} {a : Act} {w : World} {Q : Exit → Act → World → Prop} {c body : Code} (l : Nat) (J : Act → World → Prop) (μ : Act → World → Nat) (hf : findLabel c l = some (Code.skip.seq body))
    (pass : ∀ a w, J a w → body.wp P (Exit.jump l (fun a' w' => J a' w' ∧ μ a' w' < μ a w) Q) a w)
    (first : (∀ a w, J a w → body.wp P (Exit.jump l J Q) a w) → c.wp P (Exit.jump l J Q) a w) : (Code.scope c).wp P Q a w :=
  wp_scope_jumps l J μ hf (first fun a w h => Go.wp_mono (pass a w h) fun e a' w' hq => by
    cases e <;> first | exact hq | exact ⟨hq.1, hq.2.1⟩) fun a w h => wp_seq (wp_skip (pass a w h))
/-- What holds at the label of set.Items. -/
def ItemsJ (s : Nat) (w : World) (a' : Act) (w' : World) : Prop :=
  ∃ (t : Nat) (v : Value) (xs : List Nat) (u3 u4 u5 u6 u7 u8 u9 u10 u11 u12 u13 u14 u15 : Value), a' = { tmps := #[.int .u64 t, undef, v, u3, u4, u5, u6, u7, u8, u9, u10, u11, u12, u13, u14, u15], defers := [] } ∧
    t < 2 ^ 64 ∧ xs ++ itemsN t = itemsN s ∧ w'.ownsRow w.heap.size 3 1 v xs.length (xs.map intV) ∧ Below w.heap.size w w'
theorem Tab.below {w w' : World} (h : Tab w) {B : Nat} (hB : 0 < B) (hb : Below B w w') : Tab w' := fun j hj => (hb.cell hB).trans (h j hj)
theorem Tab.pos {w : World} (h : Tab w) : 0 < w.heap.size := block_lt_of_cell (h 0 (by decide))
set_option maxRecDepth 100000 in
theorem items_any (s : Nat) (w : World) (hs : s < 2 ^ 64) (hT : Tab w) :
    Calls Tryz.prog 348 #[.int .u64 s] w fun e w' => ∃ v, e = .returned v ∧ w'.ownsRow w.heap.size 3 1 v (itemsN s).length ((itemsN s).map intV) ∧ Below w.heap.size w w' := by
  obtain ⟨i0, hi, hz0, hz1, hz2⟩ := info_parts info3
  go_enter Tryz.func348, Tryz.ntmps348
  go_wp2_with fail
  refine wp_scope_pass 0 (ItemsJ s w) (fun a' _ => (itemsN (intOf (a'.tmps.getD 0 undef)).toNat).length) rfl ?_ ?_
  · rintro a' wr ⟨t, v, xs, u3, u4, u5, u6, u7, u8, u9, u10, u11, u12, u13, u14, u15, rfl, ht, hx, hown, hbel⟩
    by_cases h0 : t = 0
    · subst h0
      rw [itemsN_zero, List.append_nil] at hx
      subst hx
      go_wp2_with fail
      simp only [Exit.jump]
      go_ret
      exact ⟨v, rfl, hown, hbel⟩
    · obtain ⟨k, hk, hk64, hbit, hcons⟩ := first_spec h0 ht
      have hT' := Tab.below hT hT.pos hbel
      have c1 := first_any t wr ht hT'
      rw [hk] at c1
      have hlen : xs.length + 1 ≤ 64 := by
        have h1 := congrArg List.length hx
        rw [List.length_append, hcons, List.length_cons] at h1
        have h2 := itemsN_length_le s
        omega
      have hb0 : w.heap.size ≤ wr.heap.size := hbel.size
      have ht0 : ((t : Int) == 0) = false := by simp; omega
      have C1 := Lib.hid c1
      have HT := Lib.hid ht
      have HX := Lib.hid hx
      have HC := Lib.hid hcons
      have HN := Lib.hid hlen
      have HB := Lib.hid hb0
      clear c1 ht hx hcons hlen hb0 hT hT' hk hbit h0 hs
      go_wp2_with fail
      refine (C1.out).mono ?_
      rintro e w1 ⟨rfl, rfl⟩
      go_wp2_with (at_builtin; refine wpList_append_own _ rfl _ _ 77 rfl w.heap.size 3 i0 (.int .i64 0) 1 8 Tryz.underlying77 hi hz0 hz1 hz2 rfl (by decide) _ _ _ rfl (hown.alloc _) ⟨wr.heap.size, 0, none⟩ 1 1 [.int .i64 (k : Int)] rfl rfl ?c1 ?c2 ?c3 ?c4 ?c5 ?_)
      case c1 => exact cell_one_new _ _ _
      case c2 => simp [Value.oneCell']
      case c3 => have := HN.out; unfold maxLen; simp; omega
      case c4 => have := HN.out; simp; omega
      case c5 => have := HB.out; simp; omega
      intro v' w1 hown1 hgrow _
      have hbel1 : Below w.heap.size w w1 := (hbel.alloc HB.out _).grown hgrow (by have := HB.out; simp; omega) (fun j hj => (hown.lt j hj).1)
      clear hgrow hown hbel
      go_wp2_with fail
      refine (less_any t (k : Int) _ HT.out).mono ?_
      rintro e w2 ⟨rfl, rfl⟩
      go_wp2_with fail
      go_step3
      refine ⟨rfl, ⟨_, v', xs ++ [k], _, _, _, _, _, _, _, _, _, _, _, _, _, rfl, lessN_lt HT.out _, by rw [List.append_assoc, List.singleton_append, ← HC.out]; exact HX.out, by simpa [intV] using hown1, hbel1⟩, ?_⟩
      have h1 := HC.out
      simp [intOf]
      rw [h1]
      simp
  · intro pass
    go_wp2_with fail
    go_step3
    rename_i _ hK
    exact hK _ _ (pass _ _ ⟨s, .slice none 0 0, [], _, _, _, _, _, _, _, _, _, _, _, _, _, rfl, hs, rfl, World.ownsRow_nil _ _ _ _, Below.refl _ _⟩)
end Go.Proofs.YteflpdhgojcmcaaGreatDoor
namespace Go.Proofs.YteflpdhgojcmcaaGreatDoor
open Go.RowKit
open PSet
/-- The numbers of a set, as ints. -/
def itemsI (s : Nat) : List Int := (itemsN s).map fun i : Nat => (i : Int)
theorem itemsI_length (s : Nat) : (itemsI s).length = (itemsN s).length := by simp [itemsI]
theorem IntsAt.nil (w : World) (a : Option Addr) : IntsAt w a [] := fun _ hk => absurd hk (Nat.not_lt_zero _)
/-- A row of numbers is there still behind whatever wrote new blocks alone. -/
theorem IntsAt.below {w w' : World} {a : Option Addr} {l : List Int} (h : IntsAt w a l) (hb : Below w.heap.size w w') : IntsAt w' a l := fun k hk => by
  obtain ⟨b, off, e, hc⟩ := h k hk
  exact ⟨b, off, e, (hb.cell (block_lt_of_cell hc)).trans hc⟩
theorem IntsAt.cell {w : World} {b off : Nat} {l : List Int} (h : IntsAt w (some ⟨b, off, none⟩) l) {k : Nat} (hk : k < l.length) : w.cell? ⟨b, off + k, none⟩ = some (.int .i64 (l.getD k 0)) := by
  obtain ⟨b', off', e, hc⟩ := h k hk
  injection e with e
  injection e with e1 e2
  subst e1; subst e2
  exact hc
theorem IntsAt.some {w : World} {a : Option Addr} {l : List Int} (h : IntsAt w a l) (hl : 0 < l.length) : ∃ b off, a = some ⟨b, off, none⟩ := by
  obtain ⟨b, off, e, _⟩ := h 0 hl
  exact ⟨b, off, e⟩
theorem ints_of_owns {w : World} {base : Nat} {v : Value} {l : List Nat} (h : w.ownsRow base 3 1 v l.length (l.map intV)) :
    ∃ a cap, v = .slice a l.length cap ∧ IntsAt w a (l.map fun i : Nat => (i : Int)) := by
  rcases h.2 with ⟨rfl, hn⟩ | ⟨g, cap, cur, rfl, _⟩
  · have : l = [] := List.eq_nil_of_length_eq_zero hn
    subst this
    exact ⟨none, 0, rfl, IntsAt.nil _ _⟩
  · refine ⟨_, cap, rfl, fun k hk => ⟨g, 0, rfl, ?_⟩⟩
    have hk' : k < l.length := by simpa using hk
    have hc := h.cells (g := g) rfl k (intV l[k]) (by simp [hk'])
    have hadd : (⟨g, 0, none⟩ : Addr).add k = ⟨g, 0 + k, none⟩ := by unfold Addr.add; split <;> simp_all
    rw [hadd] at hc
    rw [hc]
    simp [intV, List.getD, hk']
/-- set.Items. -/
theorem items_int (s : Nat) (w : World) (hs : s < 2 ^ 64) (hT : Tab w) :
    Calls Tryz.prog 348 #[.int .u64 s] w fun e w' => ∃ a cap, e = .returned (.slice a (itemsI s).length cap) ∧ IntsAt w' a (itemsI s) ∧ Below w.heap.size w w' := by
  refine (items_any s w hs hT).mono ?_
  rintro e w' ⟨v, rfl, hown, hbel⟩
  obtain ⟨a, cap, rfl, h⟩ := ints_of_owns hown
  exact ⟨a, cap, by rw [itemsI_length], h, hbel⟩
end Go.Proofs.YteflpdhgojcmcaaGreatDoor
namespace Go.Proofs.YteflpdhgojcmcaaGreatDoor
open Go.RowKit
def boolsV (l : List Bool) : Array Value := (l.map Value.bool).toArray
def numV (n : Nat) : Value := .int .u64 (n : Int)
def numsV (l : List Nat) : Array Value := (l.map numV).toArray
theorem size_numsV (l : List Nat) : (numsV l).size = l.length := by simp [numsV]
theorem get_boolsV (l : List Bool) (k : Nat) (hk : k < l.length) : (boolsV l)[k]? = some (.bool (l.getD k false)) := by
  simp [boolsV, List.getD, hk]
theorem get_numsV (l : List Nat) (k : Nat) (hk : k < l.length) : (numsV l)[k]? = some (.int .u64 ((l.getD k 0 : Nat) : Int)) := by
  simp [numsV, numV, List.getD, hk]
theorem set_boolsV (l : List Bool) (k : Nat) (b : Bool) : (boolsV l).setIfInBounds k (.bool b) = boolsV (l.set k b) := by
  simp [boolsV, List.map_set]
theorem set_numsV (l : List Nat) (k n : Nat) : (numsV l).setIfInBounds k (.int .u64 (n : Int)) = numsV (l.set k n) := by
  simp [numsV, numV, List.map_set]
theorem one_numsV (l : List Nat) : (numsV l).all (·.oneCell') = true := by
  rw [Array.all_eq_true_iff_forall_mem]
  intro v hv
  simp [numsV] at hv
  obtain ⟨_, _, rfl⟩ := hv
  rfl
/-- A block is an array of bools, of numbers. -/
def Bools (w : World) (g t : Nat) (l : List Bool) : Prop := w.heap[g]? = some (.cells (boolsV l) t (0, 0))
def Nums (w : World) (g t : Nat) (l : List Nat) : Prop := w.heap[g]? = some (.cells (numsV l) t (0, 0))
section
variable {w : World} {g t : Nat}
theorem Bools.cell {l : List Bool} (h : Bools w g t l) {k : Nat} (hk : k < l.length) : w.cell? ⟨g, k, none⟩ = some (.bool (l.getD k false)) := by
  rw [cell_of_row w g k _ t _ h]; exact get_boolsV l k hk
theorem Nums.cell {l : List Nat} (h : Nums w g t l) {k : Nat} (hk : k < l.length) : w.cell? ⟨g, k, none⟩ = some (.int .u64 ((l.getD k 0 : Nat) : Int)) := by
  rw [cell_of_row w g k _ t _ h]; exact get_numsV l k hk
theorem Bools.free {l : List Bool} (h : Bools w g t l) (k : Nat) : w.frozen? ⟨g, k, none⟩ = false := frozen_of_row w g k _ t h
theorem Nums.free {l : List Nat} (h : Nums w g t l) (k : Nat) : w.frozen? ⟨g, k, none⟩ = false := frozen_of_row w g k _ t h
theorem Bools.set {l : List Bool} (h : Bools w g t l) (k : Nat) (b : Bool) : Bools (w.setCell ⟨g, k, none⟩ (.bool b)) g t (l.set k b) := by
  unfold Bools
  rw [heap_setCell_same w g k _ t _ h, set_boolsV]
theorem Nums.set {l : List Nat} (h : Nums w g t l) (k n : Nat) : Nums (w.setCell ⟨g, k, none⟩ (.int .u64 (n : Int))) g t (l.set k n) := by
  unfold Nums
  rw [heap_setCell_same w g k _ t _ h, set_numsV]
theorem Bools.lt {l : List Bool} (h : Bools w g t l) : g < w.heap.size := (Array.getElem?_eq_some_iff.1 h).1
theorem Nums.lt {l : List Nat} (h : Nums w g t l) : g < w.heap.size := (Array.getElem?_eq_some_iff.1 h).1
theorem Bools.of_block {w' : World} {l : List Bool} (h : Bools w g t l) (e : w'.heap[g]? = w.heap[g]?) : Bools w' g t l := e.trans h
theorem Nums.of_block {w' : World} {l : List Nat} (h : Nums w g t l) (e : w'.heap[g]? = w.heap[g]?) : Nums w' g t l := e.trans h
theorem Bools.below {w' : World} {l : List Bool} (h : Bools w g t l) {B : Nat} (hb : Below B w w') (hg : g < B) : Bools w' g t l := h.of_block (hb.block g hg)
theorem Nums.below {w' : World} {l : List Nat} (h : Nums w g t l) {B : Nat} (hb : Below B w w') (hg : g < B) : Nums w' g t l := h.of_block (hb.block g hg)
end
theorem block_setRow_same {w : World} {g t : Nat} {old cs : Array Value} (h : w.heap[g]? = some (.cells old t (0, 0))) : (w.setRow g cs).heap[g]? = some (.cells cs t (0, 0)) := setRow_heap w g old cs t _ h
theorem below_setRow' {B g : Nat} {w0 w : World} (hb : Below B w0 w) (hBg : B ≤ g) (cs : Array Value) : Below B w0 (w.setRow g cs) :=
  hb.trans ⟨rfl, rfl, rfl, by simp [World.setRow], fun k hk => setRow_other w g k cs (by omega)⟩
theorem size140 : (Tryz.prog.info? 140).map (·.size) = some 32 := by kernel_rfl
end Go.Proofs.YteflpdhgojcmcaaGreatDoor
namespace Go.Proofs.YteflpdhgojcmcaaGreatDoor.PMat
open PSet
/-- A graph is 32 numbers of 64 bits. -/
def Mat (m : List Nat) : Prop := m.length = 32 ∧ ∀ k, m.getD k 0 < 2 ^ 64
def nodeB (a : Int) : Bool := decide (0 ≤ a ∧ a < 32)
def at_ (m : List Nat) (a : Int) : Nat := m.getD a.toNat 0
def outsN (m : List Nat) (a : Int) : Nat := if nodeB a = true then at_ m a % 4294967296 else 0
/-- All those below k from which an edge comes. -/
def insTo (m : List Nat) (a : Int) (k : Nat) : Nat := ((List.range k).filter fun i => hasB (m.getD i 0) a).foldl (fun s (i : Nat) => withN s (i : Int)) 0
def insN (m : List Nat) (a : Int) : Nat := if nodeB a = true then insTo m a 32 else 0
/-- The first k rows without a number. -/
def cutTo (m : List Nat) (a : Int) (k : Nat) : List Nat := (List.range m.length).map fun j => if j < k then lessN (m.getD j 0) a else m.getD j 0
def cutN (m : List Nat) (a : Int) : List Nat := if nodeB a = true then (cutTo m a 32).set a.toNat ((cutTo m a 32).getD a.toNat 0 &&& 18446744069414584320) else m
theorem hasB_all (a : Int) : hasB 4294967295 a = nodeB a := by
  unfold hasB nodeB
  by_cases h : 0 ≤ a ∧ a < 32
  · have h2 : 0 ≤ a ∧ a ≤ 63 := by omega
    rw [decide_eq_true h, decide_eq_true h2, Bool.true_and]
    have := Nat.testBit_two_pow_sub_one 32 a.toNat
    have e : 2 ^ 32 - 1 = 4294967295 := rfl
    rw [e] at this
    rw [this, decide_eq_true (by omega)]
  · rw [decide_eq_false h]
    by_cases h2 : 0 ≤ a ∧ a ≤ 63
    · have := Nat.testBit_two_pow_sub_one 32 a.toNat
      have e : 2 ^ 32 - 1 = 4294967295 := rfl
      rw [e] at this
      rw [this, decide_eq_true h2, decide_eq_false (show ¬ a.toNat < 32 by omega), Bool.and_false]
    · rw [decide_eq_false h2, Bool.false_and]
theorem outsN_lt (m : List Nat) (a : Int) : outsN m a < 2 ^ 64 := by
  unfold outsN
  split
  · exact Nat.lt_of_lt_of_le (Nat.mod_lt _ (by decide)) (by decide)
  · decide
theorem insTo_lt (m : List Nat) (a : Int) (k : Nat) : insTo m a k < 2 ^ 64 := by
  unfold insTo
  have : ∀ (l : List Nat) (s : Nat), s < 2 ^ 64 → l.foldl (fun s (i : Nat) => withN s (i : Int)) s < 2 ^ 64 := by
    intro l
    induction l with
    | nil => intro s h; exact h
    | cons x l ih => intro s h; exact ih _ (withN_lt h _)
  exact this _ 0 (by decide)
theorem insTo_succ (m : List Nat) (a : Int) (k : Nat) : insTo m a (k + 1) = if hasB (m.getD k 0) a = true then withN (insTo m a k) (k : Int) else insTo m a k := by
  unfold insTo
  rw [List.range_succ, List.filter_append, List.foldl_append]
  cases h : hasB (m.getD k 0) a <;> simp only [List.filter_cons, List.filter_nil, h] <;> rfl
theorem cutTo_length (m : List Nat) (a : Int) (k : Nat) : (cutTo m a k).length = m.length := by simp [cutTo]
theorem cutTo_get (m : List Nat) (a : Int) (k j : Nat) (hj : j < m.length) : (cutTo m a k).getD j 0 = if j < k then lessN (m.getD j 0) a else m.getD j 0 := by
  simp [cutTo, List.getD, hj]
theorem cutTo_zero (m : List Nat) (a : Int) : cutTo m a 0 = m := by
  apply List.ext_getElem
  · simp [cutTo]
  · intro j h1 h2
    simp [cutTo, h2]
theorem cutTo_succ (m : List Nat) (a : Int) (k : Nat) : (cutTo m a k).set k (lessN ((cutTo m a k).getD k 0) a) = cutTo m a (k + 1) := by
  apply List.ext_getElem
  · simp [cutTo_length]
  · intro j h1 h2
    have hj : j < m.length := by simpa [cutTo_length] using h2
    have g : ∀ (l : List Nat) (h : j < l.length), l[j] = l.getD j 0 := fun l h => by simp [List.getD, h]
    rw [List.getElem_set, g _ h2, cutTo_get m a (k + 1) j hj]
    by_cases e : k = j
    · subst e
      rw [if_pos rfl, if_pos (by omega), cutTo_get m a k k hj, if_neg (by omega)]
    · rw [if_neg e, g _ (by rw [cutTo_length]; exact hj), cutTo_get m a k j hj]
      have : (j < k + 1) ↔ (j < k) := by omega
      simp only [this]
end Go.Proofs.YteflpdhgojcmcaaGreatDoor.PMat
namespace Go.Proofs.YteflpdhgojcmcaaGreatDoor
open Go.RowKit
open PSet PMat
/-- A graph as a value. -/
def matV (m : List Nat) : Value := .agg (numsV m)
/-- mat.node. -/
theorem node_any (a : Int) (w : World) :
    Calls Tryz.prog 140 #[.int .i64 a] w fun e w' => e = .returned (.bool (nodeB a)) ∧ w = w' := by
  have c : Calls Tryz.prog 65 #[.int .u64 4294967295, .int .i64 a] w fun e w' => e = .returned (.bool (nodeB a)) ∧ w = w' := by
    have h := has_any 4294967295 a w (by decide)
    rw [hasB_all] at h
    exact h
  have C := Lib.hid c
  clear c
  go_enter Tryz.func140, Tryz.ntmps140
  go_wp2_with fail
  refine (C.out).mono ?_
  rintro e w' ⟨rfl, rfl⟩
  go_wp2_with fail
  go_ret
  exact ⟨rfl, rfl⟩
theorem low32 (s : Nat) (hs : s < 2 ^ 64) : bits .and .u64 (s : Int) 4294967295 = ((s % 4294967296 : Nat) : Int) := by
  have h := u64_and_nat s 4294967295 (by omega) (by decide)
  have e : s &&& 4294967295 = s % 4294967296 := Nat.and_two_pow_sub_one_eq_mod s 32
  rw [e] at h
  exact h
theorem nums_new (m : List Nat) (w : World) : Nums (w.alloc (.cells (numsV m) 140)) w.heap.size 140 m := heap_alloc_new _ _
/-- mat.Outs. -/
theorem outs_any (m : List Nat) (a : Int) (w : World) (hm : Mat m) :
    Calls Tryz.prog 177 #[matV m, .int .i64 a] w fun e w' => e = .returned (.int .u64 (outsN m a : Nat)) ∧ Below w.heap.size w w' := by
  unfold matV
  cases hn : nodeB a
  · have ho : outsN m a = 0 := by unfold outsN; rw [hn]; rfl
    have HO := Lib.hid ho
    have HN := Lib.hid hn
    clear ho hn hm
    go_enter Tryz.func177, Tryz.ntmps177
    go_wp2_with fail
    refine (node_any a _).mono ?_
    rintro e w' ⟨rfl, rfl⟩
    rw [HN.out]
    go_wp2_with fail
    go_ret
    exact ⟨by rw [HO.out]; rfl, (Below.refl _ _).alloc (Nat.le_refl _) _⟩
  · have ho : outsN m a = at_ m a % 4294967296 := by unfold outsN; rw [hn]; rfl
    have hr : 0 ≤ a ∧ a < 32 := by unfold nodeB at hn; simpa using hn
    obtain ⟨k, rfl⟩ := Int.eq_ofNat_of_zero_le hr.1
    have hk : k < 32 := by omega
    have hat : at_ m (k : Int) = m.getD k 0 := by unfold at_; rfl
    rw [hat] at ho
    have hc := (nums_new m w).cell (k := k) (by rw [hm.1]; exact hk)
    have hl := low32 (m.getD k 0) (hm.2 k)
    generalize m.getD k 0 = x at *
    have HL := Lib.hid hl
    have HO := Lib.hid ho
    have HN := Lib.hid hn
    clear hl ho hn hm hat
    go_enter Tryz.func177, Tryz.ntmps177
    go_wp2_with fail
    refine (node_any _ _).mono ?_
    rintro e w' ⟨rfl, rfl⟩
    rw [HN.out]
    go_wp2_with fail
    go_ret
    refine ⟨?_, (Below.refl _ _).alloc (Nat.le_refl _) _⟩
    rw [HO.out, ← HL.out]
    rfl
theorem ins_no (m : List Nat) (a : Int) (w : World) (hn : nodeB a = false) :
    Calls Tryz.prog 89 #[matV m, .int .i64 a] w fun e w' => e = .returned (.int .u64 (insN m a : Nat)) ∧ Below w.heap.size w w' := by
  unfold matV
  have ho : insN m a = 0 := by unfold insN; rw [hn]; rfl
  have HO := Lib.hid ho
  have HN := Lib.hid hn
  clear ho hn
  go_enter Tryz.func89, Tryz.ntmps89
  go_wp2_with fail
  refine (node_any a _).mono ?_
  rintro e w' ⟨rfl, rfl⟩
  rw [HN.out]
  go_wp2_with fail
  go_ret
  exact ⟨by rw [HO.out]; rfl, (Below.refl _ _).alloc (Nat.le_refl _) _⟩
theorem ins_yes (m : List Nat) (a : Int) (w : World) (hm : Mat m) (hn : nodeB a = true) :
    Calls Tryz.prog 89 #[matV m, .int .i64 a] w fun e w' => e = .returned (.int .u64 (insN m a : Nat)) ∧ Below w.heap.size w w' := by
  unfold matV
  have ho : insN m a = insTo m a 32 := by unfold insN; rw [hn]; rfl
  have HO := Lib.hid ho
  have HN := Lib.hid hn
  have HM := Lib.hid hm
  clear ho hn hm
  go_enter Tryz.func89, Tryz.ntmps89
  go_wp2_with fail
  refine (node_any a _).mono ?_
  rintro e w' ⟨rfl, rfl⟩
  rw [HN.out]
  obtain ⟨W, hW⟩ : ∃ W, W = w.alloc (.cells (numsV m) 140) := ⟨_, rfl⟩
  rw [← hW]
  have hg : Nums W w.heap.size 140 m := by rw [hW]; exact nums_new m w
  have hB : Below w.heap.size w W := by rw [hW]; exact (Below.refl _ _).alloc (Nat.le_refl _) _
  have HG := Lib.hid hg
  have HB := Lib.hid hB
  clear hg hB hW
  go_wp2_with fail
  go_loop [4, 9, 5] (fun s i _ => ∃ k : Nat, k ≤ 32 ∧ i = .int .i64 k ∧ s = .int .u64 (insTo m a k : Nat)) (fun _ i _ => 32 - (intOf i).toNat)
  case atStart => exact ⟨0, Nat.zero_le _, rfl, rfl⟩
  case round =>
    obtain ⟨k, hk, rfl, rfl⟩ := hrel
    by_cases hlt : k < 32
    · have hc := HG.out.cell (k := k) (by rw [HM.out.1]; exact hlt)
      have hs := insTo_succ m a k
      have c1 := has_any (m.getD k 0) a W (HM.out.2 k)
      have hi := insTo_lt m a k
      generalize m.getD k 0 = x at *
      cases hb : hasB x a
      · rw [hb] at c1 hs
        rw [if_neg (by decide)] at hs
        have C1 := Lib.hid c1
        have H1 := Lib.hid hs
        clear c1 hs hb hi
        go_wp2_with fail
        refine (C1.out).mono ?_
        rintro e w2 ⟨rfl, rfl⟩
        go_wp2_with fail
        go_round
        case rel => exact ⟨k + 1, by omega, by go_num, by rw [H1.out]⟩
        case measure => simp [intOf]; omega
      · rw [hb] at c1 hs
        rw [if_pos rfl] at hs
        have C1 := Lib.hid c1
        have H1 := Lib.hid hs
        have H2 := Lib.hid hi
        clear c1 hs hb hi
        go_wp2_with fail
        refine (C1.out).mono ?_
        rintro e w2 ⟨rfl, rfl⟩
        go_wp2_with fail
        refine (with_any _ _ _ H2.out).mono ?_
        rintro e w2 ⟨rfl, rfl⟩
        go_wp2_with fail
        go_round
        case rel => exact ⟨k + 1, by omega, by go_num, by rw [H1.out]⟩
        case measure => simp [intOf]; omega
    · have e : k = 32 := by omega
      subst e
      rw [← HO.out]
      go_wp2_with fail
      go_ret
      exact ⟨rfl, HB.out⟩
/-- mat.Ins. -/
theorem ins_any (m : List Nat) (a : Int) (w : World) (hm : Mat m) :
    Calls Tryz.prog 89 #[matV m, .int .i64 a] w fun e w' => e = .returned (.int .u64 (insN m a : Nat)) ∧ Below w.heap.size w w' := by
  cases hn : nodeB a
  · exact ins_no m a w hn
  · exact ins_yes m a w hm hn
end Go.Proofs.YteflpdhgojcmcaaGreatDoor
namespace Go.Proofs.YteflpdhgojcmcaaGreatDoor
open Go.RowKit
open PSet PMat
/-- Two results: an array that lies in memory, and one that doesn't. -/
theorem results_cell_tmp {P : Program} {fn : Func} {p t : Tmp} {ty : TypeId} (h : fn.results = #[.cell p ty, .tmp t]) (tmps : Array Value) (w : World) (g : Nat) (tt : TypeId) (cs : Array Value) (fr : Nat × Nat) (d : TypeDesc)
    (hp : tmps.getD p undef = .pointer (some ⟨g, 0, none⟩)) (hg : w.heap[g]? = some (.cells cs tt fr))
    (hu : P.underlying ty = some d) (hd : (match d with | .struct _ | .array _ _ => true | _ => false) = true) (hi : (P.info? ty).map (·.size) = some cs.size) :
    (results fn tmps).run P w = .ok (.tuple #[.agg cs, tmps.getD t undef]) w := by
  have hp' : tmps[p]?.getD undef = .pointer (some ⟨g, 0, none⟩) := by simpa using hp
  simp [results, h, hp', asAddr, run_loadVar_row w g tt ty cs fr d hg hu hd hi]
theorem size_mat {m : List Nat} (h : m.length = 32) : (Tryz.prog.info? 140).map (·.size) = some (numsV m).size := by rw [size_numsV, h]; exact size140
theorem nums_new2 (m : List Nat) (z : Array Value) (w : World) : Nums ((w.alloc (.cells (numsV m) 140)).alloc (.cells z 140)) w.heap.size 140 m := heap_alloc2_old _ _ _
def zeros : List Nat := List.replicate 32 0
end Go.Proofs.YteflpdhgojcmcaaGreatDoor
namespace Go.Proofs.YteflpdhgojcmcaaGreatDoor
open Go.RowKit
open PSet
/-- May there be such a value? -/
def rightV (k n : Int) : Bool := if k = 0 then n == 0 else if k = 1 then true else if k = 2 then decide (0 ≤ n) && decide (n < 64) else false
theorem right_value (k n : Int) (w : World) : Calls Tryz.prog 229 #[.agg #[.int .i64 k, .int .i64 n]] w fun e w' => e = .returned (.bool (rightV k n)) ∧ Below w.heap.size w w' := by
  by_cases h0 : k = 0
  · subst h0
    go_enter Tryz.func229, Tryz.ntmps229
    go_wp2_with fail
    go_ret
    exact ⟨rfl, (Below.refl _ _).alloc (Nat.le_refl _) _⟩
  · have e0 : (k == 0) = false := by simpa using h0
    by_cases h1 : k = 1
    · subst h1
      clear h0 e0
      go_enter Tryz.func229, Tryz.ntmps229
      go_wp2_with fail
      go_ret
      exact ⟨rfl, (Below.refl _ _).alloc (Nat.le_refl _) _⟩
    · have e1 : (k == 1) = false := by simpa using h1
      by_cases h2 : k = 2
      · subst h2
        by_cases h3 : 0 ≤ n
        · have hr : rightV 2 n = decide (n < 64) := by unfold rightV; simp [h3]
          have HR := Lib.hid hr
          clear h0 e0 h1 e1 hr
          go_enter Tryz.func229, Tryz.ntmps229
          go_wp2_with fail
          go_ret
          exact ⟨by rw [HR.out]; simp, (Below.refl _ _).alloc (Nat.le_refl _) _⟩
        · have hr : rightV 2 n = false := by unfold rightV; simp [h3]
          have HR := Lib.hid hr
          have hd : decide (0 ≤ n) = false := by simpa using h3
          clear h0 e0 h1 e1 hr
          go_enter Tryz.func229, Tryz.ntmps229
          go_wp2_with fail
          go_ret
          exact ⟨by rw [HR.out]; simp, (Below.refl _ _).alloc (Nat.le_refl _) _⟩
      · have e2 : (k == 2) = false := by simpa using h2
        have hr : rightV k n = false := by unfold rightV; simp [h0, h1, h2]
        have HR := Lib.hid hr
        clear h0 h1 h2 hr
        go_enter Tryz.func229, Tryz.ntmps229
        go_wp2_with fail
        go_ret
        exact ⟨by rw [HR.out]; rfl, (Below.refl _ _).alloc (Nat.le_refl _) _⟩
theorem slot_yes (i : Int) (w : World) (h0 : 0 ≤ i) (h1 : i < 32) : Calls Tryz.prog 323 #[.int .i64 i] w fun e w' => e = .returned (.bool true) ∧ w = w' := by
  go_enter Tryz.func323, Tryz.ntmps323
  go_wp2_with fail
  go_ret
  exact ⟨by simp, rfl⟩
theorem size197 : (Tryz.prog.info? 197).map (·.size) = some 5 := by kernel_rfl
/-- A store in memory. -/
def StoreAt (w : World) (v : Value) (s : List VarM) : Prop := RowAt w v s.length 5 (storeC s)
theorem get_yes (v : Value) (s : List VarM) (x : Nat) (a : VarM) (w : World) (hs : StoreAt w v s) (hx : s[x]? = some a) (hn : s.length ≤ 100000) :
    Calls Tryz.prog 321 #[v, .int .i64 x] w fun e w' => e = .returned (.tuple #[.agg a.cells.toArray, .int .i64 0]) ∧ Below w.heap.size w w' := by
  have hlt : x < s.length := (List.getElem?_eq_some_iff.1 hx).1
  obtain ⟨hl, ad, cap, rfl, hr⟩ := hs
  obtain ⟨b, off, rfl, hb, hr⟩ := hr (by omega)
  have hr1 : (w.alloc (.cells #[.int .i64 0, .int .i64 0, .int .i64 0, .int .i64 0, .int .u64 0] 197)).rangeAt b (off + x * 5) a.cells := World.rangeAt_alloc (chunk_range VarM.len hr hx) _
  obtain ⟨k, n, ver, wr, marks⟩ := a
  generalize s.length = len at *
  have HR := Lib.hid hr1
  have g0 : (0 : Int) ≤ (x : Int) := by omega
  have g1 : (x : Int) < (len : Int) := by omega
  clear hr hr1 hl hx
  go_enter Tryz.func321, Tryz.ntmps321
  go_wp2_with (refine wpList_load_mid rfl 197 _ rfl b (off + x * 5) rfl [.int .i64 k, .int .i64 n, .int .i64 ver, .int .i64 wr, .int .u64 marks] _ HR.out Tryz.underlying197 rfl (by kernel_rfl) ?_)
  refine bodyPost_ret (v := .tuple #[.agg #[.int .i64 k, .int .i64 n, .int .i64 ver, .int .i64 wr, .int .u64 marks], .int .i64 0]) (by simp [results, Tryz.results321, go_sem]) rfl ⟨rfl, ?_⟩
  exact (Below.refl _ _).alloc (Nat.le_refl _) _
end Go.Proofs.YteflpdhgojcmcaaGreatDoor
