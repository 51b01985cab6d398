/- The walks of package set's smallest functions: the bit of a number; whether a number is in a set; a set with a number more, or less. -/
import Derived.Test.YtkgfepnkikcpiaaDoorChecked
import Derived.Test.YtkgfepnkikcpiaaDoorRows
import Derived.WalkKit
import Derived.WalkSpells
import Derived.WalkLawsBesides
import Derived.Lib.Hide
import Derived.Test.YtkgfepnkikcpiaaDoorPSet
namespace Go.Proofs.YtkgfepnkikcpiaaDoor
open Go.RowKit
open PSet

theorem wrap_pow (i : Int) (h1 : i ≤ 63) : IntKind.u64.wrap ((2 : Int) ^ i.toNat) = ((2 ^ i.toNat : Nat) : Int) := by
  have h : (2 : Nat) ^ i.toNat < 2 ^ 64 := Nat.pow_lt_pow_right (by decide) (by omega)
  have e : ((2 : Int) ^ i.toNat) = ((2 ^ i.toNat : Nat) : Int) := by simp
  rw [e, IntKind.wrap_u64]
  generalize (2 : Nat) ^ i.toNat = k at *
  omega

/-- set.bit. -/
theorem bit_any (i : Int) (w : World) :
    Calls Tryd.prog 48 #[.int .i64 i] w fun e w' => e = .returned (.int .u64 (bitN i : Nat)) ∧ w = w' := by
  by_cases h0 : i < 0
  · have hb : ((bitN i : Nat) : Int) = 0 := by rw [bitN_far (by omega)]; rfl
    rw [hb]
    go_enter Tryd.func48, Tryd.ntmps48
    go_wp2
    go_ret
    exact ⟨rfl, rfl⟩
  · by_cases h1 : 63 < i
    · have hb : ((bitN i : Nat) : Int) = 0 := by rw [bitN_far (by omega)]; rfl
      rw [hb]
      go_enter Tryd.func48, Tryd.ntmps48
      go_wp2
      go_ret
      exact ⟨rfl, rfl⟩
    · have g0 : 0 ≤ i := by omega
      have g1 : i ≤ 63 := by omega
      have hb : IntKind.u64.wrap ((2 : Int) ^ i.toNat) = ((bitN i : Nat) : Int) := by rw [bitN_near ⟨g0, g1⟩]; exact wrap_pow i g1
      have H := Lib.hid hb
      clear hb
      go_enter Tryd.func48, Tryd.ntmps48
      go_wp2
      go_ret
      refine ⟨?_, rfl⟩
      rw [← H.out]
      rfl

theorem and_bit (s : Nat) (i : Int) (hs : s < 2 ^ 64) : (bits .and .u64 (s : Int) ((bitN i : Nat) : Int) != 0) = hasB s i := by
  rw [u64_and_nat s (bitN i) (by omega) (by have := bitN_lt i; omega)]
  have e : s &&& bitN i = if hasB s i then 2 ^ i.toNat else 0 := by
    apply Nat.eq_of_testBit_eq
    intro j
    rw [Nat.testBit_and, testBit_bitN]
    by_cases hh : hasB s i = true
    · rw [if_pos hh, Nat.testBit_two_pow]
      unfold hasB at hh
      simp only [Bool.and_eq_true, decide_eq_true_eq] at hh
      obtain ⟨⟨a, b⟩, c⟩ := hh
      by_cases e : i.toNat = j
      · subst e
        simp [c]
        omega
      · have : ¬ (i = (j : Int) ∧ j < 64) := by omega
        simp [e, this]
    · rw [if_neg hh, Nat.zero_testBit]
      unfold hasB at hh
      by_cases e : i = (j : Int) ∧ j < 64
      · obtain ⟨rfl, h64⟩ := e
        have h3 : (0 ≤ (j : Int) ∧ (j : Int) ≤ 63) := by omega
        simp [h3] at hh
        simp [hh]
      · simp [e]
  rw [e]
  cases h : hasB s i
  · rfl
  · have hp : (0 : Nat) < 2 ^ i.toNat := Nat.two_pow_pos _
    rw [if_pos rfl, bne_iff_ne]
    omega

theorem or_bit (s : Nat) (i : Int) (hs : s < 2 ^ 64) : bits .or .u64 (s : Int) ((bitN i : Nat) : Int) = ((withN s i : Nat) : Int) :=
  u64_or_nat s (bitN i) (by omega) (by have := bitN_lt i; omega)
theorem andNot_bit (s : Nat) (i : Int) (hs : s < 2 ^ 64) : bits .andNot .u64 (s : Int) ((bitN i : Nat) : Int) = ((lessN s i : Nat) : Int) :=
  u64_andNot_nat s (bitN i) (by omega) (by have := bitN_lt i; omega)

/-- set.Has. -/
theorem has_any (s : Nat) (i : Int) (w : World) (hs : s < 2 ^ 64) :
    Calls Tryd.prog 16 #[.int .u64 s, .int .i64 i] w fun e w' => e = .returned (.bool (hasB s i)) ∧ w = w' := by
  have H := Lib.hid (and_bit s i hs)
  clear hs
  go_enter Tryd.func16, Tryd.ntmps16
  go_wp2_with (go_at_call 48; refine (bit_any _ _).mono ?_; rintro e w' ⟨rfl, rfl⟩)
  go_ret
  refine ⟨?_, rfl⟩
  rw [← H.out]
  rfl

/-- set.With. -/
theorem with_any (s : Nat) (i : Int) (w : World) (hs : s < 2 ^ 64) :
    Calls Tryd.prog 18 #[.int .u64 s, .int .i64 i] w fun e w' => e = .returned (.int .u64 (withN s i : Nat)) ∧ w = w' := by
  have H := Lib.hid (or_bit s i hs)
  clear hs
  go_enter Tryd.func18, Tryd.ntmps18
  go_wp2_with (go_at_call 48; refine (bit_any _ _).mono ?_; rintro e w' ⟨rfl, rfl⟩)
  go_ret
  refine ⟨?_, rfl⟩
  rw [← H.out]
  rfl

/-- set.Less. -/
theorem less_any (s : Nat) (i : Int) (w : World) (hs : s < 2 ^ 64) :
    Calls Tryd.prog 20 #[.int .u64 s, .int .i64 i] w fun e w' => e = .returned (.int .u64 (lessN s i : Nat)) ∧ w = w' := by
  have H := Lib.hid (andNot_bit s i hs)
  clear hs
  go_enter Tryd.func20, Tryd.ntmps20
  go_wp2_with (go_at_call 48; refine (bit_any _ _).mono ?_; rintro e w' ⟨rfl, rfl⟩)
  go_ret
  refine ⟨?_, rfl⟩
  rw [← H.out]
  rfl
end Go.Proofs.YtkgfepnkikcpiaaDoor
