/- The walks of set.First, set.Count and set.Of, and of math/bits' two functions beneath them. Of a row of numbers it is asked that its cells read as that row; of the table of math/bits, that it reads as its initialiser lays it. -/
import Derived.Test.YtkgfepnkikcpiaaDoorS1
import Derived.Test.YtkgfepnkikcpiaaDoorPPop
import Derived.Shelf.Spec.TrailingZeros
namespace Go.Proofs.YtkgfepnkikcpiaaDoor
open Go.RowKit
open PSet

/-- The table of math/bits lies in block 0. -/
def Tab (w : World) : Prop := TabAt 0 Lib.deBruijn64tab w

set_option maxHeartbeats 1000000 in
theorem tz_core (x k idx : Nat) (w : World) (hx0 : ((x : Int) == 0) = false)
    (key : IntKind.u64.wrap (bits BinOp.and IntKind.u64 (x : Int) (IntKind.u64.wrap (-(x : Int))) * 285870213051353865) / 288230376151711744 = (idx : Int))
    (hi : idx < 64) (hk : k < 64) (hcell : w.cell? ⟨0, idx, none⟩ = some (.int .u8 k)) :
    Calls Tryd.prog 51 #[.int .u64 x] w fun e w' => e = .returned (.int .i64 k) ∧ w = w' := by
  go_enter Tryd.func51, Tryd.ntmps51
  go_wp2_with (simp only [key])
  go_ret
  exact ⟨rfl, rfl⟩

theorem tz_any (x : Nat) (hx : x < 18446744073709551616) (hx0 : x ≠ 0) (w : World) (hT : Tab w) :
    Calls Tryd.prog 51 #[.int .u64 x] w fun e w' => e = .returned (.int .i64 (firstN x)) ∧ w = w' := by
  obtain ⟨hlow, hk⟩ := Lib.lowest_bit 64 x hx0 hx
  obtain ⟨hi, htab⟩ := Lib.deBruijn64_at _ hk
  have hcell := hT _ hi
  rw [htab] at hcell
  rw [firstN_ctz hx0 hx]
  exact tz_core x _ _ w (by simp; omega) (tz64_key x _ hx hx0 hlow) hi hk hcell

/-- set.First. -/
theorem first_any (s : Nat) (w : World) (hs : s < 2 ^ 64) (hT : Tab w) :
    Calls Tryd.prog 25 #[.int .u64 s] w fun e w' => e = .returned (.int .i64 (firstN s)) ∧ w = w' := by
  by_cases h0 : s = 0
  · subst h0
    have H := Lib.hid firstN_zero
    go_enter Tryd.func25, Tryd.ntmps25
    go_wp2_with fail
    go_ret
    exact ⟨by rw [H.out]; rfl, rfl⟩
  · have h1 : ((s : Int) == 0) = false := by simp; omega
    have c := tz_any s (by omega) h0 w hT
    have C := Lib.hid c
    clear c hT hs
    go_enter Tryd.func25, Tryd.ntmps25
    go_wp2_with (go_at_call 51; refine (C.out).mono ?_; rintro e w' ⟨rfl, rfl⟩)
    go_ret
    exact ⟨rfl, rfl⟩

theorem ones_core (x x1 x2 x3 x4 x5 x6 : Nat) (w : World)
    (k1 : IntKind.u64.wrap (bits BinOp.and IntKind.u64 ((x : Int) / 2) 6148914691236517205 + bits BinOp.and IntKind.u64 (x : Int) 6148914691236517205) = (x1 : Int))
    (k2 : IntKind.u64.wrap (bits BinOp.and IntKind.u64 ((x1 : Int) / 4) 3689348814741910323 + bits BinOp.and IntKind.u64 (x1 : Int) 3689348814741910323) = (x2 : Int))
    (k3 : bits BinOp.and IntKind.u64 (IntKind.u64.wrap ((x2 : Int) / 16 + (x2 : Int))) 1085102592571150095 = (x3 : Int))
    (k4 : IntKind.u64.wrap ((x3 : Int) + (x3 : Int) / 256) = (x4 : Int))
    (k5 : IntKind.u64.wrap ((x4 : Int) + (x4 : Int) / 65536) = (x5 : Int))
    (k6 : IntKind.u64.wrap ((x5 : Int) + (x5 : Int) / 4294967296) = (x6 : Int)) (h6 : x6 < 9223372036854775808) :
    Calls Tryd.prog 52 #[.int .u64 x] w fun e w' => e = .returned (.int .i64 (bits BinOp.and IntKind.i64 (x6 : Int) 127)) ∧ w = w' := by
  go_enter Tryd.func52, Tryd.ntmps52
  go_wp2
  go_ret
  exact ⟨rfl, rfl⟩

theorem and127 (x : Nat) (h : x < 9223372036854775808) : bits BinOp.and IntKind.i64 (x : Int) 127 = ((x % 128 : Nat) : Int) := by
  have h1 : (BitVec.ofInt 64 (x : Int)).toNat = x := by
    rw [BitVec.ofInt_natCast, BitVec.toNat_ofNat]; exact Nat.mod_eq_of_lt (by omega)
  have h2 : (BitVec.ofInt 64 (127 : Int)).toNat = 127 := by decide
  have h3 : x &&& 127 = x % 128 := Nat.and_two_pow_sub_one_eq_mod x 7
  show IntKind.i64.wrap ((BitVec.ofInt 64 (x : Int) &&& BitVec.ofInt 64 (127 : Int)).toNat : Int) = _
  rw [BitVec.toNat_and, h1, h2, h3]
  rw [IntKind.wrap_i64]
  omega

theorem mask_nat (a m : Nat) (ha : a < 18446744073709551616) (hm : m < 18446744073709551616) : bits BinOp.and IntKind.u64 (a : Int) (m : Int) = ((a &&& m : Nat) : Int) := u64_and_nat a m ha hm

theorem div_cast (a d : Nat) : ((a : Int) / (d : Int)) = ((a / d : Nat) : Int) := by simp

/-- math/bits.OnesCount64. -/
theorem ones_any (x : Nat) (w : World) (hx : x < 2 ^ 64) :
    Calls Tryd.prog 52 #[.int .u64 x] w fun e w' => e = .returned (.int .i64 ((itemsN x).length : Nat)) ∧ w = w' := by
  have hc := PPop.count_eq x (by omega) _ _ _ _ _ _ rfl rfl rfl rfl rfl rfl
  have hb : ∀ a m : Nat, a &&& m ≤ m := fun _ _ => Nat.and_le_right
  have b1 : ∀ a b : Nat, a &&& 6148914691236517205 ≤ 6148914691236517205 := fun a _ => hb a _
  generalize e1 : (x / 2 &&& 6148914691236517205) + (x &&& 6148914691236517205) = x1 at hc
  generalize e2 : (x1 / 4 &&& 3689348814741910323) + (x1 &&& 3689348814741910323) = x2 at hc
  generalize e3 : (x2 / 16 + x2) &&& 1085102592571150095 = x3 at hc
  generalize e4 : x3 + x3 / 256 = x4 at hc
  generalize e5 : x4 + x4 / 65536 = x5 at hc
  generalize e6 : x5 + x5 / 4294967296 = x6 at hc
  obtain ⟨h4, h5, h6, h7⟩ := hc
  have c1 := hb (x / 2) 6148914691236517205
  have c2 := hb x 6148914691236517205
  have c3 := hb (x1 / 4) 3689348814741910323
  have c4 := hb x1 3689348814741910323
  have d1 : x1 < 18446744073709551616 := by omega
  have d2 : x2 ≤ 7378697629483820646 := by omega
  have d3 : x3 ≤ 1085102592571150095 := by rw [← e3]; exact hb _ _
  have k1 : IntKind.u64.wrap (bits BinOp.and IntKind.u64 ((x : Int) / 2) 6148914691236517205 + bits BinOp.and IntKind.u64 (x : Int) 6148914691236517205) = (x1 : Int) := by
    rw [show ((x : Int) / 2) = ((x / 2 : Nat) : Int) from div_cast x 2, show (6148914691236517205 : Int) = ((6148914691236517205 : Nat) : Int) from rfl, mask_nat _ _ (by omega) (by omega), mask_nat _ _ (by omega) (by omega), IntKind.wrap_u64, ← e1]
    omega
  have k2 : IntKind.u64.wrap (bits BinOp.and IntKind.u64 ((x1 : Int) / 4) 3689348814741910323 + bits BinOp.and IntKind.u64 (x1 : Int) 3689348814741910323) = (x2 : Int) := by
    rw [show ((x1 : Int) / 4) = ((x1 / 4 : Nat) : Int) from div_cast x1 4, show (3689348814741910323 : Int) = ((3689348814741910323 : Nat) : Int) from rfl, mask_nat _ _ (by omega) (by omega), mask_nat _ _ (by omega) (by omega), IntKind.wrap_u64, ← e2]
    omega
  have k3 : bits BinOp.and IntKind.u64 (IntKind.u64.wrap ((x2 : Int) / 16 + (x2 : Int))) 1085102592571150095 = (x3 : Int) := by
    have ew : IntKind.u64.wrap ((x2 : Int) / 16 + (x2 : Int)) = ((x2 / 16 + x2 : Nat) : Int) := by rw [IntKind.wrap_u64]; omega
    rw [ew, show (1085102592571150095 : Int) = ((1085102592571150095 : Nat) : Int) from rfl, mask_nat _ _ (by omega) (by omega), ← e3]
  have k4 : IntKind.u64.wrap ((x3 : Int) + (x3 : Int) / 256) = (x4 : Int) := by rw [IntKind.wrap_u64, ← e4]; omega
  have k5 : IntKind.u64.wrap ((x4 : Int) + (x4 : Int) / 65536) = (x5 : Int) := by rw [IntKind.wrap_u64, ← e5]; omega
  have k6 : IntKind.u64.wrap ((x5 : Int) + (x5 : Int) / 4294967296) = (x6 : Int) := by rw [IntKind.wrap_u64, ← e6]; omega
  refine (ones_core x x1 x2 x3 x4 x5 x6 w k1 k2 k3 k4 k5 k6 (by omega)).mono ?_
  rintro e w' ⟨rfl, rfl⟩
  refine ⟨?_, rfl⟩
  rw [and127 x6 (by omega), h7]
  rfl

/-- set.Count. -/
theorem count_any (s : Nat) (w : World) (hs : s < 2 ^ 64) :
    Calls Tryd.prog 27 #[.int .u64 s] w fun e w' => e = .returned (.int .i64 ((itemsN s).length : Nat)) ∧ w = w' := by
  have c := ones_any s w hs
  have C := Lib.hid c
  clear c hs
  go_enter Tryd.func27, Tryd.ntmps27
  go_wp2_with (go_at_call 52; refine (C.out).mono ?_; rintro e w' ⟨rfl, rfl⟩)
  go_ret
  exact ⟨rfl, rfl⟩
end Go.Proofs.YtkgfepnkikcpiaaDoor
