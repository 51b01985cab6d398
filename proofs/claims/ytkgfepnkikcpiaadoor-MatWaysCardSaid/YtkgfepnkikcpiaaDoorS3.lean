/- The walk of set.Of: over a row of numbers that reads as a list, it comes to the set of them. -/
import Derived.Test.YtkgfepnkikcpiaaDoorS2
namespace Go.Proofs.YtkgfepnkikcpiaaDoor
open Go.RowKit
open PSet

/-- The cells at an address read as a row of ints. -/
def IntsAt (w : World) (a : Option Addr) (l : List Int) : Prop := ∀ k, k < l.length → ∃ b off, a = some ⟨b, off, none⟩ ∧ w.cell? ⟨b, off + k, none⟩ = some (.int .i64 (l.getD k 0))

theorem ofN_snoc (l : List Int) (k : Nat) (hk : k < l.length) : ofN (l.take (k + 1)) = withN (ofN (l.take k)) (l.getD k 0) := by
  unfold ofN
  rw [List.take_add_one, List.foldl_append]
  simp [List.getD, List.getElem?_eq_getElem hk]

theorem of_at (b off cap : Nat) (l : List Int) (w : World) (hl : l.length ≤ 9223372036854775807)
    (hc : ∀ k, k < l.length → w.cell? ⟨b, off + k, none⟩ = some (.int .i64 (l.getD k 0))) :
    Calls Tryd.prog 28 #[.slice (some ⟨b, off, none⟩) l.length cap] w fun e w' => e = .returned (.int .u64 (ofN l : Nat)) ∧ w = w' := by
  generalize hn : l.length = len at *
  have HN := Lib.hid hn
  clear hn
  go_enter Tryd.func28, Tryd.ntmps28
  go_wp2_with fail
  go_loop [2, 7] (fun s i => ∃ k : Nat, k ≤ len ∧ i = .int .i64 k ∧ s = .int .u64 (ofN (l.take k) : Nat)) (fun _ i => len - (intOf i).toNat)
  case atStart => exact ⟨0, Nat.zero_le _, rfl, rfl⟩
  case round =>
    obtain ⟨k, hk, rfl, rfl⟩ := hrel
    by_cases hlt : k < len
    · have hcell := hc k hlt
      have hor := or_bit (ofN (l.take k)) (l.getD k 0) (ofN_lt _)
      rw [← ofN_snoc l k (by have := HN.out; omega)] at hor
      generalize l.getD k 0 = x at *
      have HO := Lib.hid hor
      clear hor hc
      go_wp2_with (go_at_call 48; refine (bit_any _ _).mono ?_; rintro e w' ⟨rfl, rfl⟩)
      go_round
      case rel => exact ⟨k + 1, by omega, by go_num, by rw [← HO.out]⟩
      case measure => simp [intOf]; omega
    · have e : k = len := by omega
      subst e
      clear hc
      go_wp2_with fail
      go_ret
      refine ⟨?_, rfl⟩
      rw [List.take_of_length_le (by have := HN.out; omega)]
      rfl

theorem of_empty (a : Option Addr) (cap : Nat) (w : World) :
    Calls Tryd.prog 28 #[.slice a 0 cap] w fun e w' => e = .returned (.int .u64 (ofN [] : Nat)) ∧ w = w' := by
  go_enter Tryd.func28, Tryd.ntmps28
  go_wp2_with fail
  go_loop [2, 7] (fun s i => i = .int .i64 0 ∧ s = .int .u64 0) (fun _ _ => 0)
  case atStart => exact ⟨rfl, rfl⟩
  case round =>
    obtain ⟨rfl, rfl⟩ := hrel
    go_wp2_with fail
    go_ret
    exact ⟨rfl, rfl⟩

/-- set.Of. -/
theorem of_any (a : Option Addr) (cap : Nat) (l : List Int) (w : World) (hl : l.length ≤ 9223372036854775807) (hc : IntsAt w a l) :
    Calls Tryd.prog 28 #[.slice a l.length cap] w fun e w' => e = .returned (.int .u64 (ofN l : Nat)) ∧ w = w' := by
  match l, hl, hc with
  | [], _, _ => exact of_empty a cap w
  | x :: l, hl, hc =>
    obtain ⟨b, off, rfl, _⟩ := hc 0 (by simp)
    refine of_at b off cap (x :: l) w hl ?_
    intro k hk
    obtain ⟨b', off', e, h⟩ := hc k hk
    injection e with e
    injection e with e1 e2
    subst e1; subst e2
    exact h
end Go.Proofs.YtkgfepnkikcpiaaDoor
