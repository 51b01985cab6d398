/- The walks of the document's answer for layer 1: power, Has, With, Less, Of, over numbers: they come to what the words of sets say. -/
import Derived.Test.YtkgfepnkikcpiaaDoorArr
namespace Go.Proofs.YtkgfepnkikcpiaaDoor
open Go.RowKit
open PSet

theorem pow_le63 (k : Nat) (h : k ≤ 63) : (2 : Nat) ^ k ≤ 9223372036854775808 := by
  have : (2 : Nat) ^ k ≤ 2 ^ 63 := Nat.pow_le_pow_right (by decide) h
  omega

/-- ref01.power. -/
theorem power_any (n : Nat) (w : World) (hn : n ≤ 63) :
    Calls Tryd.prog 49 #[.int .i64 n] w fun e w' => e = .returned (.int .u64 ((2 ^ n : Nat) : Int)) ∧ w = w' := by
  go_enter Tryd.func49, Tryd.ntmps49
  go_wp2_with fail
  go_loop [3, 4] (fun p i => ∃ k : Nat, k ≤ n ∧ i = .int .i64 k ∧ p = .int .u64 ((2 ^ k : Nat) : Int)) (fun _ i => n - (intOf i).toNat)
  case atStart => exact ⟨0, Nat.zero_le _, rfl, rfl⟩
  case round =>
    obtain ⟨k, hk, rfl, rfl⟩ := hrel
    by_cases hlt : k < n
    · have hp := pow_le63 k (by omega)
      have hs : 2 ^ (k + 1) = 2 ^ k * 2 := Nat.pow_succ 2 k
      have hq := pow_le63 (k + 1) (by omega)
      generalize (2 : Nat) ^ k = p at *
      have HS := Lib.hid hs
      clear hs
      go_wp2_with fail
      go_round
      case rel =>
        refine ⟨k + 1, by omega, by go_num, ?_⟩
        rw [HS.out]
        have hw : IntKind.u64.wrap ((p : Int) * 2) = ((p * 2 : Nat) : Int) := by
          have := HS.out
          rw [IntKind.wrap_u64]
          omega
        first
          | rw [hw]
          | simp
      case measure => simp [intOf]; omega
    · have e : k = n := by omega
      subst e
      go_wp2_with fail
      go_ret
      exact ⟨rfl, rfl⟩

theorem shr_bit (s i : Nat) : (s / 2 ^ i % 2 = 1) ↔ s.testBit i = true := by
  rw [Nat.testBit_eq_decide_div_mod_eq]
  simp

/-- ref01.Has. -/
theorem rhas_any (s : Nat) (i : Int) (w : World) (hs : s < 2 ^ 64) :
    Calls Tryd.prog 17 #[.int .u64 s, .int .i64 i] w fun e w' => e = .returned (.bool (hasB s i)) ∧ w = w' := by
  by_cases h0 : i < 0
  · have H := Lib.hid (hasB_far s (i := i) (by omega))
    have g0 : decide (0 ≤ i) = false := by simp; omega
    go_enter Tryd.func17, Tryd.ntmps17
    go_wp2_with fail
    go_ret
    exact ⟨by rw [H.out]; rfl, rfl⟩
  · by_cases h1 : 64 ≤ i
    · have H := Lib.hid (hasB_far s (i := i) (by omega))
      have g0 : decide (0 ≤ i) = true := by simp; omega
      have g1 : decide (i < 64) = false := by simp; omega
      go_enter Tryd.func17, Tryd.ntmps17
      go_wp2_with fail
      go_ret
      exact ⟨by rw [H.out]; rfl, rfl⟩
    · obtain ⟨n, rfl⟩ := Int.eq_ofNat_of_zero_le (show 0 ≤ i by omega)
      have hn : n ≤ 63 := by omega
      have hb : hasB s (n : Int) = ((IntKind.u64.wrap ((s : Int) / ((2 ^ n : Nat) : Int))).tmod 2 == 1) := by
        rw [hasB_nat s n (by omega), Bool.eq_iff_iff, beq_iff_eq, ← shr_bit]
        have e : ((s : Int) / ((2 ^ n : Nat) : Int)) = ((s / 2 ^ n : Nat) : Int) := div_cast _ _
        have hle : s / 2 ^ n ≤ s := Nat.div_le_self _ _
        have hs2 : s < 18446744073709551616 := hs
        rw [e, IntKind.wrap_u64, Int.tmod_eq_emod_of_nonneg (by omega)]
        omega
      have c := power_any n w hn
      have hp : 0 < 2 ^ n := Nat.two_pow_pos n
      have hq := pow_le63 n hn
      generalize (2 : Nat) ^ n = p at *
      have H := Lib.hid hb
      have C := Lib.hid c
      clear hb c hs
      go_enter Tryd.func17, Tryd.ntmps17
      go_wp2_with fail
      refine (C.out).mono ?_
      rintro e w' ⟨rfl, rfl⟩
      go_wp2_with fail
      go_ret
      exact ⟨by rw [H.out]; rfl, rfl⟩

theorem add_bit (s n : Nat) (hs : s < 2 ^ 64) (hn : n < 64) (h : s.testBit n = false) : (s + 2 ^ n) % 18446744073709551616 = s ||| 2 ^ n := by
  have hp : 2 ^ n < 2 ^ 64 := Nat.pow_lt_pow_right (by decide) hn
  have hz : BitVec.ofNat 64 s &&& BitVec.ofNat 64 (2 ^ n) = 0#64 := by
    apply BitVec.eq_of_toNat_eq
    rw [BitVec.toNat_and, BitVec.toNat_ofNat, BitVec.toNat_ofNat, Nat.mod_eq_of_lt hs, Nat.mod_eq_of_lt hp]
    apply Nat.eq_of_testBit_eq
    intro j
    rw [Nat.testBit_and, Nat.testBit_two_pow]
    by_cases e : n = j
    · subst e; simp [h]
    · simp [e]
  have ha := congrArg BitVec.toNat (BitVec.add_eq_or_of_and_eq_zero _ _ hz)
  rw [BitVec.toNat_add, BitVec.toNat_or, BitVec.toNat_ofNat, BitVec.toNat_ofNat, Nat.mod_eq_of_lt hs, Nat.mod_eq_of_lt hp] at ha
  exact ha

theorem withN_near (s n : Nat) (hn : n < 64) : withN s (n : Int) = s ||| 2 ^ n := by
  unfold withN
  rw [bitN_near (by omega)]
  simp
theorem withN_far (s : Nat) {i : Int} (h : ¬ (0 ≤ i ∧ i ≤ 63)) : withN s i = s := by
  unfold withN
  rw [bitN_far h, Nat.or_zero]
theorem withN_has (s n : Nat) (h : s.testBit n = true) : withN s (n : Int) = s := by
  apply Nat.eq_of_testBit_eq
  intro j
  rw [testBit_withN]
  by_cases e : (n : Int) = (j : Int) ∧ j < 64
  · have : n = j := by omega
    subst this
    rw [h, Bool.true_or]
  · rw [decide_eq_false e, Bool.or_false]
theorem lessN_hasnt (s : Nat) (hs : s < 2 ^ 64) (i : Int) (h : hasB s i = false) : lessN s i = s := by
  apply eq_of_low (lessN_lt hs i) hs
  intro j hj
  rw [testBit_lessN, decide_eq_true hj, Bool.and_true]
  by_cases e : i = (j : Int)
  · subst e
    rw [hasB_nat s j hj] at h
    rw [h, Bool.false_and]
  · rw [decide_eq_false e, Bool.not_false, Bool.and_true]
theorem sub_bit (s n : Nat) (hs : s < 2 ^ 64) (hn : n < 64) (h : s.testBit n = true) : 2 ^ n ≤ s ∧ s - 2 ^ n = lessN s (n : Int) := by
  have hp : 2 ^ n < 2 ^ 64 := Nat.pow_lt_pow_right (by decide) hn
  have ht : (lessN s (n : Int)).testBit n = false := by
    rw [testBit_lessN]
    simp
  have ha := add_bit (lessN s (n : Int)) n (lessN_lt hs _) hn ht
  have ho : lessN s (n : Int) ||| 2 ^ n = s := by
    apply Nat.eq_of_testBit_eq
    intro j
    rw [Nat.testBit_or, Nat.testBit_two_pow, testBit_lessN]
    by_cases e : n = j
    · subst e
      simp [h]
    · have e' : ¬ ((n : Int) = (j : Int)) := by omega
      rw [decide_eq_false e, decide_eq_false e', Bool.or_false, Bool.not_false, Bool.and_true]
      by_cases hb : s.testBit j = true
      · rw [decide_eq_true (lt_of_testBit hs hb), Bool.and_true]
      · have hb' : s.testBit j = false := by simpa using hb
        rw [hb', Bool.false_and]
  rw [ho] at ha
  have hl : lessN s (n : Int) ≤ s := Nat.and_le_left
  generalize lessN s (n : Int) = t at *
  generalize (2 : Nat) ^ n = p at *
  omega

/-- ref01.With. -/
theorem rwith_any (s : Nat) (i : Int) (w : World) (hs : s < 2 ^ 64) :
    Calls Tryd.prog 19 #[.int .u64 s, .int .i64 i] w fun e w' => e = .returned (.int .u64 (withN s i : Nat)) ∧ w = w' := by
  by_cases h0 : i < 0
  · have H := Lib.hid (withN_far s (i := i) (by omega))
    have g0 : decide (i < 0) = true := by simp; omega
    go_enter Tryd.func19, Tryd.ntmps19
    go_wp2_with fail
    go_ret
    exact ⟨by rw [H.out]; rfl, rfl⟩
  · have g0 : decide (i < 0) = false := by simp; omega
    by_cases h1 : 63 < i
    · have H := Lib.hid (withN_far s (i := i) (by omega))
      have g1 : decide (63 < i) = true := by simp; omega
      go_enter Tryd.func19, Tryd.ntmps19
      go_wp2_with fail
      go_ret
      exact ⟨by rw [H.out]; rfl, rfl⟩
    · have g1 : decide (63 < i) = false := by simp; omega
      obtain ⟨n, rfl⟩ := Int.eq_ofNat_of_zero_le (show 0 ≤ i by omega)
      have hn : n ≤ 63 := by omega
      have c := rhas_any s (n : Int) w hs
      rw [hasB_nat s n (by omega)] at c
      cases hb : s.testBit n
      · rw [hb] at c
        have c2 := power_any n w hn
        have hw : IntKind.u64.wrap ((s : Int) + ((2 ^ n : Nat) : Int)) = ((withN s (n : Int) : Nat) : Int) := by
          rw [withN_near s n (by omega), ← add_bit s n hs (by omega) hb, IntKind.wrap_u64]
          generalize (2 : Nat) ^ n = p
          omega
        have hp := pow_le63 n hn
        generalize (2 : Nat) ^ n = p at *
        have C := Lib.hid c
        have C2 := Lib.hid c2
        have HW := Lib.hid hw
        clear c c2 hw hb hs
        go_enter Tryd.func19, Tryd.ntmps19
        go_wp2_with fail
        refine (C.out).mono ?_
        rintro e w' ⟨rfl, rfl⟩
        go_wp2_with fail
        refine (C2.out).mono ?_
        rintro e w' ⟨rfl, rfl⟩
        go_wp2_with fail
        go_ret
        exact ⟨by rw [← HW.out]; rfl, rfl⟩
      · rw [hb] at c
        have H := Lib.hid (withN_has s n hb)
        have C := Lib.hid c
        clear c hb hs
        go_enter Tryd.func19, Tryd.ntmps19
        go_wp2_with fail
        refine (C.out).mono ?_
        rintro e w' ⟨rfl, rfl⟩
        go_wp2_with fail
        go_ret
        exact ⟨by rw [H.out]; rfl, rfl⟩

/-- ref01.Less. -/
theorem rless_any (s : Nat) (i : Int) (w : World) (hs : s < 2 ^ 64) :
    Calls Tryd.prog 21 #[.int .u64 s, .int .i64 i] w fun e w' => e = .returned (.int .u64 (lessN s i : Nat)) ∧ w = w' := by
  have c := rhas_any s i w hs
  cases hb : hasB s i
  · rw [hb] at c
    have H := Lib.hid (lessN_hasnt s hs i hb)
    have C := Lib.hid c
    clear c hb hs
    go_enter Tryd.func21, Tryd.ntmps21
    go_wp2_with fail
    refine (C.out).mono ?_
    rintro e w' ⟨rfl, rfl⟩
    go_wp2_with fail
    go_ret
    exact ⟨by rw [H.out]; rfl, rfl⟩
  · rw [hb] at c
    have hi : 0 ≤ i ∧ i ≤ 63 := by
      by_cases h : 0 ≤ i ∧ i ≤ 63
      · exact h
      · rw [hasB_far s h] at hb; cases hb
    obtain ⟨n, rfl⟩ := Int.eq_ofNat_of_zero_le hi.1
    have hn : n ≤ 63 := by omega
    rw [hasB_nat s n (by omega)] at hb
    obtain ⟨hge, hsub⟩ := sub_bit s n hs (by omega) hb
    have c2 := power_any n w hn
    have hw : IntKind.u64.wrap ((s : Int) - ((2 ^ n : Nat) : Int)) = ((lessN s (n : Int) : Nat) : Int) := by
      rw [← hsub, IntKind.wrap_u64]
      generalize (2 : Nat) ^ n = p at *
      omega
    clear hge hsub
    generalize (2 : Nat) ^ n = p at *
    have C := Lib.hid c
    have C2 := Lib.hid c2
    have HW := Lib.hid hw
    clear c c2 hw hb hs hi
    go_enter Tryd.func21, Tryd.ntmps21
    go_wp2_with fail
    refine (C.out).mono ?_
    rintro e w' ⟨rfl, rfl⟩
    go_wp2_with fail
    refine (C2.out).mono ?_
    rintro e w' ⟨rfl, rfl⟩
    go_wp2_with fail
    go_ret
    exact ⟨by rw [← HW.out]; rfl, rfl⟩

theorem rof_at (b off cap : Nat) (l : List Int) (w : World) (hl : l.length ≤ 9223372036854775807)
    (hc : ∀ k, k < l.length → w.cell? ⟨b, off + k, none⟩ = some (.int .i64 (l.getD k 0))) :
    Calls Tryd.prog 29 #[.slice (some ⟨b, off, none⟩) l.length cap] w fun e w' => e = .returned (.int .u64 (ofN l : Nat)) ∧ w = w' := by
  generalize hn : l.length = len at *
  have HN := Lib.hid hn
  clear hn
  go_enter Tryd.func29, Tryd.ntmps29
  go_wp2_with fail
  go_loop [3, 4] (fun s i => ∃ k : Nat, k ≤ len ∧ i = .int .i64 k ∧ s = .int .u64 (ofN (l.take k) : Nat)) (fun _ i => len - (intOf i).toNat)
  case atStart => exact ⟨0, Nat.zero_le _, rfl, rfl⟩
  case round =>
    obtain ⟨k, hk, rfl, rfl⟩ := hrel
    by_cases hlt : k < len
    · have hcell := hc k hlt
      have c := rwith_any (ofN (l.take k)) (l.getD k 0) w (ofN_lt _)
      rw [← ofN_snoc l k (by have := HN.out; omega)] at c
      generalize l.getD k 0 = x at *
      have C := Lib.hid c
      clear c hc
      go_wp2_with fail
      refine (C.out).mono ?_
      rintro e w' ⟨rfl, rfl⟩
      go_wp2_with fail
      go_round
      case rel => exact ⟨k + 1, by omega, by go_num, rfl⟩
      case measure => simp [intOf]; omega
    · have e : k = len := by omega
      subst e
      clear hc
      go_wp2_with fail
      go_ret
      refine ⟨?_, rfl⟩
      rw [List.take_of_length_le (by have := HN.out; omega)]
      rfl

theorem rof_empty (a : Option Addr) (cap : Nat) (w : World) :
    Calls Tryd.prog 29 #[.slice a 0 cap] w fun e w' => e = .returned (.int .u64 (ofN [] : Nat)) ∧ w = w' := by
  go_enter Tryd.func29, Tryd.ntmps29
  go_wp2_with fail
  go_loop [3, 4] (fun s i => i = .int .i64 0 ∧ s = .int .u64 0) (fun _ _ => 0)
  case atStart => exact ⟨rfl, rfl⟩
  case round =>
    obtain ⟨rfl, rfl⟩ := hrel
    go_wp2_with fail
    go_ret
    exact ⟨rfl, rfl⟩

/-- ref01.Of. -/
theorem rof_any (a : Option Addr) (cap : Nat) (l : List Int) (w : World) (hl : l.length ≤ 9223372036854775807) (hc : IntsAt w a l) :
    Calls Tryd.prog 29 #[.slice a l.length cap] w fun e w' => e = .returned (.int .u64 (ofN l : Nat)) ∧ w = w' := by
  match l, hl, hc with
  | [], _, _ => exact rof_empty a cap w
  | x :: l, hl, hc =>
    obtain ⟨b, off, rfl⟩ := hc.some (by simp)
    exact rof_at b off cap (x :: l) w hl (fun k hk => hc.cell hk)
end Go.Proofs.YtkgfepnkikcpiaaDoor
