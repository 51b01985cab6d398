/- The walk of SetApart: with, or without, one number all others are in a set as before. -/
import Derived.Test.YtkgfepnkikcpiaaDoorS5
namespace Go.Proofs.YtkgfepnkikcpiaaDoor
open Go.RowKit
open PSet

set_option maxHeartbeats 1000000 in
set_option maxRecDepth 100000 in
theorem apart_walk (s : Nat) (i : Int) (w : World) (hs : s < 2 ^ 64) (hT : Tab w) :
    Calls Tryd.prog 5 #[.int .u64 s, .int .i64 i] w fun e w' => e = .returned (.bool true) ∧ Below w.heap.size w w' := by
  have A := Lib.hid (alive1 w hT)
  have HS := Lib.hid hs
  clear hT hs
  obtain ⟨c, hc⟩ : ∃ c : Bool, c = decide (0 ≤ i ∧ i < 64) := ⟨_, rfl⟩
  have hcases : (0 ≤ i ∧ i < 64 ∧ c = true) ∨ (i < 0 ∧ c = false) ∨ (0 ≤ i ∧ 64 ≤ i ∧ c = false) := by
    by_cases hin : 0 ≤ i ∧ i < 64
    · exact .inl ⟨hin.1, hin.2, by rw [hc, decide_eq_true hin]⟩
    · have hf : c = false := by rw [hc, decide_eq_false hin]
      by_cases h0 : i < 0
      · exact .inr (.inl ⟨h0, hf⟩)
      · exact .inr (.inr ⟨by omega, by omega, hf⟩)
  have HC := Lib.hid hc
  clear hc
  rcases hcases with ⟨hi0, hi1, rfl⟩ | ⟨hi0, rfl⟩ | ⟨hi0, hi1, rfl⟩
  all_goals
    go_enter Tryd.func5, Tryd.ntmps5
    go_wp2_with fail
    refine (A.out).mono ?_
    rintro e w1 ⟨rfl, hB⟩
    have HB := Lib.hid hB
    clear hB
    go_wp2_with fail
    go_loop [6] (fun k => ∃ n : Int, -1 ≤ n ∧ n ≤ 65 ∧ k = .int .i64 n) (fun k => (65 - intOf k).toNat)
    case atStart => exact ⟨-1, by omega, by omega, rfl⟩
    case round =>
      obtain ⟨n, h0, h1, rfl⟩ := hrel
      by_cases hlt : n < 65
      · by_cases hne : n = i
        · subst hne
          go_wp2_with fail
          go_round
          case rel => exact ⟨n + 1, by omega, by omega, rfl⟩
          case measure => simp [intOf]; omega
        · have g0 : ((n : Int) != i) = true := by rw [bne_iff_ne]; exact hne
          obtain ⟨b, hb⟩ : ∃ b, b = hasB s n := ⟨_, rfl⟩
          have f1 := has_any (withN s i) n w1 (withN_lt HS.out i)
          rw [has_with_other s HS.out i n hne, ← hb] at f1
          have f2 := has_any s n w1 HS.out
          rw [← hb] at f2
          have f3 := has_any (lessN s i) n w1 (lessN_lt HS.out i)
          rw [has_less_other s HS.out i n hne, ← hb] at f3
          have F1 := Lib.hid f1
          have F2 := Lib.hid f2
          have F3 := Lib.hid f3
          clear f1 f2 f3 hb hne
          go_wp2_with fail
          refine (with_any s i _ HS.out).mono ?_
          rintro e w2 ⟨rfl, rfl⟩
          go_wp2_with fail
          refine (F1.out).mono ?_
          rintro e w2 ⟨rfl, rfl⟩
          go_wp2_with fail
          refine (F2.out).mono ?_
          rintro e w2 ⟨rfl, rfl⟩
          go_wp2_with fail
          refine (less_any s i _ HS.out).mono ?_
          rintro e w2 ⟨rfl, rfl⟩
          go_wp2_with fail
          refine (F3.out).mono ?_
          rintro e w2 ⟨rfl, rfl⟩
          go_wp2_with fail
          refine (F2.out).mono ?_
          rintro e w2 ⟨rfl, rfl⟩
          go_wp2_with fail
          go_round
          case rel => exact ⟨n + 1, by omega, by omega, rfl⟩
          case measure => simp [intOf]; omega
      · have e : n = 65 := by omega
        subst e
        have f1 := has_any (withN s i) i w1 (withN_lt HS.out i)
        rw [has_with_same s HS.out i, ← HC.out] at f1
        have f3 := has_any (lessN s i) i w1 (lessN_lt HS.out i)
        rw [has_less_same s HS.out i] at f3
        have F1 := Lib.hid f1
        have F3 := Lib.hid f3
        clear f1 f3
        go_wp2_with fail
        refine (with_any s i _ HS.out).mono ?_
        rintro e w2 ⟨rfl, rfl⟩
        go_wp2_with fail
        refine (F1.out).mono ?_
        rintro e w2 ⟨rfl, rfl⟩
        go_wp2_with fail
        refine (less_any s i _ HS.out).mono ?_
        rintro e w2 ⟨rfl, rfl⟩
        go_wp2_with fail
        refine (F3.out).mono ?_
        rintro e w2 ⟨rfl, rfl⟩
        go_wp2_with fail
        go_ret
        refine ⟨?_, HB.out⟩
        first
          | rfl
          | (have hg : ¬ i < 64 := by omega
             simp [hg])
end Go.Proofs.YtkgfepnkikcpiaaDoor
