/- The walk of SetSums: sets of two rows have what either has; a set without all of its numbers is empty. -/
import Derived.Test.YtkgfepnkikcpiaaDoorS6
namespace Go.Proofs.YtkgfepnkikcpiaaDoor
open Go.RowKit
open PSet

/-- A set without the numbers of a row. -/
def lessL (s : Nat) (l : List Int) : Nat := l.foldl lessN s
theorem lessL_lt (l : List Int) : ∀ s, s < 2 ^ 64 → lessL s l < 2 ^ 64 := by
  induction l with
  | nil => intro s h; exact h
  | cons x l ih => intro s h; exact ih _ (lessN_lt h x)
theorem lessL_snoc (s : Nat) (l : List Int) (k : Nat) (hk : k < l.length) : lessL s (l.take (k + 1)) = lessN (lessL s (l.take k)) (l.getD k 0) := by
  unfold lessL
  rw [List.take_add_one, List.foldl_append]
  simp [List.getD, List.getElem?_eq_getElem hk]
theorem testBit_lessL (j : Nat) (l : List Int) : ∀ s, (lessL s l).testBit j = true → s.testBit j = true ∧ ((j : Int) ∉ l) := by
  induction l with
  | nil => intro s h; exact ⟨h, by simp⟩
  | cons x l ih =>
    intro s h
    obtain ⟨h1, h2⟩ := ih _ h
    rw [testBit_lessN] at h1
    simp only [Bool.and_eq_true, decide_eq_true_eq, Bool.not_eq_true'] at h1
    have hne : x ≠ (j : Int) := by simpa using h1.2
    exact ⟨h1.1.1, by simp only [List.mem_cons, not_or]; exact ⟨fun e => hne e.symm, h2⟩⟩
theorem lessL_items (s : Nat) (hs : s < 2 ^ 64) : lessL s (itemsI s) = 0 := by
  apply eq_of_low (lessL_lt _ _ hs) (by decide)
  intro j hj
  rw [Nat.zero_testBit]
  cases h : (lessL s (itemsI s)).testBit j
  · rfl
  · obtain ⟨h1, h2⟩ := testBit_lessL j _ _ h
    exact absurd (mem_itemsI.2 ⟨j, rfl, hj, h1⟩) h2

set_option maxHeartbeats 1000000 in
set_option maxRecDepth 100000 in
theorem sums_walk (a b : Option Addr) (ca cb : Nat) (l m : List Int) (w : World) (hT : Tab w) (hI : IntsAt w a l) (hJ : IntsAt w b m) (ha : a = none → ca = 0) (hb : b = none → cb = 0) (_hl : l.length ≤ 9223372036854775807) (_hm : m.length ≤ 9223372036854775807) :
    Calls Tryd.prog 7 #[.slice a l.length ca, .slice b m.length cb] w fun e w' => e = .returned (.bool true) ∧ Below w.heap.size w w' := by
  have A := Lib.hid (alive1 w hT)
  have HT := Lib.hid hT
  have HI := Lib.hid hI
  have HJ := Lib.hid hJ
  have HA := Lib.hid ha
  have HB := Lib.hid hb
  clear hT hI hJ ha hb
  generalize hn : l.length = n at *
  generalize hk : m.length = k at *
  have HN := Lib.hid hn
  have HK := Lib.hid hk
  clear hn hk
  by_cases h1 : 200 < n
  · go_enter Tryd.func7, Tryd.ntmps7
    go_wp2_with fail
    refine (A.out).mono ?_
    rintro e w1 ⟨rfl, hB⟩
    have H1 := Lib.hid hB
    clear hB
    have g1 : decide ((200 : Int) < (n : Int)) = true := by simp; omega
    go_wp2_with fail
    go_ret
    exact ⟨rfl, H1.out⟩
  · have g1 : decide ((200 : Int) < (n : Int)) = false := by simp; omega
    by_cases h2 : 200 < k
    · go_enter Tryd.func7, Tryd.ntmps7
      go_wp2_with fail
      refine (A.out).mono ?_
      rintro e w1 ⟨rfl, hB⟩
      have H1 := Lib.hid hB
      clear hB
      have g2 : decide ((200 : Int) < (k : Int)) = true := by simp; omega
      go_wp2_with fail
      go_ret
      exact ⟨rfl, H1.out⟩
    · have g2 : decide ((200 : Int) < (k : Int)) = false := by simp; omega
      go_enter Tryd.func7, Tryd.ntmps7
      go_wp2_with fail
      refine (A.out).mono ?_
      rintro e w1 ⟨rfl, hB⟩
      have H1 := Lib.hid hB
      clear hB
      have I1 := Lib.hid (HI.out.below H1.out)
      have J1 := Lib.hid (HJ.out.below H1.out)
      go_wp2_with fail
      have c1 := of_any a ca l w1 (by have := HN.out; omega) I1.out
      have c2 := of_any b cb m w1 (by have := HK.out; omega) J1.out
      rw [HN.out] at c1
      rw [HK.out] at c2
      have C2 := Lib.hid c2
      refine c1.mono ?_
      rintro e w2 ⟨rfl, rfl⟩
      clear c1 c2
      go_wp2_with fail
      refine (C2.out).mono ?_
      rintro e w2 ⟨rfl, rfl⟩
      go_wp2_with (at_builtin; refine wpList_append_row rfl _ _ rfl w1.heap.size (.slice none 0 0) 0 [] rfl (World.ownsRow_nil _ _ _ _) a ca l (by rw [HN.out]; rfl) I1.out HA.out (by have := HN.out; omega) (Nat.le_refl _) ?_)
      intro v2 w2 hown2 hgrow2
      have B2 := Lib.hid (H1.out.grown hgrow2 H1.out.size (fun j hj => by cases hj))
      have J2 := Lib.hid (HJ.out.below B2.out)
      have S2 := Lib.hid hgrow2.size
      have O2 := Lib.hid hown2
      clear hown2 hgrow2
      go_wp2_with (at_builtin; refine wpList_append_row rfl _ _ rfl w1.heap.size v2 _ _ rfl O2.out b cb m (by rw [HK.out]; rfl) J2.out HB.out (by have := HN.out; have := HK.out; simp; omega) S2.out ?_)
      intro v3 w3 hown3 hgrow3
      have B3 := Lib.hid (B2.out.grown hgrow3 B2.out.size (fun j hj => by have := (O2.out.lt j hj).1; have := H1.out.size; omega))
      have T3 := Lib.hid (Tab.below HT.out HT.out.pos B3.out)
      rw [← List.length_append, ← List.map_append] at hown3
      obtain ⟨a3, c3, rfl, hI3, _, _⟩ := ints_of_owns_cap hown3
      have I3 := Lib.hid hI3
      have cz0 := of_any a3 c3 (l ++ m) w3 (by have := HN.out; have := HK.out; simp; omega) I3.out
      rw [List.length_append] at cz0
      have cz := Lib.hid cz0
      clear cz0
      clear hown3 hgrow3 hI3
      go_wp2_with fail
      refine (cz.out).mono ?_
      rintro e w4 ⟨rfl, rfl⟩
      have hx := ofN_lt l
      have hy := ofN_lt m
      have hz := ofN_lt (l ++ m)
      have hap := has_of_append l m
      generalize ofN l = x at *
      generalize ofN m = y at *
      generalize ofN (l ++ m) = z at *
      have HX := Lib.hid hx
      have HY := Lib.hid hy
      have HZ := Lib.hid hz
      have HP := Lib.hid hap
      clear hx hy hz hap cz C2
      go_wp2_with fail
      go_loop [30, 8] (fun i _ => ∃ t : Nat, t ≤ 64 ∧ i = .int .i64 t) (fun i _ => 64 - (intOf i).toNat)
      case atStart => exact ⟨0, Nat.zero_le _, rfl⟩
      case round =>
        obtain ⟨t, ht, rfl⟩ := hrel
        by_cases hlt : t < 64
        · have f1 := Lib.hid (has_any z (t : Int) w3 HZ.out)
          have f2 := Lib.hid (has_any x (t : Int) w3 HX.out)
          have f3 := Lib.hid (has_any y (t : Int) w3 HY.out)
          rw [HP.out] at f1
          generalize hasB x (t : Int) = bx at *
          generalize hasB y (t : Int) = bz at *
          go_wp2_with fail
          refine (f1.out).mono ?_
          rintro e w5 ⟨rfl, rfl⟩
          go_wp2_with fail
          refine (f2.out).mono ?_
          rintro e w5 ⟨rfl, rfl⟩
          cases bx
          · go_wp2_with fail
            refine (f3.out).mono ?_
            rintro e w5 ⟨rfl, rfl⟩
            go_wp2_with fail
            go_round
            case rel => exact ⟨t + 1, by omega, by go_num⟩
            case measure => simp [intOf]; omega
          · go_wp2_with fail
            go_round
            case rel => exact ⟨t + 1, by omega, by go_num⟩
            case measure => simp [intOf]; omega
        · have e : t = 64 := by omega
          subst e
          go_wp2_with fail
          refine (items_int z w3 HZ.out T3.out).mono ?_
          rintro e w5 ⟨a5, c5, rfl, hI5, hB5⟩
          have I5 := Lib.hid hI5
          have B5 := Lib.hid (B3.out.trans (hB5.mono B3.out.size))
          have hn5 := itemsI_length_le z
          clear hI5 hB5
          have HL := Lib.hid (lessL_items z HZ.out)
          generalize hq : itemsI z = q at *
          generalize hr : q.length = r at *
          have HR := Lib.hid hr
          clear hq hr
          go_wp2_with fail
          go_loop [7, 49, 10] (fun zz i _ => ∃ t : Nat, t ≤ r ∧ i = .int .i64 t ∧ zz = .int .u64 (lessL z (q.take t) : Nat)) (fun _ i _ => r - (intOf i).toNat)
          case atStart => exact ⟨0, Nat.zero_le _, rfl, rfl⟩
          case round =>
            obtain ⟨t, ht, rfl, rfl⟩ := hrel
            by_cases hlt : t < r
            · obtain ⟨b5, o5, rfl⟩ := I5.out.some (by have := HR.out; omega)
              have hc : w5.cell? ⟨b5, o5 + t, none⟩ = some (.int .i64 (q.getD t 0)) := I5.out.cell (by have := HR.out; omega)
              have hs := lessL_snoc z q t (by have := HR.out; omega)
              generalize q.getD t 0 = y5 at *
              have f1 := Lib.hid (less_any (lessL z (q.take t)) y5 w5 (lessL_lt _ _ HZ.out))
              rw [← hs] at f1
              clear hs
              go_wp2_with fail
              refine (f1.out).mono ?_
              rintro e w6 ⟨rfl, rfl⟩
              go_wp2_with fail
              go_round
              case rel => exact ⟨t + 1, by omega, by go_num, rfl⟩
              case measure => simp [intOf]; omega
            · have e : t = r := by omega
              subst e
              have hz0 : lessL z (q.take t) = 0 := by rw [List.take_of_length_le (by have := HR.out; omega)]; exact HL.out
              rw [hz0]
              clear hz0
              go_wp2_with fail
              go_ret
              exact ⟨rfl, B5.out⟩
end Go.Proofs.YtkgfepnkikcpiaaDoor
