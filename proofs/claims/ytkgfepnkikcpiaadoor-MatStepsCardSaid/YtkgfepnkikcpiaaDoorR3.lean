/- The walks of the document's Items, First and Same. -/
import Derived.Test.YtkgfepnkikcpiaaDoorR2
import Derived.Deep.QuietTactic
import Derived.BigQuiet
namespace Go.Proofs.YtkgfepnkikcpiaaDoor
open Go.RowKit
open PSet

/-- The numbers of a set below k. -/
def lowN (s k : Nat) : List Nat := (List.range k).filter fun i => s.testBit i
theorem lowN_64 (s : Nat) : lowN s 64 = itemsN s := rfl
theorem lowN_yes (s k : Nat) (h : s.testBit k = true) : lowN s (k + 1) = lowN s k ++ [k] := by
  unfold lowN
  rw [List.range_succ, List.filter_append]
  simp [h]
theorem lowN_no (s k : Nat) (h : s.testBit k = false) : lowN s (k + 1) = lowN s k := by
  unfold lowN
  rw [List.range_succ, List.filter_append]
  simp [h]
theorem lowN_length (s k : Nat) : (lowN s k).length ≤ k := by
  unfold lowN
  exact Nat.le_trans (List.length_filter_le _ _) (by simp)

set_option maxRecDepth 100000 in
/-- ref01.Items. -/
theorem ritems_any (s : Nat) (w : World) (hs : s < 2 ^ 64) :
    Calls Tryd.prog 24 #[.int .u64 s] w fun e w' => ∃ a cap, e = .returned (.slice a (itemsI s).length cap) ∧ IntsAt w' a (itemsI s) ∧ Below w.heap.size w w' := by
  have C := Lib.hid (rbits_any s w hs)
  clear hs
  obtain ⟨i0, hi, hz0, hz1, hz2⟩ := info_parts info3
  go_enter Tryd.func24, Tryd.ntmps24
  go_wp2_with fail
  refine (C.out).mono ?_
  rintro e w1 ⟨rfl, hB⟩
  have HB := Lib.hid hB
  clear hB
  go_wp2_with (refine wpList_store_row rfl 65 _ _ rfl w1.heap.size _ rfl rfl 65 _ (heap_alloc_new _ _) (by rw [size_boolsV, bitsL_length]; exact size65) (by rw [size_boolsV, bitsL_length]; rfl) (one_boolsV _) ?_)
  go_loopw [3, 5] (fun v i wr => ∃ k : Nat, k ≤ 64 ∧ i = .int .i64 k ∧ Bools wr w1.heap.size 65 (bitsL s) ∧ wr.ownsRow (w1.heap.size + 1) 3 1 v (lowN s k).length ((lowN s k).map intV) ∧ w1.heap.size + 1 ≤ wr.heap.size ∧ Below w.heap.size w wr) (fun _ i _ => 64 - (intOf i).toNat)
  case atStart =>
    refine ⟨0, Nat.zero_le _, rfl, block_setRow_same (heap_alloc_new _ _), World.ownsRow_nil _ _ _ _, by simp, ?_⟩
    exact below_setRow' (HB.out.alloc HB.out.size _) HB.out.size _
  case round =>
    obtain ⟨k, hk, rfl, hg, hown, hsz, hW⟩ := hrel
    by_cases hlt : k < 64
    · have hc := hg.cell (k := k) (by rw [bitsL_length]; exact hlt)
      rw [bitsL_get s k hlt] at hc
      have hn := lowN_length s k
      cases hb : s.testBit k
      · rw [hb] at hc
        have hno := lowN_no s k hb
        have H1 := Lib.hid hg
        have H2 := Lib.hid hown
        have H3 := Lib.hid hW
        have H4 := Lib.hid hno
        clear hg hown hW hno hb hn
        go_wp2_with fail
        refine ⟨⟨k + 1, by omega, by go_num, H1.out, by rw [H4.out]; exact H2.out, hsz, H3.out⟩, by simp [intOf]; omega⟩
      · rw [hb] at hc
        have hyes := lowN_yes s k hb
        have H1 := Lib.hid hg
        have H3 := Lib.hid hW
        have H4 := Lib.hid hyes
        have H5 := Lib.hid hn
        have H6 := Lib.hid hsz
        clear hg hW hyes hb hn hsz
        go_wp2_with (at_builtin; refine wpList_append_own _ rfl _ _ 23 rfl (w1.heap.size + 1) 3 i0 (.int .i64 0) 1 8 Tryd.underlying23 hi hz0 hz1 hz2 rfl (by decide) _ _ _ rfl (hown.alloc _) ⟨wr.heap.size, 0, none⟩ 1 1 [.int .i64 (k : Int)] rfl rfl ?c1 ?c2 ?c3 ?c4 ?c5 ?_)
        case c1 => exact cell_one_new _ _ _
        case c2 => simp [Value.oneCell']
        case c3 => have := H5.out; unfold maxLen; simp; omega
        case c4 => have := H5.out; simp; omega
        case c5 => have := H6.out; simp; omega
        intro v' w2 hown1 hgrow _
        have hlt1 := fun j hj => (hown.lt j hj).1
        have hbw : Below w.heap.size w w2 := (H3.out.alloc H3.out.size _).grown hgrow (by have := H3.out.size; simp; omega) (fun j hj => by have := hlt1 j hj; have := HB.out.size; omega)
        have hbg : Bools w2 w1.heap.size 65 (bitsL s) := H1.out.of_block (by
          rw [hgrow.block _ (by have := H1.out.lt; simp; omega) (fun e => by have := hlt1 _ e.symm; omega)]
          exact Below.heap_alloc _ _ _ H1.out.lt)
        have hsz1 : wr.heap.size ≤ (wr.alloc (.cells #[.int .i64 (k : Int)] 3)).heap.size := by simp
        have hsz2 : w1.heap.size + 1 ≤ w2.heap.size := Nat.le_trans H6.out (Nat.le_trans hsz1 hgrow.size)
        clear hsz1
        have K1 := Lib.hid hbw
        have K2 := Lib.hid hbg
        have K3 := Lib.hid hown1
        clear hgrow hown hbw hbg hown1 hlt1
        go_wp2_with fail
        refine ⟨⟨k + 1, by omega, by go_num, K2.out, ?_, hsz2, K1.out⟩, by simp [intOf]; omega⟩
        have h := K3.out
        rw [H4.out]
        simpa [intV] using h
    · have e : k = 64 := by omega
      subst e
      rw [lowN_64] at hown
      have H2 := Lib.hid hown
      have H3 := Lib.hid hW
      clear hg hown hW
      go_wp2_with fail
      go_ret
      obtain ⟨a, cap, hv, h⟩ := ints_of_owns H2.out
      refine ⟨a, cap, ?_, h, H3.out⟩
      rw [itemsI_length, ← hv]
      rfl

theorem firstI_cons {s : Nat} {x : Int} {l : List Int} (h : itemsI s = x :: l) : firstN s = x := by
  unfold itemsI at h
  unfold firstN
  cases e : itemsN s with
  | nil => rw [e] at h; cases h
  | cons a t => rw [e] at h; simp at h; exact h.1
theorem firstI_nil {s : Nat} (h : itemsI s = []) : firstN s = -1 := by
  unfold itemsI at h
  unfold firstN
  rw [List.map_eq_nil_iff.1 h]

/-- ref01.First. -/
theorem rfirst_any (s : Nat) (w : World) (hs : s < 2 ^ 64) :
    Calls Tryd.prog 26 #[.int .u64 s] w fun e w' => e = .returned (.int .i64 (firstN s)) ∧ Below w.heap.size w w' := by
  have c := ritems_any s w hs
  cases hl : itemsI s with
  | nil =>
    rw [hl] at c
    have H := Lib.hid (firstI_nil hl)
    have C := Lib.hid c
    clear c hl hs
    go_enter Tryd.func26, Tryd.ntmps26
    go_wp2_with fail
    refine (C.out).mono ?_
    rintro e w1 ⟨a, cap, rfl, hI, hB⟩
    have HB := Lib.hid hB
    clear hI hB
    go_wp2_with fail
    go_ret
    exact ⟨by rw [H.out]; rfl, HB.out⟩
  | cons x l =>
    rw [hl] at c
    have H := Lib.hid (firstI_cons hl)
    have hlen : 0 < (x :: l).length := by simp
    have hlen1 : (((x :: l).length : Nat) == 0) = false := by simp
    have C := Lib.hid c
    generalize hn : (x :: l).length = n at *
    have HN := Lib.hid hn
    have hlen2 : ((n : Int) == 0) = false := by simp; omega
    clear c hl hs hn
    go_enter Tryd.func26, Tryd.ntmps26
    go_wp2_with fail
    refine (C.out).mono ?_
    rintro e w1 ⟨a, cap, rfl, hI, hB⟩
    obtain ⟨b, off, rfl⟩ := hI.some (by simp)
    have hc : w1.cell? ⟨b, off, none⟩ = some (.int .i64 x) := by
      have h := hI.cell (k := 0) (by simp)
      simpa using h
    have HB := Lib.hid hB
    clear hI hB
    go_wp2_with fail
    go_ret
    exact ⟨by rw [H.out]; rfl, HB.out⟩

/-- ref01.Same, of rows that are the same. -/
theorem same_any (a b : Option Addr) (ca cb : Nat) (l : List Int) (w : World) (hl : l.length ≤ 9223372036854775807) (ha : IntsAt w a l) (hb : IntsAt w b l) :
    Calls Tryd.prog 22 #[.slice a l.length ca, .slice b l.length cb] w fun e w' => e = .returned (.bool true) ∧ Below w.heap.size w w' := by
  generalize hn : l.length = n at *
  have HN := Lib.hid hn
  have HA := Lib.hid ha
  have HB := Lib.hid hb
  clear hn ha hb
  go_enter Tryd.func22, Tryd.ntmps22
  go_wp2_with fail
  go_loopw [5] (fun i wr => ∃ k : Nat, k ≤ n ∧ i = .int .i64 k ∧ ∃ d, wr = w.drewN d) (fun i _ => n - (intOf i).toNat)
  case atStart => exact ⟨0, Nat.zero_le _, rfl, 0, rfl⟩
  case round =>
    obtain ⟨k, hk, rfl, d, rfl⟩ := hrel
    by_cases hlt : k < n
    · obtain ⟨b1, o1, rfl⟩ := HA.out.some (by have := HN.out; omega)
      obtain ⟨b2, o2, rfl⟩ := HB.out.some (by have := HN.out; omega)
      have c1 : w.cell? ⟨b1, o1 + k, none⟩ = some (.int .i64 (l.getD k 0)) := HA.out.cell (by have := HN.out; omega)
      have c2 : w.cell? ⟨b2, o2 + k, none⟩ = some (.int .i64 (l.getD k 0)) := HB.out.cell (by have := HN.out; omega)
      generalize l.getD k 0 = x at *
      have i1 : (0 : Int) ≤ (k : Int) ∧ (k : Int) < (n : Int) := by omega
      go_wp2_with fail
      go_quiet (fail)
      go_wp2_with fail
      exact ⟨⟨k + 1, by omega, by go_num, d + nq, rfl⟩, by simp [intOf]; omega⟩
    · have e : k = n := by omega
      subst e
      go_wp2_with fail
      go_ret
      exact ⟨rfl, below_drewN (Below.refl _ _) d⟩
end Go.Proofs.YtkgfepnkikcpiaaDoor
