/- The walk of SetTells: what any set has, and is with one number more, or less, and all its numbers, are the document's. -/
import Derived.Test.YtkgfepnkikcpiaaDoorR3
namespace Go.Proofs.YtkgfepnkikcpiaaDoor
open Go.RowKit
open PSet

set_option maxHeartbeats 1000000 in
set_option maxRecDepth 100000 in
theorem tells_walk (s : Nat) (i : Int) (a : Option Addr) (cap : Nat) (l : List Int) (w : World) (hs : s < 2 ^ 64) (hT : Tab w) (hI : IntsAt w a l) (hl : l.length ≤ 9223372036854775807) :
    Calls Tryd.prog 3 #[.int .u64 s, .int .i64 i, .slice a l.length cap] w fun e w' => e = .returned (.bool true) ∧ Below w.heap.size w w' := by
  have A := Lib.hid (alive1 w hT)
  have HS := Lib.hid hs
  have HT := Lib.hid hT
  have HI := Lib.hid hI
  have HL := Lib.hid hl
  clear hT hs hI
  generalize hn : l.length = n at *
  have HN := Lib.hid hn
  clear hn
  by_cases hmost : 200 < n
  · go_enter Tryd.func3, Tryd.ntmps3
    go_wp2_with fail
    refine (A.out).mono ?_
    rintro e w1 ⟨rfl, hB⟩
    have HB := Lib.hid hB
    clear hB
    go_wp2_with fail
    go_ret
    exact ⟨rfl, HB.out⟩
  · have hm : ¬ ((200 : Int) < (n : Int)) := by omega
    go_enter Tryd.func3, Tryd.ntmps3
    go_wp2_with fail
    refine (A.out).mono ?_
    rintro e w1 ⟨rfl, hB⟩
    have HB := Lib.hid hB
    clear hB
    have HT1 := Lib.hid (Tab.below HT.out HT.out.pos HB.out)
    go_wp2_with fail
    refine (has_any s i _ HS.out).mono ?_
    rintro e w2 ⟨rfl, rfl⟩
    go_wp2_with fail
    refine (rhas_any s i _ HS.out).mono ?_
    rintro e w2 ⟨rfl, rfl⟩
    generalize hasB s i = b
    go_wp2_with fail
    refine (with_any s i _ HS.out).mono ?_
    rintro e w2 ⟨rfl, rfl⟩
    go_wp2_with fail
    refine (rwith_any s i _ HS.out).mono ?_
    rintro e w2 ⟨rfl, rfl⟩
    generalize withN s i = x1
    go_wp2_with fail
    refine (less_any s i _ HS.out).mono ?_
    rintro e w2 ⟨rfl, rfl⟩
    go_wp2_with fail
    refine (rless_any s i _ HS.out).mono ?_
    rintro e w2 ⟨rfl, rfl⟩
    generalize lessN s i = x2
    go_wp2_with fail
    refine (items_int s _ HS.out HT1.out).mono ?_
    rintro e w2 ⟨a2, cap2, rfl, hI2, hB2⟩
    have HI2 := Lib.hid hI2
    have HB2 := Lib.hid (HB.out.trans (hB2.mono HB.out.size))
    clear hI2 hB2
    go_wp2_with fail
    refine (ritems_any s _ HS.out).mono ?_
    rintro e w3 ⟨a3, cap3, rfl, hI3, hB3⟩
    have HI3 := Lib.hid hI3
    have HI4 := Lib.hid (HI2.out.below hB3)
    have HB3 := Lib.hid (HB2.out.trans (hB3.mono HB2.out.size))
    clear hI3 hB3
    go_wp2_with fail
    refine (same_any a2 a3 cap2 cap3 (itemsI s) _ (by have := itemsI_length_le s; omega) HI4.out HI3.out).mono ?_
    rintro e w4 ⟨rfl, hB4⟩
    have HB4 := Lib.hid (HB3.out.trans (hB4.mono HB3.out.size))
    have HT4 := Lib.hid (Tab.below HT.out HT.out.pos HB4.out)
    clear hB4
    go_wp2_with fail
    refine (first_any s _ HS.out HT4.out).mono ?_
    rintro e w5 ⟨rfl, rfl⟩
    go_wp2_with fail
    refine (rfirst_any s _ HS.out).mono ?_
    rintro e w5 ⟨rfl, hB5⟩
    have HB5 := Lib.hid (HB4.out.trans (hB5.mono HB4.out.size))
    clear hB5
    generalize firstN s = x3
    go_wp2_with fail
    refine (count_any s _ HS.out).mono ?_
    rintro e w6 ⟨rfl, rfl⟩
    go_wp2_with fail
    refine (ritems_any s _ HS.out).mono ?_
    rintro e w7 ⟨a7, cap7, rfl, _, hB7⟩
    have HB7 := Lib.hid (HB5.out.trans (hB7.mono HB5.out.size))
    have HI7 := Lib.hid (HI.out.below HB7.out)
    rw [itemsI_length]
    clear hB7
    generalize (itemsN s).length = x4
    go_wp2_with fail
    have c1 := of_any a cap l w7 (by have := HN.out; omega) HI7.out
    have c2 := rof_any a cap l w7 (by have := HN.out; omega) HI7.out
    rw [HN.out] at c1 c2
    refine c1.mono ?_
    rintro e w8 ⟨rfl, rfl⟩
    have C2 := Lib.hid c2
    clear c1 c2
    go_wp2_with fail
    refine (C2.out).mono ?_
    rintro e w8 ⟨rfl, rfl⟩
    go_wp2_with fail
    go_ret
    refine ⟨?_, HB7.out⟩
    first
      | rfl
      | simp
end Go.Proofs.YtkgfepnkikcpiaaDoor
