/- The walk of graph's Rest, where no transaction is live. The walk of graph's Log, of one entry. The walk of a world's Entries, of one entry. The walks of a world's Values and History. The walk of a world's Jobs, of one seat. No conditions but those that each theorem names. -/
import Derived.Test.YteflpdhgojcmcaaGreatDoorU01
import Derived.Test.YteflpdhgojcmcaaGreatDoorU41
import Derived.Test.YteflpdhgojcmcaaGreatDoorU24
import Derived.Test.YteflpdhgojcmcaaGreatDoorU35
import Derived.Laws.AppendOwnNone
namespace Go.Proofs.YteflpdhgojcmcaaGreatDoor
open Go.RowKit PSet PMat
theorem has_zero (i : Int) : hasB 0 i = false := by
  simp [hasB]
set_option maxRecDepth 100000 in
theorem gsRest (B : Nat) (w : World) (g : Nat) (e : EngM) (h : GrS B w g e) (hl : e.live = none) :
    Calls Tryz.prog 34 #[.pointer (some ⟨g, 0, none⟩)] w fun en w' => en = .returned (.slice none 0 0) ∧ Below w.heap.size w w' := by
  obtain ⟨L, v, K, lg, ct, s, lgs, z, h⟩ := h
  have hE := h.eng
  have h65 := h.live
  rw [hl] at h65
  have h66 := h.done
  have C1 := Lib.hid (grGood g z w (hE.pool h.size) (by have := h.zz; omega))
  have hord := h.ord
  have hrange : w.rangeAt g 33 (ordL 32) := fun j x hj => by
    rw [← hord, List.getElem?_take] at hj
    split at hj
    · rw [List.getElem?_drop] at hj
      exact hE.pool hj
    · cases hj
  have HR := Lib.hid hrange
  have C2 := Lib.hid (topoRow w)
  have c65 := hE.pool h65
  have c66 := hE.pool h66
  simp only [Option.isSome_none, Bool.false_eq_true, ↓reduceIte] at c65
  have hgl : g < w.heap.size := hE.lt
  have HI := Lib.hid (show (Tryz.prog.info? 142).map (·.size) = some (ordL 32).length from by rw [ordL_length]; exact size142)
  have H65 := Lib.hid (And.intro c65 c66)
  clear h hE h65 h66 hord hrange c65 c66 hl
  obtain ⟨OL, hOL⟩ : ∃ OL, OL = ordL 32 := ⟨_, rfl⟩
  rw [← hOL] at HR C2 HI
  have HOL := Lib.hid hOL
  clear hOL
  go_enter Tryz.func34, Tryz.ntmps34
  go_wp2_with fail
  refine (C1.out).mono ?_
  rintro en y ⟨rfl, rfl⟩
  go_wp2_with (refine wpList_load_mid rfl 142 _ rfl g 33 rfl OL _ HR.out Tryz.underlying142 rfl HI.out ?_)
  refine (C2.out).mono ?_
  rintro en y ⟨b, rfl, hrow, hby⟩
  rw [HOL.out] at hrow
  have hc : ∀ k, k < 32 → ∀ U, Below y.heap.size y U → U.cell? ⟨b, k, none⟩ = some (.int .i64 (k : Int)) := fun k hk U hU => by
    rw [hU.cell (p := ⟨b, k, none⟩) (block_lt hrow), cell_of_row _ _ _ _ _ _ hrow, List.getElem?_toArray, ordL_get 32 k hk, if_pos hk]
  have HC := Lib.hid hc
  have hs : ∀ U, Below y.heap.size y U → U.cell? ⟨g, 65, none⟩ = some (.int .u64 0) ∧ U.cell? ⟨g, 66, none⟩ = some (.int .u64 0) := fun U hU => ⟨((hby.trans (hU.mono hby.size)).cell (p := ⟨g, 65, none⟩) hgl).trans H65.out.1, ((hby.trans (hU.mono hby.size)).cell (p := ⟨g, 66, none⟩) hgl).trans H65.out.2⟩
  have HS := Lib.hid hs
  have HBY := Lib.hid hby
  clear hc hs hrow hby C1 C2
  go_upto_region 4 with fail
  go_loopw [15, 4, 2] (fun i _ o U => ∃ k : Nat, k ≤ 32 ∧ i = .int .i64 k ∧ o = .slice none 0 0 ∧ Hid (Below y.heap.size y U)) (fun i _ _ _ => 32 - (intOf i).toNat)
  case atStart => exact ⟨0, by omega, rfl, rfl, Lib.hid (Below.refl _ _)⟩
  case round =>
    obtain ⟨k, hk, rfl, rfl, hb⟩ := hrel
    by_cases hlt : k < 32
    · have h0 : (0 : Int) ≤ (k : Int) := by omega
      have h2 : (k : Int) < 32 := by omega
      have h3 : (k : Int) < ((32 : Nat) : Int) := by omega
      have c0 := HC.out k hlt wr hb.out
      have C := Lib.hid (has_any 0 (k : Int) wr.drew (by decide))
      rw [has_zero] at C
      go_upto_region 6 with fail
      have hS0 : (fun w' : World => w'.cell? ⟨g, 65, none⟩ = some (.int .u64 0) ∧ w'.cell? ⟨g, 66, none⟩ = some (.int .u64 0)) wr.drew := HS.out wr hb.out
      refine hregion (fun w' : World => w'.cell? ⟨g, 65, none⟩ = some (.int .u64 0) ∧ w'.cell? ⟨g, 66, none⟩ = some (.int .u64 0)) hS0 (fun hHeld => ?_)
      clear hS0
      refine hd 0 (v := ?_) ?_ ?_; rotate_left; · rintro w ⟨hS1, hS2⟩; go_simp; try with_reducible rfl
      simp only [Act.put, pt1, pt2, pt3]
      refine hd 1 (v := ?_) ?_ ?_; rotate_left; · rintro w ⟨hS1, hS2⟩; go_simp; try with_reducible rfl
      simp only [Act.put, pt1, pt2, pt3]
      refine hd 2 (v := ?_) ?_ ?_; rotate_left; · rintro w ⟨hS1, hS2⟩; go_simp; try with_reducible rfl
      simp only [Act.put, pt1, pt2, pt3]
      refine hd 3 (v := ?_) ?_ ?_; rotate_left; · rintro w ⟨hS1, hS2⟩; go_simp; try with_reducible rfl
      simp only [Act.put, pt1, pt2, pt3]
      refine hd 4 (v := ?_) ?_ ?_; rotate_left; · rintro w ⟨hS1, hS2⟩; go_simp; try with_reducible rfl
      simp only [Act.put, pt1, pt2, pt3]
      refine hd 5 (v := ?_) ?_ ?_; rotate_left; · rintro w ⟨hS1, hS2⟩; go_simp; try with_reducible rfl
      simp only [Act.put, pt1, pt2, pt3]
      refine hd 6 (v := ?_) ?_ ?_; rotate_left; · rintro w ⟨hS1, hS2⟩; go_simp; try with_reducible rfl
      simp only [Act.put, pt1, pt2, pt3]
      refine hd 7 (v := ?_) ?_ ?_; rotate_left; · rintro w ⟨hS1, hS2⟩; go_simp; try with_reducible rfl
      simp only [Act.put, pt1, pt2, pt3]
      refine hd 8 (v := ?_) ?_ ?_; rotate_left; · rintro w ⟨hS1, hS2⟩; go_simp; try with_reducible rfl
      simp only [Act.put, pt1, pt2, pt3]
      refine hd 9 (v := ?_) ?_ ?_; rotate_left; · rintro w ⟨hS1, hS2⟩; go_simp; try with_reducible rfl
      simp only [Act.put, pt1, pt2, pt3]
      refine hd 10 (v := ?_) ?_ ?_; rotate_left; · rintro w ⟨hS1, hS2⟩; go_simp; try with_reducible rfl
      simp only [Act.put, pt1, pt2, pt3]
      refine hd 11 (v := ?_) ?_ ?_; rotate_left; · rintro w ⟨hS1, hS2⟩; go_simp; try with_reducible rfl
      simp only [Act.put, pt1, pt2, pt3]
      refine hcl 12 (fun K' hK => ?_)
      go_simp
      go_at_call 65
      refine (C.out).mono ?_
      rintro en y2 ⟨rfl, rfl⟩
      go_wp2_with fail
      refine hK.out _ _ ?_ (fun hHeld => ?_)
      · exact hHeld
      clear hK K'
      try simp only [Act.put, pt1, pt2, pt3]
      refine hend ?_
      clear hHeld
      go_wp2_with fail
      go_roundw
      case rel => exact ⟨k + 1, by omega, by go_num, rfl, Lib.hid (hb.out.drew)⟩
      case measure => simp [intOf]; omega
    · have e : k = 32 := by omega
      subst e
      go_wp2_with fail
      go_ret
      exact ⟨rfl, HBY.out.trans (hb.out.mono HBY.out.size)⟩
end Go.Proofs.YteflpdhgojcmcaaGreatDoor
namespace Go.Proofs.YteflpdhgojcmcaaGreatDoor
open Go.RowKit PSet PMat
theorem owns_set {w : World} {B e k n g cap : Nat} {xs : List Value} (h : w.ownsRow B e k (.slice (some ⟨g, 0, none⟩) n cap) n xs) (j : Nat) (v : Value) :
    (w.setCell ⟨g, j, none⟩ v).ownsRow B e k (.slice (some ⟨g, 0, none⟩) n cap) n (xs.set j v) := by
  obtain ⟨h1, h2⟩ := h
  refine ⟨by simpa using h1, ?_⟩
  rcases h2 with ⟨e0, _⟩ | ⟨g', cap', cur, e1, hb, hg, hc, hm, hs, ht⟩
  · cases e0
  · cases e1
    refine .inr ⟨g, cap, cur.setIfInBounds j v, rfl, hb, heap_setCell_same w g j _ _ v hg, hc, hm, by simpa using hs, ?_⟩
    rw [Array.toList_setIfInBounds, List.take_set, ht]
theorem owns_block {w : World} {B e k n : Nat} {v : Value} {xs : List Value} (h : w.ownsRow B e k v n xs) (hn : 0 < n) : ∃ g c, v = .slice (some ⟨g, 0, none⟩) n c ∧ B ≤ g ∧ g < w.heap.size ∧ w.rangeAt g 0 xs ∧ (∀ j, w.frozen? ⟨g, j, none⟩ = false) := by
  obtain ⟨h1, h2⟩ := h
  rcases h2 with ⟨-, e0⟩ | ⟨g, cap, cur, rfl, hb, hg, hc, hm, hs, ht⟩
  · omega
  · refine ⟨g, cap, rfl, hb, block_lt hg, ?_, fun j => frozen_of_row _ _ j _ _ hg⟩
    intro j v hj
    rw [Nat.zero_add]
    rw [← ht, List.getElem?_take] at hj
    split at hj
    · rw [cell_of_row _ _ j _ _ _ hg]
      simpa using hj
    · cases hj
theorem owns_at {w : World} {B e k n g c : Nat} {xs : List Value} (h : w.ownsRow B e k (.slice (some ⟨g, 0, none⟩) n c) n xs) (hn : 0 < n) : B ≤ g ∧ g < w.heap.size ∧ w.rangeAt g 0 xs ∧ (∀ j, w.frozen? ⟨g, j, none⟩ = false) := by
  obtain ⟨g', c', e5, h1⟩ := owns_block h hn
  cases e5
  exact h1
theorem owns_two {w : World} {B B2 e e2 k k2 n n2 g cap : Nat} {v : Value} {xs ys : List Value} (h : w.ownsRow B e k v n xs) (h2 : w.ownsRow B2 e2 k2 (.slice (some ⟨g, 0, none⟩) n2 cap) n2 ys) (he : e ≠ e2) : v.ownBlock ≠ some g := by
  obtain ⟨-, h3⟩ := h2
  rcases h3 with ⟨e0, _⟩ | ⟨g', cap', cur, e1, hb, hg, _⟩
  · cases e0
  · cases e1
    exact owns_type h hg he
theorem optN_le (t : Option StepM) : optN t ≤ 100000 := by cases t <;> simp [optN]
theorem optC_one (t : Option StepM) : AllOne (optC t) := by
  cases t with
  | none => intro v hv; cases hv
  | some s =>
    intro v hv
    simp [optC, StepM.cells] at hv
    rcases hv with rfl | rfl | rfl | rfl <;> rfl
set_option maxRecDepth 100000 in
theorem gsLog (B : Nat) (w : World) (g : Nat) (e : EngM) (e0 : EntM) (h : GrS B w g e) (hlog : e.log = [e0]) :
    Calls Tryz.prog 33 #[.pointer (some ⟨g, 0, none⟩)] w fun en w' => ∃ v rv wv, en = .returned v ∧ w'.ownsRow w.heap.size 42 5 v 1 [.int .i64 e0.id, .bool e0.com, .bool true, rv, wv] ∧ w'.ownsRow w.heap.size 155 4 rv (optN e0.rd) (optC e0.rd) ∧ w'.ownsRow w.heap.size 155 4 wv (optN e0.wr) (optC e0.wr) ∧ Below w.heap.size w w' := by
  obtain ⟨L, v, K, lg, ct, s, lgs, z, h⟩ := h
  have hE := h.eng
  have C1 := Lib.hid (grGood g z w (hE.pool h.size) (by have := h.zz; omega))
  have hl := h.logs
  have hown := h.log
  rw [hlog] at hl hown
  obtain ⟨rv, wv, rest, rfl, hrv, hwv, hrest⟩ := hl
  have hr0 : rest = [] := hrest
  subst hr0
  simp only [List.append_nil] at hown
  have hrr := RowAt.of_owns hrv
  have hwr := RowAt.of_owns hwv
  obtain ⟨-, ra, rc, rfl, -⟩ := RowAt.of_owns hrv
  obtain ⟨-, wa, wc, rfl, -⟩ := RowAt.of_owns hwv
  have C2 := Lib.hid (clone62 lg 1 _ w (RowAt.of_owns hown) (by intro v hv; simp at hv; rcases hv with rfl | rfl | rfl | rfl | rfl <;> rfl) (by decide))
  have c165 := hE.log
  obtain ⟨-, la, lc, rfl, -⟩ := RowAt.of_owns hown
  have hgl : g < w.heap.size := hE.lt
  have HRR := Lib.hid hrr
  have HWR := Lib.hid hwr
  clear h hE hlog hrest hrv hwv hrr hwr hown
  go_enter Tryz.func33, Tryz.ntmps33
  go_wp2_with fail
  refine (C1.out).mono ?_
  rintro en y ⟨rfl, rfl⟩
  go_wp2_with fail
  refine (C2.out).mono ?_
  rintro en y ⟨v', rfl, hown, hby⟩
  obtain ⟨b, bc, rfl, hbb, hbl, hbr, hbf⟩ := owns_block hown (by decide)
  have c0 := hbr 0 _ rfl
  have c1 := hbr 1 _ rfl
  have c2 := hbr 2 _ rfl
  have c3 := hbr 3 _ rfl
  have c4 := hbr 4 _ rfl
  simp only [Nat.zero_add] at c0 c1 c2 c3 c4
  have HOW := Lib.hid hown
  have HBY := Lib.hid hby
  clear hown hby hbr C1 C2 c165
  go_upto_region 4 with fail
  go_wp2_with fail
  refine wp_loop_rounds 2 ?_
  rw [rounds_succ]
  go_upto_region 7 with fail
  have hd := Go.heap_alloc_new y (.cells #[.int .i64 e0.id, .bool e0.com, .bool true, .slice ra (optN e0.rd) rc, .slice wa (optN e0.wr) wc] 42)
  have hbU : Below y.heap.size y (y.alloc (.cells #[.int .i64 e0.id, .bool e0.com, .bool true, .slice ra (optN e0.rd) rc, .slice wa (optN e0.wr) wc] 42)) := (Below.refl _ _).alloc (Nat.le_refl _) _
  have HOU := Lib.hid (HOW.out.alloc (.cells #[.int .i64 e0.id, .bool e0.com, .bool true, .slice ra (optN e0.rd) rc, .slice wa (optN e0.wr) wc] 42))
  generalize y.alloc (.cells #[.int .i64 e0.id, .bool e0.com, .bool true, .slice ra (optN e0.rd) rc, .slice wa (optN e0.wr) wc] 42) = U at *
  have HBU := Lib.hid (HBY.out.trans (hbU.mono HBY.out.size))
  have HBY1 := Lib.hid hbU
  generalize hdn : y.heap.size = d at *
  have HD := Lib.hid (show U.drew.heap[d]? = _ from hd)
  have HOU' := Lib.hid (owns_below HOU.out ((Below.refl _ U).drew))
  have C3 := Lib.hid (fun (X : World) (hX : Below w.heap.size w X) => clone63 (.slice ra (optN e0.rd) rc) _ _ X (HRR.out.below hX) (optC_one _) (optN_le _))
  have C4 := Lib.hid (fun (X : World) (hX : Below w.heap.size w X) => clone63 (.slice wa (optN e0.wr) wc) _ _ X (HWR.out.below hX) (optC_one _) (optN_le _))
  have hS0 : (fun w' : World => w'.cell? ⟨d, 3, none⟩ = some (.slice ra (optN e0.rd) rc) ∧ w'.cell? ⟨d, 4, none⟩ = some (.slice wa (optN e0.wr) wc)) U.drew := ⟨cell_of_row _ _ 3 _ _ _ hd, cell_of_row _ _ 4 _ _ _ hd⟩
  have hdU := block_lt hd
  have hUw : w.heap.size ≤ U.heap.size := HBU.out.size
  clear hd hbU c0 c1 c2 c3 c4 hbf HOW HOU
  refine hregion (fun w' : World => w'.cell? ⟨d, 3, none⟩ = some (.slice ra (optN e0.rd) rc) ∧ w'.cell? ⟨d, 4, none⟩ = some (.slice wa (optN e0.wr) wc)) hS0 (fun hHeld => ?_)
  clear hS0
  refine hd 0 (v := ?_) ?_ ?_; rotate_left; · rintro w ⟨hS1, hS2⟩; go_simp; try with_reducible rfl
  simp only [Act.put, pt1, pt2, pt3]
  refine hd 1 (v := ?_) ?_ ?_; rotate_left; · rintro w ⟨hS1, hS2⟩; go_simp; try with_reducible rfl
  simp only [Act.put, pt1, pt2, pt3]
  refine hd 2 (v := ?_) ?_ ?_; rotate_left; · rintro w ⟨hS1, hS2⟩; go_simp; try with_reducible rfl
  simp only [Act.put, pt1, pt2, pt3]
  refine hd 3 (v := ?_) ?_ ?_; rotate_left; · rintro w ⟨hS1, hS2⟩; go_simp; try with_reducible rfl
  simp only [Act.put, pt1, pt2, pt3]
  refine hd 4 (v := ?_) ?_ ?_; rotate_left; · rintro w ⟨hS1, hS2⟩; go_simp; try with_reducible rfl
  simp only [Act.put, pt1, pt2, pt3]
  refine hd 5 (v := ?_) ?_ ?_; rotate_left; · rintro w ⟨hS1, hS2⟩; go_simp; try with_reducible rfl
  simp only [Act.put, pt1, pt2, pt3]
  refine hd 7 (v := ?_) ?_ ?_; rotate_left; · rintro w ⟨hS1, hS2⟩; go_simp; try with_reducible rfl
  simp only [Act.put, pt1, pt2, pt3]
  refine hd 8 (v := ?_) ?_ ?_; rotate_left; · rintro w ⟨hS1, hS2⟩; go_simp; try with_reducible rfl
  simp only [Act.put, pt1, pt2, pt3]
  refine hcl 6 (fun K' hK => ?_)
  go_simp
  go_at_call 63
  refine (C3.out _ HBU.out.drew).mono ?_
  rintro en y3 ⟨v3, rfl, hown3, hby3⟩
  obtain ⟨-, a3, c3, rfl, -⟩ := RowAt.of_owns hown3
  have H3 := Lib.hid (And.intro hown3 (And.intro (HBU.out.drew.trans (hby3.mono HBU.out.drew.size)) (And.intro (owns_below HOU'.out hby3) ((hby3.block _ (block_lt HD.out)).trans HD.out))))
  have H3S : U.heap.size ≤ y3.heap.size := hby3.size
  clear hown3 hby3 C3
  go_wp2_with fail
  refine hK.out _ _ ?_ (fun hHeld => ?_)
  · exact ⟨cell_of_row _ _ 3 _ _ _ H3.out.2.2.2, cell_of_row _ _ 4 _ _ _ H3.out.2.2.2⟩
  clear hK K'
  try simp only [Act.put, pt1, pt2, pt3]
  refine hcl 9 (fun K' hK => ?_)
  go_simp
  go_at_call 63
  refine (C4.out _ H3.out.2.1).mono ?_
  rintro en y4 ⟨v4, rfl, hown4, hby4⟩
  obtain ⟨-, a4, c4, rfl, -⟩ := RowAt.of_owns hown4
  have H4 := Lib.hid (And.intro hown4 (And.intro (H3.out.2.1.trans (hby4.mono H3.out.2.1.size)) (And.intro (owns_below H3.out.2.2.1 hby4) (And.intro ((hby4.block _ (block_lt H3.out.2.2.2)).trans H3.out.2.2.2) (owns_below H3.out.1 hby4)))))
  clear hown4 hby4 C4 H3
  go_wp2_with fail
  refine hK.out _ _ ?_ (fun hHeld => ?_)
  · exact ⟨cell_of_row _ _ 3 _ _ _ H4.out.2.2.2.1, cell_of_row _ _ 4 _ _ _ H4.out.2.2.2.1⟩
  clear hK K'
  try simp only [Act.put, pt1, pt2, pt3]
  obtain ⟨-, -, hr4, hf4⟩ := owns_at H4.out.2.2.1 (by decide)
  have c3' := hr4 3 _ rfl
  have c4' := hr4 4 _ rfl
  simp only [Nat.zero_add] at c3' c4'
  have hf3 := hf4 3
  have hf4 := hf4 4
  have hne3 : (Value.slice a3 (optN e0.rd) c3).ownBlock ≠ some b := owns_two H4.out.2.2.2.2 H4.out.2.2.1 (by decide)
  have hne4 : (Value.slice a4 (optN e0.wr) c4).ownBlock ≠ some b := owns_two H4.out.1 H4.out.2.2.1 (by decide)
  have hdb : d ≠ b := by omega
  have HN := Lib.hid (And.intro hne3 (And.intro hne4 hdb))
  clear hr4 hne3 hne4
  refine hd 10 (v := ?_) ?_ ?_; rotate_left; · rintro w ⟨hS1, hS2⟩; go_simp; try with_reducible rfl
  simp only [Act.put, pt1, pt2, pt3]
  refine hd 11 (v := ?_) ?_ ?_; rotate_left; · rintro w ⟨hS1, hS2⟩; go_simp; try with_reducible rfl
  simp only [Act.put, pt1, pt2, pt3]
  refine hcl 12 (fun K' hK => ?_)
  go_simp
  refine hK.out _ _ ?_ (fun hHeld => ?_)
  · exact ⟨(cell_of_row _ _ 3 _ _ _ ((heap_setCell_other _ _ _ _ HN.out.2.2).trans H4.out.2.2.2.1)), (cell_of_row _ _ 4 _ _ _ ((heap_setCell_other _ _ _ _ HN.out.2.2).trans H4.out.2.2.2.1))⟩
  clear hK K'
  try simp only [Act.put, pt1, pt2, pt3]
  have h5 := owns_set H4.out.2.2.1 3 (.slice a3 (optN e0.rd) c3)
  have h6 := ownsRow_setCell_other H4.out.1 (a := ⟨b, 3, none⟩) HN.out.2.1 (.slice a3 (optN e0.rd) c3)
  have h7 := ownsRow_setCell_other H4.out.2.2.2.2 (a := ⟨b, 3, none⟩) HN.out.1 (.slice a3 (optN e0.rd) c3)
  have h8 : Below w.heap.size w (y4.setCell ⟨b, 3, none⟩ (.slice a3 (optN e0.rd) c3)) := H4.out.2.1.setCell (p := ⟨b, 3, none⟩) hbb _
  have h9 := (heap_setCell_other y4 ⟨b, 3, none⟩ d (.slice a3 (optN e0.rd) c3) HN.out.2.2).trans H4.out.2.2.2.1
  generalize y4.setCell ⟨b, 3, none⟩ (.slice a3 (optN e0.rd) c3) = y5 at *
  obtain ⟨-, -, hr5, hf5⟩ := owns_at h5 (by decide)
  have c4' := hr5 4 _ rfl
  simp only [Nat.zero_add] at c4'
  have hf4 := hf5 4
  have H5 := Lib.hid (And.intro h5 (And.intro h6 (And.intro h7 (And.intro h8 h9))))
  clear h5 h6 h7 h8 h9 hr5 hf5 c3' hf3
  refine hd 13 (v := ?_) ?_ ?_; rotate_left; · rintro w ⟨hS1, hS2⟩; go_simp; try with_reducible rfl
  simp only [Act.put, pt1, pt2, pt3]
  refine hd 14 (v := ?_) ?_ ?_; rotate_left; · rintro w ⟨hS1, hS2⟩; go_simp; try with_reducible rfl
  simp only [Act.put, pt1, pt2, pt3]
  refine hcl 15 (fun K' hK => ?_)
  go_simp
  refine hK.out _ _ ?_ (fun hHeld => ?_)
  · exact ⟨(cell_of_row _ _ 3 _ _ _ ((heap_setCell_other _ _ _ _ HN.out.2.2).trans H5.out.2.2.2.2)), (cell_of_row _ _ 4 _ _ _ ((heap_setCell_other _ _ _ _ HN.out.2.2).trans H5.out.2.2.2.2))⟩
  clear hK K'
  try simp only [Act.put, pt1, pt2, pt3]
  have h5 := owns_set H5.out.1 4 (.slice a4 (optN e0.wr) c4)
  have h6 := ownsRow_setCell_other H5.out.2.1 (a := ⟨b, 4, none⟩) HN.out.2.1 (.slice a4 (optN e0.wr) c4)
  have h7 := ownsRow_setCell_other H5.out.2.2.1 (a := ⟨b, 4, none⟩) HN.out.1 (.slice a4 (optN e0.wr) c4)
  have h8 : Below w.heap.size w (y5.setCell ⟨b, 4, none⟩ (.slice a4 (optN e0.wr) c4)) := H5.out.2.2.2.1.setCell (p := ⟨b, 4, none⟩) hbb _
  generalize y5.setCell ⟨b, 4, none⟩ (.slice a4 (optN e0.wr) c4) = y6 at *
  have H6 := Lib.hid (And.intro h5 (And.intro h6 (And.intro h7 h8)))
  clear h5 h6 h7 h8
  have hy3 : w.heap.size ≤ y3.heap.size := Nat.le_trans hUw (Nat.le_trans (Nat.le_refl _) H3S)
  refine hend ?_
  clear hHeld
  go_wp2_with fail
  rw [rounds_succ]
  go_wp2_with fail
  go_ret
  exact ⟨_, _, _, rfl, H6.out.1, owns_mono H6.out.2.2.1 hUw, owns_mono H6.out.2.1 hy3, H6.out.2.2.2⟩
end Go.Proofs.YteflpdhgojcmcaaGreatDoor
namespace Go.Proofs.YteflpdhgojcmcaaGreatDoor
open Go.RowKit PSet PMat
theorem wp_append_none {w : World} {o : Oper} {a : Act} {K : Act → World → Prop} {Q : Exit → Act → World → Prop} (s x : Operand) (t : TypeId)
    (ho : o.op = .call { callee := .builtin .append, args := #[s, x], argTypes := #[t, t] })
    (base : Nat) (e : TypeId) (i : TypeInfo) (size : Nat) (ht : Tryz.prog.underlying t = some (.slice e)) (hi : Tryz.prog.info? e = some i)
    (v : Value) (n : Nat) (xs : List Value) (hs : a.eval s = v) (hown : w.ownsRow base e size v n xs) (hx : a.eval x = .slice none 0 0)
    (h : K (a.put o.dst v) w) : Oper.wp Tryz.prog o a w K Q := by
  have hrun := run_append_owned_none (P := Tryz.prog) (w := w) base t o.type e i size ht hi v n xs hown
  unfold Oper.wp
  simp [execOp, ho, resolve, invoke, builtin, hs, hx, hrun, Result.andThen]
  exact h
set_option maxRecDepth 100000 in
theorem gsEntries (B : Nat) (w : World) (g cn : Nat) (e : EngM) (e0 : EntM) (h : GrS B w g e) (hl : e.live = none) (hlog : e.log = [e0]) (hcn : w.cell? ⟨cn, 0, none⟩ = some (.pointer (some ⟨g, 0, none⟩))) :
    Calls Tryz.prog 32 #[.pointer (some ⟨cn, 0, none⟩)] w fun en w' => ∃ v rv wv, en = .returned v ∧ w'.ownsRow w.heap.size 42 5 v 1 [.int .i64 e0.id, .bool e0.com, .bool true, rv, wv] ∧ w'.ownsRow w.heap.size 155 4 rv (optN e0.rd) (optC e0.rd) ∧ w'.ownsRow w.heap.size 155 4 wv (optN e0.wr) (optC e0.wr) ∧ Below w.heap.size w w' := by
  have hlc := block_lt_of_cell hcn
  have C1 := Lib.hid (gsLog B w.drew g e e0 (h.lim (E := fun _ => false) (B' := B) (Lim.of_below (Below.refl _ _).drew) rfl rfl rfl rfl) hlog)
  have C2 := Lib.hid (fun (X : World) (hX : Below w.heap.size w X) => gsRest B X g e (h.lim (E := fun _ => false) (B' := B) (Lim.of_below hX) rfl rfl rfl rfl) hl)
  obtain ⟨i0, z0, hi, -, -, -, -⟩ := info_42
  have hS0 : (fun w' : World => w'.cell? ⟨cn, 0, none⟩ = some (.pointer (some ⟨g, 0, none⟩))) w.drew := hcn
  clear h hl hlog hcn
  have hcn0 : w.cell? ⟨cn, 0, none⟩ = some (.pointer (some ⟨g, 0, none⟩)) := hS0
  have hcn0 := Lib.hid hcn0
  go_enter Tryz.func32, Tryz.ntmps32
  go_upto_region 1 with fail
  refine hregion (fun w' : World => w'.cell? ⟨cn, 0, none⟩ = some (.pointer (some ⟨g, 0, none⟩))) hS0 (fun hHeld => ?_)
  clear hS0
  refine hd 0 (v := ?_) ?_ ?_; rotate_left; · rintro w hS; go_simp; try with_reducible rfl
  simp only [Act.put, pt1, pt2, pt3]
  refine hd 2 (v := ?_) ?_ ?_; rotate_left; · rintro w hS; go_simp; try with_reducible rfl
  simp only [Act.put, pt1, pt2, pt3]
  refine hcl 1 (fun K' hK => ?_)
  go_simp
  go_at_call 33
  refine (C1.out).mono ?_
  rintro en y ⟨v, rv, wv, rfl, h1, h2, h3, hby⟩
  obtain ⟨b, bc, rfl, -, -, -, -⟩ := owns_block h1 (by decide)
  obtain ⟨-, ra, rc, rfl, -⟩ := RowAt.of_owns h2
  obtain ⟨-, wa, wc, rfl, -⟩ := RowAt.of_owns h3
  have H1 := Lib.hid (And.intro h1 (And.intro h2 (And.intro h3 (((Below.refl _ w).drew).trans hby))))
  clear h1 h2 h3 hby C1
  go_wp2_with fail
  refine hK.out _ _ ?_ (fun hHeld => ?_)
  · exact (H1.out.2.2.2.cell (p := ⟨cn, 0, none⟩) hlc).trans hcn0.out
  clear hK K'
  try simp only [Act.put, pt1, pt2, pt3]
  refine hcl 3 (fun K' hK => ?_)
  go_simp
  go_at_call 34
  refine (C2.out _ H1.out.2.2.2).mono ?_
  rintro en y2 ⟨rfl, hby⟩
  have H2 := Lib.hid (And.intro (owns_below H1.out.1 hby) (And.intro (owns_below H1.out.2.1 hby) (And.intro (owns_below H1.out.2.2.1 hby) (H1.out.2.2.2.trans (hby.mono H1.out.2.2.2.size)))))
  clear H1 C2 hby
  go_wp2_with fail
  refine hK.out _ _ ?_ (fun hHeld => ?_)
  · exact (H2.out.2.2.2.cell (p := ⟨cn, 0, none⟩) hlc).trans hcn0.out
  clear hK K'
  try simp only [Act.put, pt1, pt2, pt3]
  refine hcl 4 (fun K' hK => ?_)
  rw [if_pos (by rfl)]
  refine wp_append_none _ _ 38 rfl w.heap.size 42 i0 5 Tryz.underlying38 hi _ 1 _ rfl H2.out.1 rfl ?_
  refine hK.out _ _ hHeld (fun hHeld => ?_)
  clear hK K'
  try simp only [Act.put, pt1, pt2, pt3]
  refine hd 5 (v := ?_) ?_ ?_; rotate_left; · rintro w hS; go_simp; try with_reducible rfl
  simp only [Act.put, pt1, pt2, pt3]
  refine hend ?_
  clear hHeld
  go_wp2_with fail
  go_ret
  exact ⟨_, _, _, rfl, H2.out.1, H2.out.2.1, H2.out.2.2.1, H2.out.2.2.2⟩
set_option maxRecDepth 100000 in
theorem scEntries (B : Nat) (w : World) (q g : Nat) (M : WorM) (e0 : EntM) (h : WorS ⟨false, g⟩ B w q M) (hl : M.eng.live = none) (hlog : M.eng.log = [e0]) :
    Calls Tryz.prog 13 #[.pointer (some ⟨q, 0, none⟩)] w fun en w' => ∃ v rv wv, en = .returned v ∧ w'.ownsRow w.heap.size 42 5 v 1 [.int .i64 e0.id, .bool e0.com, .bool true, rv, wv] ∧ w'.ownsRow w.heap.size 155 4 rv (optN e0.rd) (optC e0.rd) ∧ w'.ownsRow w.heap.size 155 4 wv (optN e0.wr) (optC e0.wr) ∧ Below w.heap.size w w' := by
  have C1 := Lib.hid h.good
  obtain ⟨r, ent, sv, pv, ss, ts, h⟩ := h
  obtain ⟨hv, hr⟩ := h.rec_
  obtain ⟨-, cn, rfl, hcb⟩ := h.ent1
  have C2 := Lib.hid (gsEntries B w g cn M.eng e0 hr.eng hl hlog (cell_of_row _ _ 0 _ _ _ hcb))
  have c1 := h.cells.2.1
  clear h hr hcb hl hlog
  go_enter Tryz.func13, Tryz.ntmps13
  go_wp2_with fail
  refine (C1.out).mono ?_
  rintro en y ⟨rfl, rfl⟩
  go_wp2_with fail
  refine (C2.out).mono ?_
  rintro en y2 ⟨v, rv, wv, rfl, h1, h2, h3, hby⟩
  have H1 := Lib.hid (And.intro h1 (And.intro h2 (And.intro h3 hby)))
  clear h1 h2 h3 hby
  go_wp2_with fail
  go_ret
  exact ⟨_, _, _, rfl, H1.out.1, H1.out.2.1, H1.out.2.2.1, H1.out.2.2.2⟩
end Go.Proofs.YteflpdhgojcmcaaGreatDoor
namespace Go.Proofs.YteflpdhgojcmcaaGreatDoor
open Go.RowKit PSet PMat
set_option maxRecDepth 100000 in
theorem scValues {kd : Kd} {B : Nat} {w : World} {q : Nat} {M : WorM} (h : WorS kd B w q M) :
    Calls Tryz.prog 19 #[.pointer (some ⟨q, 0, none⟩)] w fun en w' => ∃ v, en = .returned v ∧ w'.ownsRow w.heap.size 53 2 v M.eng.vals.length (regsC M.eng.vals) ∧ Below w.heap.size w w' := by
  have C1 := Lib.hid h.good
  obtain ⟨r, ent, sv, pv, ss, ts, h⟩ := h
  have C2 := Lib.hid (rmValues kd B w r M.eng M.evs h.rec_)
  have c0 := h.cells.1
  clear h
  go_enter Tryz.func19, Tryz.ntmps19
  go_wp2_with fail
  refine (C1.out).mono ?_
  rintro en y ⟨rfl, rfl⟩
  go_wp2_with fail
  refine (C2.out).mono ?_
  rintro en y2 ⟨v, rfl, h1, hby⟩
  have H1 := Lib.hid (And.intro h1 hby)
  clear h1 hby
  go_wp2_with fail
  go_ret
  exact ⟨_, rfl, H1.out.1, H1.out.2⟩
set_option maxRecDepth 100000 in
theorem scHistory {kd : Kd} {B : Nat} {w : World} {q : Nat} {M : WorM} (h : WorS kd B w q M) :
    Calls Tryz.prog 22 #[.pointer (some ⟨q, 0, none⟩)] w fun en w' => ∃ v, en = .returned v ∧ w'.ownsRow w.heap.size 193 5 v M.evs.length (evsC M.evs) ∧ Below w.heap.size w w' := by
  have C1 := Lib.hid h.good
  obtain ⟨r, ent, sv, pv, ss, ts, h⟩ := h
  have C2 := Lib.hid (rmHistory kd B w r M.eng M.evs h.rec_)
  have c0 := h.cells.1
  clear h
  go_enter Tryz.func22, Tryz.ntmps22
  go_wp2_with fail
  refine (C1.out).mono ?_
  rintro en y ⟨rfl, rfl⟩
  go_wp2_with fail
  refine (C2.out).mono ?_
  rintro en y2 ⟨v, rfl, h1, hby⟩
  have H1 := Lib.hid (And.intro h1 hby)
  clear h1 hby
  go_wp2_with fail
  go_ret
  exact ⟨_, rfl, H1.out.1, H1.out.2⟩
end Go.Proofs.YteflpdhgojcmcaaGreatDoor
namespace Go.Proofs.YteflpdhgojcmcaaGreatDoor
open Go.RowKit PSet PMat
/-- A job's cells. -/
def jobC (lv : Value) (fuel : Int) : List Value := [lv, .int .i64 0, .int .i64 0, .int .i64 0, .int .i64 0, .int .i64 0, .int .i64 0, .int .i64 0, .int .i64 0, .int .i64 0, .int .i64 0, .int .i64 0, .int .i64 0, .int .i64 0, .int .i64 0, .int .i64 0, .int .i64 0, .int .i64 fuel]
theorem jobC_one {lv : Value} (h : lv.oneCell' = true) (fuel : Int) : AllOne (jobC lv fuel) := by
  intro v hv
  simp only [jobC, List.mem_cons, List.not_mem_nil, or_false] at hv
  rcases hv with rfl | rfl | rfl | rfl | rfl | rfl | rfl | rfl | rfl | rfl | rfl | rfl | rfl | rfl | rfl | rfl | rfl | rfl <;> first | exact h | rfl
theorem size57 : (Tryz.prog.info? 57).map (·.size) = some 18 := by kernel_rfl
theorem info57 (lv : Value) (fuel : Int) : (Tryz.prog.info? 57).map (·.size) = some (jobC lv fuel).length := size57
theorem info57a (lv : Value) (fuel : Int) : (Tryz.prog.info? 57).map (·.size) = some (jobC lv fuel).toArray.size := size57
theorem info_57 : ∃ i z, Tryz.prog.info? 57 = some i ∧ i.zero = some z ∧ i.size = 18 ∧ i.bytes = 160 ∧ z.cells.size = 18 := by
  have h : (Tryz.prog.info? 57).map (fun i => (i.size, i.bytes, i.zero.map fun z => z.cells.size)) = some (18, 160, some 18) := by kernel_rfl
  cases hi : Tryz.prog.info? 57 with
  | none => rw [hi] at h; cases h
  | some i =>
    rw [hi] at h
    simp only [Option.map_some, Option.some.injEq, Prod.mk.injEq] at h
    obtain ⟨h1, h2, h3⟩ := h
    cases hz : i.zero with
    | none => rw [hz] at h3; cases h3
    | some z =>
      rw [hz] at h3
      exact ⟨i, z, rfl, hz, h1, h2, by simpa using h3⟩
theorem job_range {w : World} {s t : Nat} {lv : Value} {fuel : Int} {stale : Nat} (h : w.heap[s]? = some (.cells (seatC t lv fuel stale) 86 (0, 0))) : w.rangeAt s 1 (jobC lv fuel) := fun j v hj => by
  have hl : j < 18 := (List.getElem?_eq_some_iff.1 hj).1
  rw [cell_of_row _ _ _ _ _ _ h]
  rcases j with _ | _ | _ | _ | _ | _ | _ | _ | _ | _ | _ | _ | _ | _ | _ | _ | _ | _ | j <;> first | (exact hj) | omega
set_option maxRecDepth 100000 in
theorem scJobs {kd : Kd} {B : Nat} {w : World} {q : Nat} {M : WorM} (m : SeatM) (h : WorS kd B w q M) (hM : M.seats = [m]) (hfew : m.thr.ops.length ≤ 100000) :
    Calls Tryz.prog 9 #[.pointer (some ⟨q, 0, none⟩)] w fun en w' => ∃ v lv, en = .returned v ∧ w'.ownsRow w.heap.size 57 18 v 1 (jobC lv m.thr.fuel) ∧ w'.ownsRow w.heap.size 50 5 lv m.thr.ops.length (opsC m.thr.ops) ∧ Below w.heap.size w w' := by
  have C1 := Lib.hid h.good
  obtain ⟨r, ent, sv, pv, ss, ts, h⟩ := h
  have hl1 : ss.length = 1 := by rw [h.len, hM]; rfl
  have hl2 : ts.length = 1 := by rw [h.len2, hM]; rfl
  obtain ⟨s, rfl⟩ := List.length_eq_one_iff.1 hl1
  obtain ⟨t, rfl⟩ := List.length_eq_one_iff.1 hl2
  have hse := h.each 0 s t m rfl rfl (by rw [hM]; rfl)
  obtain ⟨lv, hrow, hops⟩ := hse.row
  obtain ⟨-, qa, qc, rfl, hqa⟩ := RowAt.of_owns h.seats
  obtain ⟨b, off, rfl, -, hqr⟩ := hqa (by simp)
  have s0 : w.cell? ⟨b, off, none⟩ = some (.pointer (some ⟨s, 0, none⟩)) := hqr 0 _ rfl
  have c2 := h.cells.2.2.1
  have hR := job_range hrow
  have hsl := block_lt hrow
  have hlv := RowAt.of_owns hops
  obtain ⟨-, la, lc, rfl, -⟩ := RowAt.of_owns hops
  have C2 := Lib.hid (fun (X : World) (hX : Below w.heap.size w X) => clone25 (.slice la m.thr.ops.length lc) _ _ X (hlv.below hX) (opsC_one _) hfew)
  have HR := Lib.hid hR
  have HI := Lib.hid (info57 (.slice la m.thr.ops.length lc) m.thr.fuel)
  have HIA := Lib.hid (info57a (.slice la m.thr.ops.length lc) m.thr.fuel)
  have HONE := Lib.hid (all_of_one (jobC_one (lv := .slice la m.thr.ops.length lc) rfl m.thr.fuel))
  obtain ⟨i0, z0, hi, hz0, hz1, hz2, hz3⟩ := info_57
  obtain ⟨J, hJ⟩ : ∃ J, J = jobC (.slice la m.thr.ops.length lc) m.thr.fuel := ⟨_, rfl⟩
  rw [← hJ] at HR HI HIA HONE
  have HSZ := Lib.hid (show J.toArray.size = 18 by rw [hJ]; rfl)
  have HJ := Lib.hid hJ
  clear h hrow hops hqa hqr hR hlv hse hM hfew hl1 hl2 hJ
  go_enter Tryz.func9, Tryz.ntmps9
  go_wp2_with fail
  refine (C1.out).mono ?_
  rintro en y ⟨rfl, rfl⟩
  go_wp2_with fail
  refine wp_loop_rounds 2 ?_
  rw [rounds_succ]
  go_upto_region 7 with (first
    | (refine wpList_load_mid rfl 57 _ rfl s 1 rfl J _ HR.out Tryz.underlying57 rfl HI.out ?_)
    | (refine wpList_store_row rfl 57 _ _ rfl w.heap.size J.toArray rfl rfl 57 _ (Go.heap_alloc_new _ _) HIA.out (by rw [HSZ.out]; rfl) HONE.out ?_)
    | fail)
  have hx := block_setRow_same (cs := J.toArray) (Go.heap_alloc_new w (.cells #[.slice none 0 0, .int .i64 0, .int .i64 0, .int .i64 0, .int .i64 0, .int .i64 0, .int .i64 0, .int .i64 0, .int .i64 0, .int .i64 0, .int .i64 0, .int .i64 0, .int .i64 0, .int .i64 0, .int .i64 0, .int .i64 0, .int .i64 0, .int .i64 0] 57))
  have hbx : Below w.heap.size w ((w.alloc (.cells #[.slice none 0 0, .int .i64 0, .int .i64 0, .int .i64 0, .int .i64 0, .int .i64 0, .int .i64 0, .int .i64 0, .int .i64 0, .int .i64 0, .int .i64 0, .int .i64 0, .int .i64 0, .int .i64 0, .int .i64 0, .int .i64 0, .int .i64 0, .int .i64 0] 57)).setRow w.heap.size J.toArray) := below_setRow' ((Below.refl _ _).alloc (Nat.le_refl _) _) (Nat.le_refl _) _
  generalize (w.alloc (.cells #[.slice none 0 0, .int .i64 0, .int .i64 0, .int .i64 0, .int .i64 0, .int .i64 0, .int .i64 0, .int .i64 0, .int .i64 0, .int .i64 0, .int .i64 0, .int .i64 0, .int .i64 0, .int .i64 0, .int .i64 0, .int .i64 0, .int .i64 0, .int .i64 0] 57)).setRow w.heap.size J.toArray = X at *
  have HX := Lib.hid hx
  have HBX := Lib.hid hbx
  have C2' := Lib.hid (C2.out X hbx)
  have e0 : X.cell? ⟨w.heap.size, 0, none⟩ = some (.slice la m.thr.ops.length lc) := by
    rw [cell_of_row _ _ 0 _ _ _ hx, HJ.out]
    rfl
  clear hx hbx C2 s0 c2
  go_wp2_with fail
  refine (C2'.out).mono ?_
  rintro en y ⟨v', rfl, hown, hby⟩
  obtain ⟨-, na, nc, rfl, -⟩ := RowAt.of_owns hown
  have hyr := (hby.block _ (block_lt HX.out)).trans HX.out
  have f0 := frozen_of_row _ _ 0 _ _ hyr
  have e0 : y.cell? ⟨w.heap.size, 0, none⟩ = some (.slice la m.thr.ops.length lc) := by
    rw [cell_of_row _ _ 0 _ _ _ hyr, HJ.out]
    rfl
  have HY := Lib.hid (And.intro hown (And.intro (HBX.out.trans (hby.mono HBX.out.size)) hyr))
  have hXy : w.heap.size < X.heap.size := block_lt HX.out
  clear hown hby hyr C2'
  go_upto_region 8 with fail
  have hz := heap_setCell_same y w.heap.size 0 _ _ (.slice na m.thr.ops.length nc) HY.out.2.2
  have hset : J.toArray.setIfInBounds 0 (.slice na m.thr.ops.length nc) = (jobC (.slice na m.thr.ops.length nc) m.thr.fuel).toArray := by rw [HJ.out]; rfl
  rw [hset] at hz
  have hoz := ownsRow_setCell_other HY.out.1 (a := ⟨w.heap.size, 0, none⟩) (owns_type HY.out.1 HY.out.2.2 (by decide)) (.slice na m.thr.ops.length nc)
  have hbz : Below w.heap.size w (y.setCell ⟨w.heap.size, 0, none⟩ (.slice na m.thr.ops.length nc)) := HY.out.2.1.setCell (p := ⟨w.heap.size, 0, none⟩) (Nat.le_refl _) _
  generalize y.setCell ⟨w.heap.size, 0, none⟩ (.slice na m.thr.ops.length nc) = z at *
  have HZ := Lib.hid (And.intro hz (And.intro hoz hbz))
  have HIA2 := Lib.hid (info57a (.slice na m.thr.ops.length nc) m.thr.fuel)
  have HO2 := Lib.hid (jobC_one (lv := .slice na m.thr.ops.length nc) rfl m.thr.fuel)
  clear hz hoz hbz hset e0 f0 HIA HONE
  obtain ⟨KA, hKA⟩ : ∃ KA : Array Value, KA = #[.slice na m.thr.ops.length nc, .int .i64 0, .int .i64 0, .int .i64 0, .int .i64 0, .int .i64 0, .int .i64 0, .int .i64 0, .int .i64 0, .int .i64 0, .int .i64 0, .int .i64 0, .int .i64 0, .int .i64 0, .int .i64 0, .int .i64 0, .int .i64 0, .int .i64 m.thr.fuel] := ⟨_, rfl⟩
  have hKA' : (jobC (.slice na m.thr.ops.length nc) m.thr.fuel).toArray = KA := hKA.symm
  rw [hKA'] at HZ HIA2
  go_wp2_with (first
    | (refine wpList_load_row rfl 57 _ rfl w.heap.size rfl 57 KA (0, 0) _ HZ.out.1 Tryz.underlying57 rfl HIA2.out ?_; rw [hKA])
    | (at_builtin; refine wpList_append_own _ rfl _ _ 33 rfl w.heap.size 57 i0 z0 18 160 Tryz.underlying33 hi hz0 hz1 hz2 hz3 (by decide) _ 0 [] rfl (World.ownsRow_nil _ _ _ _) ⟨z.heap.size, 0, none⟩ 1 1 (jobC (.slice na m.thr.ops.length nc) m.thr.fuel) rfl rfl (by exact news_new z (jobC (.slice na m.thr.ops.length nc) m.thr.fuel) 57) HO2.out (by unfold maxLen; omega) (by omega) (by have := HZ.out.2.2.size; simp; omega) ?_)
    | fail)
  intro v2 z2 hown2 hgrow _
  have hbZ : Below z.heap.size z (z.alloc (.cells #[.slice na m.thr.ops.length nc, .int .i64 0, .int .i64 0, .int .i64 0, .int .i64 0, .int .i64 0, .int .i64 0, .int .i64 0, .int .i64 0, .int .i64 0, .int .i64 0, .int .i64 0, .int .i64 0, .int .i64 0, .int .i64 0, .int .i64 0, .int .i64 0, .int .i64 m.thr.fuel] 57)) := (Below.refl _ _).alloc (Nat.le_refl _) _
  have hs3 : Below (z.alloc (.cells #[.slice na m.thr.ops.length nc, .int .i64 0, .int .i64 0, .int .i64 0, .int .i64 0, .int .i64 0, .int .i64 0, .int .i64 0, .int .i64 0, .int .i64 0, .int .i64 0, .int .i64 0, .int .i64 0, .int .i64 0, .int .i64 0, .int .i64 0, .int .i64 0, .int .i64 m.thr.fuel] 57)).heap.size (z.alloc (.cells #[.slice na m.thr.ops.length nc, .int .i64 0, .int .i64 0, .int .i64 0, .int .i64 0, .int .i64 0, .int .i64 0, .int .i64 0, .int .i64 0, .int .i64 0, .int .i64 0, .int .i64 0, .int .i64 0, .int .i64 0, .int .i64 0, .int .i64 0, .int .i64 0, .int .i64 m.thr.fuel] 57)) z2 := Chg.to_below (F := fun _ => False) ((Chg.refl _ _).grown hgrow (fun k e => by cases e)) (Nat.le_refl _) (fun _ hi => hi.elim)
  have hb2 : Below z.heap.size z z2 := hbZ.trans (hs3.mono hbZ.size)
  have HF := Lib.hid (And.intro hown2 (And.intro (owns_below HZ.out.2.1 hb2) (HZ.out.2.2.trans (hb2.mono HZ.out.2.2.size))))
  have hwX : w.heap.size ≤ X.heap.size := Nat.le_of_lt hXy
  obtain ⟨-, v2a, v2c, rfl, -⟩ := RowAt.of_owns hown2
  clear hown2 hgrow hbZ hs3 hb2 hKA hKA'
  go_wp2_with fail
  rw [rounds_succ]
  go_wp2_with fail
  go_ret
  exact ⟨_, _, rfl, HF.out.1, owns_mono HF.out.2.1 hwX, HF.out.2.2⟩
end Go.Proofs.YteflpdhgojcmcaaGreatDoor
