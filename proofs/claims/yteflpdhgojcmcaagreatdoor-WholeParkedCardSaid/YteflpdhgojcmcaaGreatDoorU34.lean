/- A seat more, in memory. The world's Add, over a model. A new engine, as a model. A new world. No conditions but those that each theorem names. -/
import Derived.Test.YteflpdhgojcmcaaGreatDoorU01
import Derived.Test.YteflpdhgojcmcaaGreatDoorU33
import Derived.Laws.EntriesVeiled
namespace Go.Proofs.YteflpdhgojcmcaaGreatDoor
open Go.RowKit PSet PMat
theorem get_snoc {α : Type} {l : List α} {a b : α} {i : Nat} (h : (l ++ [a])[i]? = some b) : l[i]? = some b ∨ (i = l.length ∧ a = b) := by
  rcases Nat.lt_trichotomy i l.length with hlt | heq | hgt
  · rw [List.getElem?_append_left hlt] at h
    exact .inl h
  · subst heq
    simp at h
    exact .inr ⟨rfl, h⟩
  · rw [List.getElem?_append_right (by omega)] at h
    rw [List.getElem?_eq_none (by simp; omega)] at h
    cases h
theorem nodup_snoc {l : List Nat} {a : Nat} (h : l.Nodup) (ha : ∀ b ∈ l, b ≠ a) : (l ++ [a]).Nodup := by
  rw [List.nodup_append]
  exact ⟨h, by simp, fun b hb c hc => by simp at hc; subst hc; exact ha b hb⟩
theorem WorI.added {kd : Kd} {B : Nat} {w w9 : World} {q r s t : Nat} {ent sv sv' pv : Value} {ss ts : List Nat} {M : WorM} {th : ThrM} (h : WorI kd B w q r ent sv pv ss ts M) (hl : Lim (fun t => t == 82) B w w9)
    (hown : w9.ownsRow B 82 1 sv' (ss.length + 1) (ptrsC (ss ++ [s]))) (hseat : SeatI B w9 s t r ⟨th, 0⟩) (hs : ∀ s' ∈ ss, s' ≠ s) (ht : ∀ t' ∈ ts, t' ≠ t) (hfew : M.seats.length < 16) :
    WorI kd B (w9.setCell ⟨q, 2, none⟩ sv') q r ent sv' pv (ss ++ [s]) (ts ++ [t]) { M with seats := M.seats ++ [⟨th, 0⟩] } ∧ Lim (fun t => t == 81) B w9 (w9.setCell ⟨q, 2, none⟩ sv') := by
  have hblk := block_lim h.blk hl rfl
  have hc : Chg (fun b => b = q) w9 (w9.setCell ⟨q, 2, none⟩ sv') := Chg.setCell (F := fun b => b = q) (Chg.refl _ _) (p := ⟨q, 2, none⟩) (.inl rfl) _
  have hl2 : Lim (fun t => t == 81) B w9 (w9.setCell ⟨q, 2, none⟩ sv') := Chg.weak (F := fun b => b = q) (G := InT (fun t => t == 81) B w9) hc fun j hj => .inl (by subst hj; exact ⟨h.base, _, _, _, hblk, rfl⟩)
  refine ⟨?_, hl2⟩
  exact {
    blk := heap_setCell_same _ q 2 _ _ _ hblk
    base := h.base
    ent1 := (h.ent1.keep fun _ _ hb => block_lim hb hl rfl).keep fun _ _ hb => block_lim hb hl2 rfl
    rec_ := (h.rec_.lim hl (by decide)).lim hl2 (by decide)
    seats := by
      rw [List.length_append]
      exact owns_lim hown hl2 rfl
    len := by simp [h.len]
    len2 := by simp [h.len2]
    nod := nodup_snoc h.nod hs
    nod2 := nodup_snoc h.nod2 ht
    each := fun i s' t' m' hs' ht' hm' => by
      rcases get_snoc hm' with h1 | ⟨h1, h2⟩
      · have hi : i < M.seats.length := (List.getElem?_eq_some_iff.1 h1).1
        rw [List.getElem?_append_left (by rw [h.len]; exact hi)] at hs'
        rw [List.getElem?_append_left (by rw [h.len2]; exact hi)] at ht'
        exact ((h.each i s' t' m' hs' ht' h1).lim hl rfl rfl rfl).lim hl2 rfl rfl rfl
      · subst h1
        rcases get_snoc hs' with g1 | ⟨_, g2⟩
        · have := (List.getElem?_eq_some_iff.1 g1).1
          have := h.len
          omega
        rcases get_snoc ht' with f1 | ⟨_, f2⟩
        · have := (List.getElem?_eq_some_iff.1 f1).1
          have := h.len2
          omega
        subst h2 g2 f2
        exact hseat.lim hl2 rfl rfl rfl
    park := owns_lim (owns_lim h.park hl rfl) hl2 rfl
    fresh := h.fresh
    few := by simp; omega }
def WorM.add (M : WorM) (ops : List OpM) (fuel : Int) : WorM := { M with seats := M.seats ++ [⟨ThrM.new ops fuel, 0⟩] }
theorem info_82 : ∃ i z, Tryz.prog.info? 82 = some i ∧ i.zero = some z ∧ i.size = 1 ∧ i.bytes = 8 ∧ z.cells.size = 1 := by
  have h : (Tryz.prog.info? 82).map (fun i => (i.size, i.bytes, i.zero.map fun z => z.cells.size)) = some (1, 8, some 1) := by kernel_rfl
  cases hi : Tryz.prog.info? 82 with
  | none => rw [hi] at h; cases h
  | some i =>
    rw [hi] at h
    simp only [Option.map_some, Option.some.injEq, Prod.mk.injEq] at h
    obtain ⟨h1, h2, h3⟩ := h
    cases hz : i.zero with
    | none => rw [hz] at h3; cases h3
    | some z =>
      rw [hz] at h3
      exact ⟨i, z, rfl, hz, h1, h2, by simpa using h3⟩
end Go.Proofs.YteflpdhgojcmcaaGreatDoor
namespace Go.Proofs.YteflpdhgojcmcaaGreatDoor
open Go.RowKit PSet PMat
theorem range1 {w : World} {b : Nat} {lv fu : Value} (h : w.heap[b]? = some (.cells #[lv, .int .i64 0, .int .i64 0, .int .i64 0, .int .i64 0, .int .i64 0, .int .i64 0, .int .i64 0, .int .i64 0, .int .i64 0, .int .i64 0, .int .i64 0, .int .i64 0, .int .i64 0, .int .i64 0, .int .i64 0, .int .i64 0, fu] 57 (0, 0))) : w.rangeAt b 1 [.int .i64 0, .int .i64 0, .int .i64 0, .int .i64 0, .int .i64 0, .int .i64 0, .int .i64 0, .int .i64 0, .int .i64 0, .int .i64 0, .int .i64 0, .int .i64 0, .int .i64 0, .int .i64 0, .int .i64 0, .int .i64 0] := fun j v hj => by
  have hl : j < 16 := by have := (List.getElem?_eq_some_iff.1 hj).1; simpa using this
  rw [cell_of_row _ _ _ _ _ _ h]
  rcases j with _ | _ | _ | _ | _ | _ | _ | _ | _ | _ | _ | _ | _ | _ | _ | _ | j <;> first | (exact hj) | omega
set_option maxRecDepth 100000 in
set_option maxHeartbeats 1000000 in
theorem scAdd (kd : Kd) (B : Nat) (w : World) (q : Nat) (M : WorM) (ops : List OpM) (fuel : Int) (b off c : Nat) (h : WorS kd B w q M) (hB : B ≤ w.heap.size) (hb : b < w.heap.size) (hr : w.rangeAt b off (opsC ops)) (hright : rightL ops = true) (hfew : M.seats.length < 16) :
    Calls Tryz.prog 15 #[.pointer (some ⟨q, 0, none⟩), .agg #[.slice (some ⟨b, off, none⟩) ops.length c, .int .i64 0, .int .i64 0, .int .i64 0, .int .i64 0, .int .i64 0, .int .i64 0, .int .i64 0, .int .i64 0, .int .i64 0, .int .i64 0, .int .i64 0, .int .i64 0, .int .i64 0, .int .i64 0, .int .i64 0, .int .i64 0, .int .i64 fuel]] w fun en w' => en = .returned (.tuple #[.int .i64 ((M.seats.length + 1 : Nat) : Int), .int .i64 0]) ∧ WorS kd B w' q (M.add ops fuel) ∧ Lim WT B w w' := by
  have hlen : 1 ≤ ops.length ∧ ops.length ≤ 200 := by
    have h := hright
    simp only [rightL, Bool.and_eq_true, decide_eq_true_eq] at h
    exact h.1
  obtain ⟨r, ent, sv, pv, ss, ts, h⟩ := h
  obtain ⟨-, sa, sc, rfl, -⟩ := RowAt.of_owns h.seats
  obtain ⟨W, hW⟩ : ∃ W, W = w.alloc (.cells #[.slice (some ⟨b, off, none⟩) ops.length c, .int .i64 0, .int .i64 0, .int .i64 0, .int .i64 0, .int .i64 0, .int .i64 0, .int .i64 0, .int .i64 0, .int .i64 0, .int .i64 0, .int .i64 0, .int .i64 0, .int .i64 0, .int .i64 0, .int .i64 0, .int .i64 0, .int .i64 fuel] 57) := ⟨_, rfl⟩
  have hbW : Below w.heap.size w W := by rw [hW]; exact (Below.refl _ _).alloc (Nat.le_refl _) _
  have hrW : W.heap[w.heap.size]? = some (.cells #[.slice (some ⟨b, off, none⟩) ops.length c, .int .i64 0, .int .i64 0, .int .i64 0, .int .i64 0, .int .i64 0, .int .i64 0, .int .i64 0, .int .i64 0, .int .i64 0, .int .i64 0, .int .i64 0, .int .i64 0, .int .i64 0, .int .i64 0, .int .i64 0, .int .i64 0, .int .i64 fuel] 57 (0, 0)) := by rw [hW]; exact Go.heap_alloc_new _ _
  have hq : q < w.heap.size := block_lt h.blk
  have C1 := Lib.hid (scGood q r W (h.below hbW).cells.1)
  have hops : ∀ U, Below w.heap.size w U → b < U.heap.size ∧ U.rangeAt b off (opsC ops) := fun U hU => ⟨Nat.lt_of_lt_of_le hb hU.size, fun j v hj => (hU.cell (p := ⟨b, off + j, none⟩) hb).trans (hr j v hj)⟩
  have C2 := Lib.hid (fun (U : World) (hU : Below w.heap.size w U) => Right_any (some ⟨b, off, none⟩) c ops U (by omega) (fun _ => ⟨b, off, rfl, ops_of_range (hops U hU).1 (hops U hU).2⟩))
  rw [hright] at C2
  have C3 := Lib.hid (fun (U : World) (hU : Below w.heap.size w U) => clone25 (.slice (some ⟨b, off, none⟩) ops.length c) ops.length (opsC ops) U ⟨opsC_length ops, some ⟨b, off, none⟩, c, rfl, fun _ => ⟨b, off, rfl, hops U hU⟩⟩ (opsC_one ops) (by omega))
  have HH := Lib.hid h
  have HRW := Lib.hid hrW
  have HBW := Lib.hid hbW
  have HF := Lib.hid (And.intro hright (And.intro hlen h.len))
  have hln := h.len
  have hs16 : (ss.length : Int) < 16 := by omega
  have e0 := cell_of_row _ _ 0 _ _ _ hrW
  have d2 := (h.below hbW).cells.2.2.1
  clear hb hr hright hops h hln hlen
  obtain ⟨i0, z, hi, hz0, hz1, hz2, hz3⟩ := info_82
  go_enter Tryz.func15, Tryz.ntmps15
  go_wp2_with fail
  rw [← hW]
  clear hW
  refine (C1.out).mono ?_
  rintro en y ⟨rfl, rfl⟩
  have C2' := Lib.hid (C2.out W hbW)
  clear hbW hrW
  go_wp2_with fail
  refine (C2'.out).mono ?_
  rintro en y ⟨rfl, hby⟩
  have HBY := Lib.hid (HBW.out.trans (hby.mono HBW.out.size))
  have HRY := Lib.hid ((hby.block _ (block_lt HRW.out)).trans HRW.out)
  have C3' := Lib.hid (C3.out y HBY.out)
  have e0 := cell_of_row _ _ 0 _ _ _ HRY.out
  have ef := fun j => frozen_of_row _ _ j _ _ HRY.out
  have d2 := (HH.out.below HBY.out).cells.2.2.1
  clear hby C2 C2' C3
  go_wp2_with fail
  refine (C3'.out).mono ?_
  rintro en y2 ⟨v', rfl, hown, hby⟩
  obtain ⟨-, va, vc, rfl, -⟩ := RowAt.of_owns hown
  have HBY2 := Lib.hid (HBY.out.trans (hby.mono HBY.out.size))
  have HRY2 := Lib.hid ((hby.block _ (block_lt HRY.out)).trans HRY.out)
  have HOWN := Lib.hid (owns_mono hown (Nat.le_trans hB HBY.out.size))
  clear hby hown C3' e0 ef d2
  have e0 := cell_of_row _ _ 0 _ _ _ HRY2.out
  have ef := fun j => frozen_of_row _ _ j _ _ HRY2.out
  go_upto_region 8 with fail
  have hch : Chg (fun b => b = w.heap.size) y2 (y2.setCell ⟨w.heap.size, 0, none⟩ (.slice va ops.length vc)) := Chg.setCell (F := fun b => b = w.heap.size) (Chg.refl _ _) (p := ⟨w.heap.size, 0, none⟩) (.inl rfl) _
  have hx := heap_setCell_same y2 w.heap.size 0 _ _ (.slice va ops.length vc) HRY2.out
  have hbx : Below w.heap.size w (y2.setCell ⟨w.heap.size, 0, none⟩ (.slice va ops.length vc)) := HBY2.out.setCell (p := ⟨w.heap.size, 0, none⟩) (Nat.le_refl _) _
  have hox := owns_chg HOWN.out hch (fun b cs hb hs => by subst hb; rw [HRY2.out] at hs; cases hs)
  generalize y2.setCell ⟨w.heap.size, 0, none⟩ (.slice va ops.length vc) = X at *
  have HX := Lib.hid (show X.heap[w.heap.size]? = some (.cells #[(.slice va ops.length vc), .int .i64 0, .int .i64 0, .int .i64 0, .int .i64 0, .int .i64 0, .int .i64 0, .int .i64 0, .int .i64 0, .int .i64 0, .int .i64 0, .int .i64 0, .int .i64 0, .int .i64 0, .int .i64 0, .int .i64 0, .int .i64 0, .int .i64 fuel] 57 (0, 0)) from hx)
  have HBX := Lib.hid hbx
  have HOX := Lib.hid hox
  clear hch hx hbx hox e0 ef HOWN HRY2 HBY2 HRY HBY HRW HBW
  have hwx := HH.out.below HBX.out.drew
  obtain ⟨-, ob, oo, eo, hxo⟩ := RowAt.of_owns HOX.out
  have hva : ∃ b2 off2, va = some ⟨b2, off2, none⟩ ∧ b2 < X.heap.size ∧ X.rangeAt b2 off2 (opsC ops) := by
    simp only [Value.slice.injEq] at eo
    obtain ⟨rfl, -, -⟩ := eo
    exact hxo (by have := HF.out.2.1; omega)
  obtain ⟨b2, off2, rfl, hb2, hr2⟩ := hva
  have hrx : X.drew.heap[w.heap.size]? = some (.cells #[(.slice (some ⟨b2, off2, none⟩) ops.length vc), .int .i64 0, .int .i64 0, .int .i64 0, .int .i64 0, .int .i64 0, .int .i64 0, .int .i64 0, .int .i64 0, .int .i64 0, .int .i64 0, .int .i64 0, .int .i64 0, .int .i64 0, .int .i64 0, .int .i64 0, .int .i64 0, .int .i64 fuel] 57 (0, 0)) := HX.out
  have HRX := Lib.hid hrx
  have HWX := Lib.hid hwx
  clear eo hxo
  have C4 := Lib.hid (thNew B ops fuel r b2 off2 vc X.drew (Nat.le_trans hB HBX.out.size) hb2 hr2 HF.out.1)
  clear hb2 hr2
  have hS0 : (fun w' : World => w'.cell? ⟨q, 0, none⟩ = some (.pointer (some ⟨r, 0, none⟩)) ∧ w'.cell? ⟨q, 2, none⟩ = some (.slice sa ss.length sc) ∧ w'.cell? ⟨w.heap.size, 0, none⟩ = some (.slice (some ⟨b2, off2, none⟩) ops.length vc) ∧ w'.cell? ⟨w.heap.size, 17, none⟩ = some (.int .i64 fuel) ∧ w'.rangeAt w.heap.size 1 [.int .i64 0, .int .i64 0, .int .i64 0, .int .i64 0, .int .i64 0, .int .i64 0, .int .i64 0, .int .i64 0, .int .i64 0, .int .i64 0, .int .i64 0, .int .i64 0, .int .i64 0, .int .i64 0, .int .i64 0, .int .i64 0] ∧ w'.rangeAt w.heap.size 0 [(.slice (some ⟨b2, off2, none⟩) ops.length vc), .int .i64 0, .int .i64 0, .int .i64 0, .int .i64 0, .int .i64 0, .int .i64 0, .int .i64 0, .int .i64 0, .int .i64 0, .int .i64 0, .int .i64 0, .int .i64 0, .int .i64 0, .int .i64 0, .int .i64 0, .int .i64 0, .int .i64 fuel]) X.drew := ⟨hwx.cells.1, hwx.cells.2.2.1, cell_of_row _ _ 0 _ _ _ hrx, cell_of_row _ _ 17 _ _ _ hrx, range1 hrx, range_of_block hrx⟩
  refine zRegion 24 (S := (fun w' : World => w'.cell? ⟨q, 0, none⟩ = some (.pointer (some ⟨r, 0, none⟩)) ∧ w'.cell? ⟨q, 2, none⟩ = some (.slice sa ss.length sc) ∧ w'.cell? ⟨w.heap.size, 0, none⟩ = some (.slice (some ⟨b2, off2, none⟩) ops.length vc) ∧ w'.cell? ⟨w.heap.size, 17, none⟩ = some (.int .i64 fuel) ∧ w'.rangeAt w.heap.size 1 [.int .i64 0, .int .i64 0, .int .i64 0, .int .i64 0, .int .i64 0, .int .i64 0, .int .i64 0, .int .i64 0, .int .i64 0, .int .i64 0, .int .i64 0, .int .i64 0, .int .i64 0, .int .i64 0, .int .i64 0, .int .i64 0] ∧ w'.rangeAt w.heap.size 0 [(.slice (some ⟨b2, off2, none⟩) ops.length vc), .int .i64 0, .int .i64 0, .int .i64 0, .int .i64 0, .int .i64 0, .int .i64 0, .int .i64 0, .int .i64 0, .int .i64 0, .int .i64 0, .int .i64 0, .int .i64 0, .int .i64 0, .int .i64 0, .int .i64 0, .int .i64 0, .int .i64 fuel])) (by kernel_rfl) hS0 (fun hHeld => ?_)
  clear hS0 hwx hrx
  refine zd 0 (v := ?_) ?_ ?_
  rotate_left
  · rintro w ⟨hS1, hS2, hS3, hS4, hS5, hS6⟩; go_simp; try with_reducible rfl
  simp only [Act.put, pt1, pt2, pt3]
  refine zd 1 (v := ?_) ?_ ?_
  rotate_left
  · rintro w ⟨hS1, hS2, hS3, hS4, hS5, hS6⟩; go_simp; try with_reducible rfl
  simp only [Act.put, pt1, pt2, pt3]
  refine zd 2 (v := ?_) ?_ ?_
  rotate_left
  · rintro w ⟨hS1, hS2, hS3, hS4, hS5, hS6⟩; go_simp; try with_reducible rfl
  simp only [Act.put, pt1, pt2, pt3]
  refine zd 3 (v := ?_) ?_ ?_
  rotate_left
  · rintro w ⟨hS1, hS2, hS3, hS4, hS5, hS6⟩; go_simp; try with_reducible rfl
  simp only [Act.put, pt1, pt2, pt3]
  refine zd 4 (v := ?_) ?_ ?_
  rotate_left
  · rintro w ⟨hS1, hS2, hS3, hS4, hS5, hS6⟩; go_simp; try with_reducible rfl
  simp only [Act.put, pt1, pt2, pt3]
  refine zd 5 (v := ?_) ?_ ?_
  rotate_left
  · rintro w ⟨hS1, hS2, hS3, hS4, hS5, hS6⟩; go_simp; try with_reducible rfl
  simp only [Act.put, pt1, pt2, pt3]
  refine zd 6 (v := ?_) ?_ ?_
  rotate_left
  · rintro w ⟨hS1, hS2, hS3, hS4, hS5, hS6⟩; go_simp; try with_reducible rfl
  simp only [Act.put, pt1, pt2, pt3]
  refine zd 7 (v := ?_) ?_ ?_
  rotate_left
  · rintro w ⟨hS1, hS2, hS3, hS4, hS5, hS6⟩; go_simp; try with_reducible rfl
  simp only [Act.put, pt1, pt2, pt3]
  refine zd 8 (v := ?_) ?_ ?_
  rotate_left
  · rintro w ⟨hS1, hS2, hS3, hS4, hS5, hS6⟩; go_simp; try with_reducible rfl
  simp only [Act.put, pt1, pt2, pt3]
  refine zd 9 (v := ?_) ?_ ?_
  rotate_left
  · rintro w ⟨hS1, hS2, hS3, hS4, hS5, hS6⟩; go_simp; try with_reducible rfl
  simp only [Act.put, pt1, pt2, pt3]
  refine zd 10 (v := ?_) ?_ ?_
  rotate_left
  · rintro w ⟨hS1, hS2, hS3, hS4, hS5, hS6⟩; go_simp; try with_reducible rfl
  simp only [Act.put, pt1, pt2, pt3]
  refine zd 11 (v := ?_) ?_ ?_
  rotate_left
  · rintro w ⟨hS1, hS2, hS3, hS4, hS5, hS6⟩; go_simp; try with_reducible rfl
  simp only [Act.put, pt1, pt2, pt3]
  refine zd 12 (v := ?_) ?_ ?_
  rotate_left
  · rintro w ⟨hS1, hS2, hS3, hS4, hS5, hS6⟩; go_simp; try with_reducible rfl
  simp only [Act.put, pt1, pt2, pt3]
  refine zLong 13 55 _ w.heap.size 1 [.int .i64 0, .int .i64 0, .int .i64 0, .int .i64 0, .int .i64 0, .int .i64 0, .int .i64 0, .int .i64 0, .int .i64 0, .int .i64 0, .int .i64 0, .int .i64 0, .int .i64 0, .int .i64 0, .int .i64 0, .int .i64 0] _ rfl rfl (by kernel_rfl) (by kernel_rfl) (by kernel_rfl) (by kernel_rfl) (fun _ _ _ h => h) (by rfl) rfl Tryz.underlying55 rfl (by kernel_rfl) (fun _ h => h.2.2.2.2.1) (by assumption) ?_
  simp only [Act.put, pt1, pt2, pt3]
  refine zd 14 (v := ?_) ?_ ?_
  rotate_left
  · rintro w ⟨hS1, hS2, hS3, hS4, hS5, hS6⟩; go_simp; try with_reducible rfl
  simp only [Act.put, pt1, pt2, pt3]
  refine zd 15 (v := ?_) ?_ ?_
  rotate_left
  · rintro w ⟨hS1, hS2, hS3, hS4, hS5, hS6⟩; go_simp; try with_reducible rfl
  simp only [Act.put, pt1, pt2, pt3]
  refine zLong 17 57 _ w.heap.size 0 [(.slice (some ⟨b2, off2, none⟩) ops.length vc), .int .i64 0, .int .i64 0, .int .i64 0, .int .i64 0, .int .i64 0, .int .i64 0, .int .i64 0, .int .i64 0, .int .i64 0, .int .i64 0, .int .i64 0, .int .i64 0, .int .i64 0, .int .i64 0, .int .i64 0, .int .i64 0, .int .i64 fuel] _ rfl rfl (by kernel_rfl) (by kernel_rfl) (by kernel_rfl) (by kernel_rfl) (fun _ _ _ h => h) (by rfl) rfl Tryz.underlying57 rfl (by kernel_rfl) (fun _ h => h.2.2.2.2.2) (by assumption) ?_
  simp only [Act.put, pt1, pt2, pt3]
  refine zcl 16 (fun K' hK => ?_)
  go_simp
  go_at_call 36
  refine (C4.out).mono ?_
  rintro en y3 ⟨t, rfl, hlt, hth, hby⟩
  have hbyw := HBX.out.drew.trans (hby.mono HBX.out.drew.size)
  have HW3 := Lib.hid (HWX.out.below hby)
  have HR3 := Lib.hid ((hby.block _ (block_lt HRX.out)).trans HRX.out)
  have HO3 := Lib.hid (owns_keep (w' := y3) HOX.out (fun g _ hl => hby.block g hl))
  have HT3 := Lib.hid (And.intro hth (And.intro hlt hbyw))
  have hts : ∀ t' ∈ ts, t' ≠ t := fun t' ht' e => by
    obtain ⟨i, hi⟩ := List.getElem?_of_mem ht'
    have hlt2 : i < M.seats.length := by rw [← HH.out.len2]; exact (List.getElem?_eq_some_iff.1 hi).1
    have := (HWX.out.each i _ t' _ (List.getElem?_eq_getElem (by rw [HH.out.len]; exact hlt2)) hi (List.getElem?_eq_getElem hlt2)).thr
    obtain ⟨ov, hov⟩ := this
    have := block_lt hov.row
    omega
  have HTS := Lib.hid hts
  have hszy : w.heap.size < y3.heap.size := block_lt HR3.out
  have hsz3 : X.drew.heap.size ≤ y3.heap.size := hby.size
  clear hth hlt hby hbyw hts C4
  go_wp2_with fail
  refine hK.out _ _ ?_ (fun hHeld => ?_)
  · exact ⟨HW3.out.cells.1, HW3.out.cells.2.2.1, cell_of_row _ _ 0 _ _ _ HR3.out, cell_of_row _ _ 17 _ _ _ HR3.out, range1 HR3.out, range_of_block HR3.out⟩
  clear hK K'
  try simp only [Act.put, pt1, pt2, pt3]
  refine zDo 18 (v := .agg (seatC t (.slice (some ⟨b2, off2, none⟩) ops.length vc) fuel 0)) rfl (by kernel_rfl) (by kernel_rfl) (by kernel_rfl) (by kernel_rfl) (fun _ _ _ h => h) (by rfl) (by assumption) ?_ ?_
  · intro w hS; kernel_rfl
  simp only [Act.put, pt1, pt2, pt3]
  refine zcl 19 (fun K' hK => ?_)
  go_simp
  have hb4 : Below y3.heap.size y3 (y3.alloc (.cells (seatC t (.slice (some ⟨b2, off2, none⟩) ops.length vc) fuel 0) 86)) := (Below.refl _ _).alloc (Nat.le_refl _) _
  have hx4 := Go.heap_alloc_new y3 (.cells (seatC t (.slice (some ⟨b2, off2, none⟩) ops.length vc) fuel 0) 86)
  obtain ⟨sn, hsn⟩ : ∃ sn, sn = y3.heap.size := ⟨_, rfl⟩
  rw [← hsn] at hx4 ⊢
  generalize y3.alloc (.cells (seatC t (.slice (some ⟨b2, off2, none⟩) ops.length vc) fuel 0) 86) = y4 at *
  have HW4 := Lib.hid (HW3.out.below hb4)
  have HR4 := Lib.hid ((hb4.block _ (block_lt HR3.out)).trans HR3.out)
  have HO4 := Lib.hid (owns_keep (w' := y4) HO3.out (fun g _ hl => hb4.block g hl))
  have HT4 := Lib.hid (HT3.out.1.lim (E := fun _ => false) (B' := B) (Lim.of_below hb4) rfl rfl)
  have HB4 := Lib.hid (HT3.out.2.2.trans (hb4.mono (Nat.le_of_lt hszy)))
  have HX4 := Lib.hid hx4
  have hsnw : w.heap.size < sn := by omega
  have hw4 : w.heap.size ≤ y4.heap.size := HB4.out.size
  clear hb4 hx4 HW3 HR3 HO3 hsn hszy hsz3
  refine hK.out _ _ ?_ (fun hHeld => ?_)
  · exact ⟨HW4.out.cells.1, HW4.out.cells.2.2.1, cell_of_row _ _ 0 _ _ _ HR4.out, cell_of_row _ _ 17 _ _ _ HR4.out, range1 HR4.out, range_of_block HR4.out⟩
  clear hK K'
  try simp only [Act.put, pt1, pt2, pt3]
  refine zcl 20 (fun K' hK => ?_)
  go_simp
  have hb5 : Below y4.heap.size y4 (y4.alloc (.cells #[.pointer (some ⟨sn, 0, none⟩)] 82)) := (Below.refl _ _).alloc (Nat.le_refl _) _
  have hx5 := Go.heap_alloc_new y4 (.cells #[.pointer (some ⟨sn, 0, none⟩)] 82)
  obtain ⟨pn, hpn⟩ : ∃ pn, pn = y4.heap.size := ⟨_, rfl⟩
  rw [← hpn] at hx5 ⊢
  generalize y4.alloc (.cells #[.pointer (some ⟨sn, 0, none⟩)] 82) = y5 at *
  have HW5 := Lib.hid (HW4.out.below hb5)
  have HR5 := Lib.hid ((hb5.block _ (block_lt HR4.out)).trans HR4.out)
  have HO5 := Lib.hid (owns_keep (w' := y5) HO4.out (fun g _ hl => hb5.block g hl))
  have HT5 := Lib.hid (HT4.out.lim (E := fun _ => false) (B' := B) (Lim.of_below hb5) rfl rfl)
  have HB5 := Lib.hid (HB4.out.trans (hb5.mono hw4))
  clear hpn
  have HX5 := Lib.hid ((hb5.block _ (block_lt HX4.out)).trans HX4.out)
  have hp5 := hx5
  clear hb5 hx5 HW4 HR4 HO4 HT4 HB4 HX4
  refine hK.out _ _ ?_ (fun hHeld => ?_)
  · exact ⟨HW5.out.cells.1, HW5.out.cells.2.2.1, cell_of_row _ _ 0 _ _ _ HR5.out, cell_of_row _ _ 17 _ _ _ HR5.out, range1 HR5.out, range_of_block HR5.out⟩
  clear hK K'
  try simp only [Act.put, pt1, pt2, pt3]
  have hol := HW5.out.seats
  refine zcl 21 (fun K' hK => ?_)
  rw [if_pos (by rfl)]
  refine wp_append_own _ _ _ 75 rfl B 82 i0 z 1 8 Tryz.underlying75 hi hz0 hz1 hz2 hz3 (by decide) (.slice sa ss.length sc) ss.length (ptrsC ss) rfl hol ⟨pn, 0, none⟩ 1 1 [.pointer (some ⟨sn, 0, none⟩)] rfl rfl (fun j u hj => by
    have hj0 : j = 0 := by
      rcases j with _ | j
      · rfl
      · simp at hj
    subst hj0
    cases hj
    exact cell_of_row _ _ 0 _ _ _ hp5) (by intro u hu; simp at hu; subst hu; rfl) (by have := HF.out.2.2; unfold maxLen; omega) (by have := HF.out.2.2; omega) (by have := HB5.out.size; omega) ?_
  intro wv' w9 hown9 hgrow9 _
  have hl9 : Lim (fun t => t == 82) B y5 w9 := Chg.weak (F := fun b => (Value.slice sa ss.length sc).ownBlock = some b) (G := InT (fun t => t == 82) B y5) ((Chg.refl _ _).grown hgrow9 (fun k e => .inl e)) fun j hj => .inl (by
    obtain ⟨_, h2⟩ := hol
    rcases h2 with ⟨e, _⟩ | ⟨b', cap, cur, e1, hb', hg, rest⟩
    · rw [e] at hj; cases hj
    · rw [e1] at hj
      simp only [Value.ownBlock, Option.some.injEq] at hj
      subst hj
      exact ⟨hb', _, _, _, hg, rfl⟩)
  obtain ⟨-, wa, wc, rfl, -⟩ := RowAt.of_owns hown9
  have hsB : B ≤ sn := by omega
  have hse : SeatI B w9 sn t r ⟨ThrM.new ops fuel, 0⟩ := ⟨hsB, ⟨_, block_lim HX5.out hl9 rfl, owns_lim HO5.out hl9 rfl⟩, HT5.out.lim hl9 rfl rfl⟩
  have hss : ∀ s' ∈ ss, s' ≠ sn := fun s' hs' e => by
    obtain ⟨i, hi⟩ := List.getElem?_of_mem hs'
    have hlt2 : i < M.seats.length := by rw [← HH.out.len]; exact (List.getElem?_eq_some_iff.1 hi).1
    have hse := (HH.out.each i s' _ _ hi (List.getElem?_eq_getElem (by rw [HH.out.len2]; exact hlt2)) (List.getElem?_eq_getElem hlt2)).cells.1
    have := block_lt_of_cell hse
    simp only at this
    omega
  have hadd := HW5.out.added hl9 (show w9.ownsRow B 82 1 (.slice wa (ss.length + 1) wc) (ss.length + 1) (ptrsC (ss ++ [sn])) from by rw [show ptrsC (ss ++ [sn]) = ptrsC ss ++ [.pointer (some ⟨sn, 0, none⟩)] by simp [ptrsC, ptrV]]; exact hown9) hse hss HTS.out hfew
  have hrow9 := block_lim HR5.out hl9 rfl
  have hblk9 := block_lim HW5.out.blk hl9 rfl
  have d0 := cell_of_row _ _ 0 _ _ _ hblk9
  have d2 := cell_of_row _ _ 2 _ _ _ hblk9
  have df := fun j => frozen_of_row _ _ j _ _ hblk9
  have HA := Lib.hid (And.intro hadd ((Lim.of_below (E := WT) (B := B) HB5.out).trans (wt_of hl9 (fun t ht => by simp at ht; subst ht; rfl))))
  have HR9 := Lib.hid hrow9
  clear hadd hrow9 hblk9 hse hl9 hgrow9 hown9 hol
  refine hK.out _ _ ?_ (fun hHeld => ?_)
  · exact ⟨d0, d2, cell_of_row _ _ 0 _ _ _ HR9.out, cell_of_row _ _ 17 _ _ _ HR9.out, range1 HR9.out, range_of_block HR9.out⟩
  clear hK K'
  try simp only [Act.put, pt1, pt2, pt3]
  refine zcl 22 (fun K' hK => ?_)
  go_simp
  refine hK.out _ _ (by assumption) (fun hHeld => ?_)
  clear hK K'
  try simp only [Act.put, pt1, pt2, pt3]
  refine zcl 23 (fun K' hK => ?_)
  go_simp
  refine hK.out _ _ (by assumption) (fun hHeld => ?_)
  clear hK K'
  try simp only [Act.put, pt1, pt2, pt3]
  refine zla (fun K' hK => ?_)
  go_simp
  refine hK.out _ _ ?_
  clear hK K'
  try simp only [Act.put, pt1, pt2, pt3]
  go_wp2_with fail
  go_ret2
  refine ⟨?_, ⟨r, ent, _, pv, _, _, HA.out.1.1⟩, HA.out.2.trans (wt_of HA.out.1.2 (fun t ht => by simp at ht; subst ht; rfl))⟩
  rw [← HF.out.2.2]
  rfl
end Go.Proofs.YteflpdhgojcmcaaGreatDoor
namespace Go.Proofs.YteflpdhgojcmcaaGreatDoor
open Go.RowKit PSet PMat
def EngM.new (n : Nat) : EngM := ⟨List.replicate n (1, 0), 0, none, []⟩
theorem gsNew (z n : Nat) (w : World) (hz : z = 3 ∨ z = 4) (hn : 1 ≤ n ∧ n ≤ 64) :
    Calls Tryz.prog 31 #[.int .i64 z, .int .i64 n] w fun e w' => ∃ g, e = .returned (.pointer (some ⟨g, 0, none⟩)) ∧ w.heap.size ≤ g ∧ GrS w.heap.size w' g (EngM.new n) ∧ Below w.heap.size w w' := by
  refine (grNew z n w (by omega) hn).mono ?_
  rintro e w' ⟨g, v, rfl, hg, hE, hown, hne, hb⟩
  refine ⟨g, rfl, hg, ⟨newP z, v, zeroWorks, .slice none 0 0, 0, List.replicate n newVar, [], z, ?_⟩, hb⟩
  exact {
    eng := hE
    base := hg
    one := newP_one z
    size := rfl
    zz := hz
    live := rfl
    done := rfl
    cnt := rfl
    few := Nat.zero_le _
    mat := rfl
    ord := rfl
    store := by rw [List.length_replicate]; exact hown
    vals := by simp [EngM.new, newVar]
    norm := fun m hm => by
      obtain ⟨_, rfl⟩ := List.mem_replicate.1 hm
      exact ⟨rfl, .inl rfl, rfl⟩
    len := by simp; exact hn.2
    log := ⟨rfl, .inl ⟨rfl, rfl⟩⟩
    logs := rfl
    lfew := Nat.zero_le _
    tx := fun t ht => by cases ht }
theorem csNew (z n : Nat) (w : World) (hz : 1 ≤ z ∧ z ≤ 32) (hn : 1 ≤ n ∧ n ≤ 64) :
    Calls Tryz.prog 28 #[.int .i64 z, .int .i64 n] w fun e w' => ∃ g, e = .returned (.pointer (some ⟨g, 0, none⟩)) ∧ w.heap.size ≤ g ∧ ClS w.heap.size w' g (EngM.new n) ∧ Below w.heap.size w w' := by
  refine (clNew z n w hz hn).mono ?_
  rintro e w' ⟨g, v, rfl, hg, hE, hown, hne, hb⟩
  refine ⟨g, rfl, hg, ⟨z, 0, v, .slice none 0 0, [], List.replicate n newVar, ?_⟩, hb⟩
  exact {
    eng := hE
    base := hg
    pos := hz.1
    store := by rw [List.length_replicate]; exact hown
    vals := by simp [EngM.new, newVar]
    norm := fun m hm => by
      obtain ⟨_, rfl⟩ := List.mem_replicate.1 hm
      exact ⟨by decide, rfl⟩
    len := by simp; exact hn.2
    works := ⟨rfl, .inl ⟨rfl, rfl⟩⟩
    cnt := rfl
    few := Nat.zero_le _
    clkb := by simp [EngM.new]
    nodup := by simp
    each := fun k hk => by cases hk
    over := fun i k hk => by simp at hk
    tx := fun t ht => by cases ht }
end Go.Proofs.YteflpdhgojcmcaaGreatDoor
namespace Go.Proofs.YteflpdhgojcmcaaGreatDoor
open Go.RowKit PSet PMat
def WorM.new (n : Nat) (tries : Int) : WorM := ⟨EngM.new n, [], [], none, true, tries⟩
theorem WorI.begin {kd : Kd} {B : Nat} {w : World} {q r : Nat} {ent : Value} {n : Nat} {tries : Int} (hq : w.heap[q]? = some (.cells #[.pointer (some ⟨r, 0, none⟩), ent, .slice none 0 0, .slice none 0 0, .slice none 0 0, .int .i64 tries] 81 (0, 0))) (hB : B ≤ q) (he : EntAt kd w ent)
    (hr : w.heap[r]? = some (.cells #[.iface (engT kd.b) (.pointer (some ⟨kd.g, 0, none⟩)), .slice none 0 0] 128 (0, 0))) (hBr : B ≤ r) (hg : EngS kd.b B w kd.g (EngM.new n)) : WorI kd B w q r ent (.slice none 0 0) (.slice none 0 0) [] [] (WorM.new n tries) where
  blk := hq
  base := hB
  ent1 := he
  rec_ := ⟨.slice none 0 0, hr, hBr, hg, ⟨rfl, .inl ⟨rfl, rfl⟩⟩, Nat.zero_le _⟩
  seats := ⟨rfl, .inl ⟨rfl, rfl⟩⟩
  len := rfl
  len2 := rfl
  nod := by simp
  nod2 := by simp
  each := fun i s t m hs => by simp at hs
  park := ⟨rfl, .inl ⟨rfl, rfl⟩⟩
  fresh := fun _ => rfl
  few := Nat.zero_le _
theorem ClS.base {B B' : Nat} {w : World} {g : Nat} {e : EngM} (h : ClS B w g e) (hB : B' ≤ B) : ClS B' w g e := by
  obtain ⟨many, clk, v, wv, ks, s, h⟩ := h
  have htx : ∀ t, e.live = some t → 1 ≤ e.cnt ∧ ∃ k ta tc, ks[e.cnt - 1]? = some k ∧ WorkAt w k (.slice ta (optN t) tc) clk false false ∧ w.ownsRow B' 155 4 (.slice ta (optN t) tc) (optN t) (optC t) ∧ (t = none → ta = none ∧ tc = 0) ∧ ∀ st, t = some st → 0 ≤ st.x ∧ st.x < s.length ∧ rightV st.k st.n = true := by
    intro t ht
    obtain ⟨a1, k, ta, tc, a2, a3, a4, a5⟩ := h.tx t ht
    exact ⟨a1, k, ta, tc, a2, a3, owns_mono a4 hB, a5⟩
  exact ⟨many, clk, v, wv, ks, s, { h with base := Nat.le_trans hB h.base, store := owns_mono h.store hB, works := owns_mono h.works hB, each := fun k hk => Nat.le_trans hB (h.each k hk), tx := htx }⟩
set_option maxRecDepth 100000 in
theorem scNewClock (z n : Nat) (tries : Int) (w : World) (hz : 1 ≤ z ∧ z ≤ 32) (hn : 1 ≤ n ∧ n ≤ 64) (ht : 1 ≤ tries) :
    Calls Tryz.prog 14 #[.bool true, .int .i64 z, .int .i64 n, .int .i64 tries] w fun en w' => ∃ q g, en = .returned (.pointer (some ⟨q, 0, none⟩)) ∧ WorS ⟨true, g⟩ w.heap.size w' q (WorM.new n tries) ∧ Below w.heap.size w w' := by
  obtain ⟨W, hW⟩ : ∃ W, W = w.alloc (.cells #[.pointer none, .nilFunc, .slice none 0 0, .slice none 0 0, .slice none 0 0, .int .i64 tries] 81) := ⟨_, rfl⟩
  have hbW : Below w.heap.size w W := by rw [hW]; exact (Below.refl _ _).alloc (Nat.le_refl _) _
  have hrW : W.heap[w.heap.size]? = some (.cells #[.pointer none, .nilFunc, .slice none 0 0, .slice none 0 0, .slice none 0 0, .int .i64 tries] 81 (0, 0)) := by rw [hW]; exact Go.heap_alloc_new _ _
  have C1 := Lib.hid (csNew z n W hz hn)
  have HRW := Lib.hid hrW
  have HBW := Lib.hid hbW
  clear hbW hrW
  go_enter Tryz.func14, Tryz.ntmps14
  go_wp2_with fail
  rw [← hW]
  clear hW
  refine (C1.out).mono ?_
  rintro en y ⟨g, rfl, hg, hE, hby⟩
  have HY := Lib.hid (And.intro hg (And.intro hE hby))
  have hry := (hby.block _ (block_lt HRW.out)).trans HRW.out
  have C2 := Lib.hid (reRecord 98 (.pointer (some ⟨g, 0, none⟩)) y rfl)
  have HRY := Lib.hid hry
  have q0 := cell_of_row _ _ 0 _ _ _ hry
  have q1 := cell_of_row _ _ 1 _ _ _ hry
  have hlt := block_lt hry
  clear hg hE hby hry
  go_wp2_with fail
  refine (C2.out).mono ?_
  rintro en z2 ⟨rfl, hz2⟩
  have hbz : Below y.heap.size y z2 := by rw [hz2]; exact (Below.refl _ _).alloc (Nat.le_refl _) _
  have hrz : z2.heap[y.heap.size]? = some (.cells #[.iface 98 (.pointer (some ⟨g, 0, none⟩)), .slice none 0 0] 128 (0, 0)) := by rw [hz2]; exact Go.heap_alloc_new _ _
  obtain ⟨rn, hrn⟩ : ∃ rn, rn = y.heap.size := ⟨_, rfl⟩
  have hrq : w.heap.size < rn := by rw [hrn]; exact hlt
  have hqz := (hbz.block _ hlt).trans HRY.out
  have HE := Lib.hid (HY.out.2.1.lim (E := fun _ => false) (B' := W.heap.size) (Lim.of_below hbz) rfl rfl rfl rfl rfl)
  have HB := Lib.hid ((HBW.out.trans (HY.out.2.2.mono HBW.out.size)).trans (hbz.mono (Nat.le_of_lt hlt)))
  rw [← hrn] at hrz ⊢
  have q0 := cell_of_row _ _ 0 _ _ _ hqz
  have q1 := cell_of_row _ _ 1 _ _ _ hqz
  have qf := fun j => frozen_of_row _ _ j _ _ hqz
  have HZ := Lib.hid (And.intro hqz hrz)
  clear hz2 hbz hrz hqz hrn
  go_wp2_with fail
  go_ret
  have h1 := heap_setCell_same _ w.heap.size 1 _ _ (.func (.func 30) #[.pointer (some ⟨g, 0, none⟩)] #[]) (heap_setCell_same z2 w.heap.size 0 _ _ (.pointer (some ⟨rn, 0, none⟩)) HZ.out.1)
  have hc : Chg (fun b => b = w.heap.size) z2 ((z2.setCell ⟨w.heap.size, 0, none⟩ (.pointer (some ⟨rn, 0, none⟩))).setCell ⟨w.heap.size, 1, none⟩ (.func (.func 30) #[.pointer (some ⟨g, 0, none⟩)] #[])) := Chg.setCell (F := fun b => b = w.heap.size) (Chg.setCell (F := fun b => b = w.heap.size) (Chg.refl _ _) (p := ⟨w.heap.size, 0, none⟩) (.inl rfl) _) (p := ⟨w.heap.size, 1, none⟩) (.inl rfl) _
  have hl : Lim (fun t => t == 81) w.heap.size z2 _ := Chg.weak (F := fun b => b = w.heap.size) (G := InT (fun t => t == 81) w.heap.size z2) hc fun j hj => .inl (by subst hj; exact ⟨Nat.le_refl _, _, _, _, HZ.out.1, rfl⟩)
  refine ⟨w.heap.size, g, rfl, ⟨rn, _, _, _, _, _, WorI.begin (kd := ⟨true, g⟩) h1 (Nat.le_refl _) ⟨rfl, rfl⟩ (block_lim HZ.out.2 hl rfl) (Nat.le_of_lt hrq) ?_⟩, (HB.out.setCell (p := ⟨w.heap.size, 0, none⟩) (Nat.le_refl _) _).setCell (p := ⟨w.heap.size, 1, none⟩) (Nat.le_refl _) _⟩
  exact EngS.lim (kd := true) (show EngS true w.heap.size z2 g (EngM.new n) from ClS.base HE.out HBW.out.size) hl (by decide)
end Go.Proofs.YteflpdhgojcmcaaGreatDoor
