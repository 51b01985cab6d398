/- The world's parks, where nothing is stale and nobody waited yet. No conditions but those that each theorem names. -/
import Derived.Test.YteflpdhgojcmcaaGreatDoorU01
import Derived.Test.YteflpdhgojcmcaaGreatDoorU30
namespace Go.Proofs.YteflpdhgojcmcaaGreatDoor
open Go.RowKit PSet PMat
theorem SeatI.thrAt {B : Nat} {w : World} {s t r : Nat} {m : SeatM} (h : SeatI B w s t r m) : ∃ T, ThrAt w t T ∧ T[39]? = some (.int .i64 m.thr.id) ∧ T[41]? = some (.int .i64 m.thr.failed) ∧ T[42]? = some (.int .u64 (m.thr.reads : Int)) ∧ T[43]? = some (.int .u64 (m.thr.writes : Int)) := by
  obtain ⟨ov, h⟩ := h.thr
  exact ⟨_, h.at, (ThrM.row_get h.regs 1 (by omega)).trans rfl, (ThrM.row_get h.regs 3 (by omega)).trans rfl, (ThrM.row_get h.regs 4 (by omega)).trans rfl, (ThrM.row_get h.regs 5 (by omega)).trans rfl⟩
def WorM.park (M : WorM) (i : Nat) (r : Nat) : WorM := { M with parked := some (((i + 1 : Nat) : Int), (r : Int)), fresh := false }
set_option maxRecDepth 100000 in
set_option maxHeartbeats 1000000 in
theorem scParks (kd : Kd) (B : Nat) (w : World) (q r : Nat) (ent sv pv : Value) (ss ts : List Nat) (M : WorM) (i s t : Nat) (m : SeatM) (h : WorI kd B w q r ent sv pv ss ts M) (hB : B ≤ w.heap.size) (hs : ss[i]? = some s) (ht : ts[i]? = some t) (hm : M.seats[i]? = some m) (hst : m.stale = 0) (hr : m.thr.reads ≠ 0) (hr64 : m.thr.reads < 2 ^ 64) (hfr : M.fresh = true) :
    Calls Tryz.prog 78 #[.pointer (some ⟨q, 0, none⟩), .int .i64 ((i + 1 : Nat) : Int), .pointer (some ⟨s, 0, none⟩)] w fun en w' => en = .returned (.tuple #[]) ∧ WorS kd B w' q (M.park i m.thr.reads) ∧ Lim WT B w w' := by
  have hpv := h.fresh hfr
  subst hpv
  have CR := Lib.hid (fun (U : World) (hU : Below w.heap.size w U) => by
    obtain ⟨T, hT, -, -, h42, -⟩ := (((h.below hU).each i s t m hs ht hm)).thrAt
    exact thReads t T _ U hT h42)
  have CP := Lib.hid (fun (U : World) => park_nil ((i + 1 : Nat) : Int) (m.thr.reads : Int) U (by omega) (by omega))
  have HH := Lib.hid h
  have hseat := h.each i s t m hs ht hm
  obtain ⟨c0, c19, -⟩ := hseat.cells
  have c19 : w.cell? ⟨s, 19, none⟩ = some (.int .u64 0) := by rw [c19, hst]; rfl
  obtain ⟨-, -, -, c3, c4, -⟩ := h.cells
  have hq : q < w.heap.size := block_lt h.blk
  have hsl : s < w.heap.size := block_lt_of_cell c0
  have hQS : (fun w' : World => w'.cell? ⟨s, 0, none⟩ = some (.pointer (some ⟨t, 0, none⟩)) ∧ w'.cell? ⟨s, 19, none⟩ = some (.int .u64 0)) w.drew := ⟨c0, c19⟩
  have hK2 : ∀ U, Below w.heap.size w U → (U.cell? ⟨s, 0, none⟩ = some (.pointer (some ⟨t, 0, none⟩)) ∧ U.cell? ⟨s, 19, none⟩ = some (.int .u64 0)) ∧ U.cell? ⟨q, 3, none⟩ = some (.slice none 0 0) ∧ U.cell? ⟨q, 4, none⟩ = some (.slice none 0 0) := fun U hU =>
    ⟨⟨(hU.cell (p := ⟨s, 0, none⟩) hsl).trans c0, (hU.cell (p := ⟨s, 19, none⟩) hsl).trans c19⟩, (hU.cell (p := ⟨q, 3, none⟩) hq).trans c3, (hU.cell (p := ⟨q, 4, none⟩) hq).trans c4⟩
  have HK2 := Lib.hid hK2
  have hand : bits .and .u64 (0 : Int) (m.thr.reads : Int) = 0 := by
    have := u64_and_nat 0 m.thr.reads (by decide) hr64
    simpa using this
  have HB := Lib.hid hB
  have HS := Lib.hid (And.intro hs (And.intro ht hm))
  clear h hseat c0 c19 c3 c4 hK2 hB hr hr64 hs ht hm hst hfr
  generalize hid : ((i + 1 : Nat) : Int) = id at *
  generalize hrd : (m.thr.reads : Int) = rd at *
  go_enter Tryz.func78, Tryz.ntmps78
  go_upto_region 0 with fail
  refine wp_region_held_drew (S := fun w' : World => w'.cell? ⟨s, 0, none⟩ = some (.pointer (some ⟨t, 0, none⟩)) ∧ w'.cell? ⟨s, 19, none⟩ = some (.int .u64 0)) (by kernel_rfl) hQS (fun hHeld => ?_)
  clear hQS
  refine hd 0 (v := ?_) ?_ ?_
  rotate_left
  · rintro w ⟨hS1, hS2⟩; go_simp; try with_reducible rfl
  simp only [Act.put, pt1, pt2, pt3]
  refine hd 1 (v := ?_) ?_ ?_
  rotate_left
  · rintro w ⟨hS1, hS2⟩; go_simp; try with_reducible rfl
  simp only [Act.put, pt1, pt2, pt3]
  refine hd 2 (v := ?_) ?_ ?_
  rotate_left
  · rintro w ⟨hS1, hS2⟩; go_simp; try with_reducible rfl
  simp only [Act.put, pt1, pt2, pt3]
  refine hd 3 (v := ?_) ?_ ?_
  rotate_left
  · rintro w ⟨hS1, hS2⟩; go_simp; try with_reducible rfl
  simp only [Act.put, pt1, pt2, pt3]
  refine hd 4 (v := ?_) ?_ ?_
  rotate_left
  · rintro w ⟨hS1, hS2⟩; go_simp; try with_reducible rfl
  simp only [Act.put, pt1, pt2, pt3]
  refine hd 5 (v := ?_) ?_ ?_
  rotate_left
  · rintro w ⟨hS1, hS2⟩; go_simp; try with_reducible rfl
  simp only [Act.put, pt1, pt2, pt3]
  refine hd 6 (v := ?_) ?_ ?_
  rotate_left
  · rintro w ⟨hS1, hS2⟩; go_simp; try with_reducible rfl
  simp only [Act.put, pt1, pt2, pt3]
  refine hd 7 (v := ?_) ?_ ?_
  rotate_left
  · rintro w ⟨hS1, hS2⟩; go_simp; try with_reducible rfl
  simp only [Act.put, pt1, pt2, pt3]
  have hbd : Below w.heap.size w w.drew := (Below.refl _ _).drew
  have CR' := Lib.hid (CR.out w.drew hbd)
  refine hcl 8 (fun K' hK => ?_)
  go_simp
  go_at_call 127
  refine (CR'.out).mono ?_
  rintro en y ⟨rfl, hby⟩
  have HBY := Lib.hid (hbd.trans (hby.mono hbd.size))
  clear hby hbd CR'
  go_wp2_with fail
  refine hK.out _ _ ?_ (fun hHeld => ?_)
  · exact (HK2.out y HBY.out).1
  clear hK K'
  try simp only [Act.put, pt1, pt2, pt3]
  refine hd 9 (v := ?_) ?_ ?_
  rotate_left
  · rintro w ⟨hS1, hS2⟩; go_simp; try with_reducible rfl
  simp only [Act.put, pt1, pt2, pt3]
  refine hd 10 (v := ?_) ?_ ?_
  rotate_left
  · rintro w ⟨hS1, hS2⟩; go_simp; try with_reducible rfl
  simp only [Act.put, pt1, pt2, pt3]
  refine held_done (by kernel_rfl) ?_
  clear hHeld
  have hS0 : (fun w' : World => w'.cell? ⟨s, 0, none⟩ = some (.pointer (some ⟨t, 0, none⟩)) ∧ w'.cell? ⟨q, 3, none⟩ = some (.slice none 0 0) ∧ w'.cell? ⟨q, 4, none⟩ = some (.slice none 0 0)) y.drew := ⟨(HK2.out y HBY.out).1.1, (HK2.out y HBY.out).2⟩
  go_upto_region 2 with fail
  refine zRegion 17 (S := fun w' : World => w'.cell? ⟨s, 0, none⟩ = some (.pointer (some ⟨t, 0, none⟩)) ∧ w'.cell? ⟨q, 3, none⟩ = some (.slice none 0 0) ∧ w'.cell? ⟨q, 4, none⟩ = some (.slice none 0 0)) (by kernel_rfl) hS0 (fun hHeld => ?_)
  clear hS0
  refine zd 0 (v := ?_) ?_ ?_
  rotate_left
  · rintro w ⟨hS1, hS2, hS3⟩; go_simp; try with_reducible rfl
  simp only [Act.put, pt1, pt2, pt3]
  refine zd 1 (v := ?_) ?_ ?_
  rotate_left
  · rintro w ⟨hS1, hS2, hS3⟩; go_simp; try with_reducible rfl
  simp only [Act.put, pt1, pt2, pt3]
  refine zd 2 (v := ?_) ?_ ?_
  rotate_left
  · rintro w ⟨hS1, hS2, hS3⟩; go_simp; try with_reducible rfl
  simp only [Act.put, pt1, pt2, pt3]
  refine zd 3 (v := ?_) ?_ ?_
  rotate_left
  · rintro w ⟨hS1, hS2, hS3⟩; go_simp; try with_reducible rfl
  simp only [Act.put, pt1, pt2, pt3]
  refine zd 4 (v := ?_) ?_ ?_
  rotate_left
  · rintro w ⟨hS1, hS2, hS3⟩; go_simp; try with_reducible rfl
  simp only [Act.put, pt1, pt2, pt3]
  refine zd 5 (v := ?_) ?_ ?_
  rotate_left
  · rintro w ⟨hS1, hS2, hS3⟩; go_simp; try with_reducible rfl
  simp only [Act.put, pt1, pt2, pt3]
  refine zd 6 (v := ?_) ?_ ?_
  rotate_left
  · rintro w ⟨hS1, hS2, hS3⟩; go_simp; try with_reducible rfl
  simp only [Act.put, pt1, pt2, pt3]
  refine zd 7 (v := ?_) ?_ ?_
  rotate_left
  · rintro w ⟨hS1, hS2, hS3⟩; go_simp; try with_reducible rfl
  simp only [Act.put, pt1, pt2, pt3]
  refine zd 8 (v := ?_) ?_ ?_
  rotate_left
  · rintro w ⟨hS1, hS2, hS3⟩; go_simp; try with_reducible rfl
  simp only [Act.put, pt1, pt2, pt3]
  refine zd 9 (v := ?_) ?_ ?_
  rotate_left
  · rintro w ⟨hS1, hS2, hS3⟩; go_simp; try with_reducible rfl
  simp only [Act.put, pt1, pt2, pt3]
  have hbd : Below w.heap.size w y.drew := HBY.out.drew
  have CR' := Lib.hid (CR.out y.drew hbd)
  refine zcl 10 (fun K' hK => ?_)
  go_simp
  go_at_call 127
  refine (CR'.out).mono ?_
  rintro en y2 ⟨rfl, hby⟩
  have HBY2 := Lib.hid (hbd.trans (hby.mono hbd.size))
  clear hby hbd CR'
  go_wp2_with fail
  refine hK.out _ _ ?_ (fun hHeld => ?_)
  · exact ⟨(HK2.out y2 HBY2.out).1.1, (HK2.out y2 HBY2.out).2⟩
  clear hK K'
  try simp only [Act.put, pt1, pt2, pt3]
  have CP' := Lib.hid (CP.out y2)
  refine zcl 11 (fun K' hK => ?_)
  go_simp
  go_at_call 128
  refine (CP'.out).mono ?_
  rintro en y3 ⟨v', rfl, hown, hby⟩
  obtain ⟨_, va, vc, rfl, _⟩ := RowAt.of_owns hown
  have HBY3 := Lib.hid (HBY2.out.trans (hby.mono HBY2.out.size))
  have HOWN := Lib.hid (owns_mono hown (Nat.le_trans HB.out HBY2.out.size))
  clear hby CP' hown
  go_wp2_with fail
  refine hK.out _ _ ?_ (fun hHeld => ?_)
  · exact ⟨(HK2.out y3 HBY3.out).1.1, (HK2.out y3 HBY3.out).2⟩
  clear hK K'
  try simp only [Act.put, pt1, pt2, pt3]
  refine zd 12 (v := ?_) ?_ ?_
  rotate_left
  · rintro w ⟨hS1, hS2, hS3⟩; go_simp; try with_reducible rfl
  simp only [Act.put, pt1, pt2, pt3]
  refine zd 13 (v := ?_) ?_ ?_
  rotate_left
  · rintro w ⟨hS1, hS2, hS3⟩; go_simp; try with_reducible rfl
  simp only [Act.put, pt1, pt2, pt3]
  refine zp 14 (v := ?_) ?_ ?_
  rotate_left
  · intro w; go_simp; try with_reducible rfl
  simp only [Act.put, pt1, pt2, pt3]
  refine zp 15 (v := ?_) ?_ ?_
  rotate_left
  · intro w; go_simp; try with_reducible rfl
  simp only [Act.put, pt1, pt2, pt3]
  refine zd 16 (v := ?_) ?_ ?_
  rotate_left
  · rintro w ⟨hS1, hS2, hS3⟩; go_simp; try with_reducible rfl
  simp only [Act.put, pt1, pt2, pt3]
  have qf3 := frozen_of_row _ _ 3 _ _ (HH.out.below HBY3.out).blk
  have qf4 := frozen_of_row _ _ 4 _ _ (HH.out.below HBY3.out).blk
  refine zla (fun K' hK => ?_)
  go_simp
  refine hK.out _ _ ?_
  clear hK K'
  try simp only [Act.put, pt1, pt2, pt3]
  go_wp2_with fail
  subst hrd hid
  have hfin := (HH.out.below HBY3.out).setPark (o := some (((i + 1 : Nat) : Int), (m.thr.reads : Int))) (b := false) HOWN.out (by simp)
  refine bodyPost_end (results_none rfl _ _ _) rfl ⟨rfl, ⟨r, ent, sv, _, ss, ts, hfin.1⟩, (Lim.of_below (E := WT) HBY3.out).trans (wt_of hfin.2 (fun t ht => by simp at ht; subst ht; rfl))⟩
end Go.Proofs.YteflpdhgojcmcaaGreatDoor
