/- The world's stands. The world's Step, over a model. The world's Rounds, over a model. No conditions but those that each theorem names. -/
import Derived.Test.YteflpdhgojcmcaaGreatDoorU01
import Derived.Test.YteflpdhgojcmcaaGreatDoorU32
namespace Go.Proofs.YteflpdhgojcmcaaGreatDoor
open Go.RowKit PSet PMat
theorem WorI.drew {kd : Kd} {B : Nat} {w : World} {q r : Nat} {ent sv pv : Value} {ss ts : List Nat} {M : WorM} (h : WorI kd B w q r ent sv pv ss ts M) : WorI kd B w.drew q r ent sv pv ss ts M := h.below (Below.refl _ _).drew
set_option maxRecDepth 100000 in
theorem scStands10 (kd : Kd) (B : Nat) (w : World) (q r : Nat) (ent sv pv : Value) (ss ts : List Nat) (M : WorM) (i s t : Nat) (m : SeatM) (h : WorI kd B w q r ent sv pv ss ts M) (hs : ss[i]? = some s) (ht : ts[i]? = some t) (hm : M.seats[i]? = some m) (hst : m.thr.state = 1) :
    Calls Tryz.prog 39 #[.pointer (some ⟨q, 0, none⟩), .int .i64 ((i + 1 : Nat) : Int), .int .i64 0, .pointer (some ⟨s, 0, none⟩)] w fun en w' => en = .returned (.tuple #[]) ∧ WorS kd B w' q { M with seats := M.seats.set i { m with stale := 0 } } ∧ Lim WT B w w' := by
  have hseat := h.each i s t m hs ht hm
  obtain ⟨c0, c19, cf⟩ := hseat.cells
  have C1 := Lib.hid (fun (U : World) (hU : WorI kd B U q r ent sv pv ss ts M) => by
    obtain ⟨ov, hth⟩ := (hU.each i s t m hs ht hm).thr
    exact thState t m.thr.state U hth.cells.2.2.2.1)
  have C1' := Lib.hid (C1.out w h)
  rw [hst] at C1'
  have HH := Lib.hid h
  have HS := Lib.hid (And.intro hs (And.intro ht hm))
  have hnew := h.setStale 0 hs hm
  have HN := Lib.hid hnew
  clear h hs ht hm hseat hnew
  generalize ((i + 1 : Nat) : Int) = jd at *
  go_enter Tryz.func39, Tryz.ntmps39
  go_wp2_with fail
  refine (C1'.out).mono ?_
  rintro en y ⟨rfl, rfl⟩
  go_wp2_with fail
  refine bodyPost_end (results_none rfl _ _ _) rfl ⟨rfl, ⟨r, ent, sv, pv, ss, ts, HN.out.1⟩, wt_of HN.out.2 (fun t ht => by simp at ht; subst ht; rfl)⟩
set_option maxRecDepth 100000 in
theorem scStands11 (kd : Kd) (B : Nat) (w : World) (q r : Nat) (ent sv pv : Value) (ss ts : List Nat) (M : WorM) (i s t : Nat) (m : SeatM) (h : WorI kd B w q r ent sv pv ss ts M) (hs : ss[i]? = some s) (ht : ts[i]? = some t) (hm : M.seats[i]? = some m) (hst : m.thr.state = 1) :
    Calls Tryz.prog 39 #[.pointer (some ⟨q, 0, none⟩), .int .i64 ((i + 1 : Nat) : Int), .int .i64 1, .pointer (some ⟨s, 0, none⟩)] w fun en w' => en = .returned (.tuple #[]) ∧ WorS kd B w' q M ∧ Lim WT B w w' := by
  have hseat := h.each i s t m hs ht hm
  obtain ⟨c0, c19, cf⟩ := hseat.cells
  have C1 := Lib.hid (fun (U : World) (hU : WorI kd B U q r ent sv pv ss ts M) => by
    obtain ⟨ov, hth⟩ := (hU.each i s t m hs ht hm).thr
    exact thState t m.thr.state U hth.cells.2.2.2.1)
  have C1' := Lib.hid (C1.out w h)
  rw [hst] at C1'
  have HH := Lib.hid h
  have HS := Lib.hid (And.intro hs (And.intro ht hm))
  clear h hs ht hm hseat
  generalize ((i + 1 : Nat) : Int) = jd at *
  go_enter Tryz.func39, Tryz.ntmps39
  go_wp2_with fail
  refine (C1'.out).mono ?_
  rintro en y ⟨rfl, rfl⟩
  go_upto_region 3 with fail
  have hS3 : (fun _ : World => True) w.drew := trivial
  refine wp_region_held_drew (S := fun _ => True) (by kernel_rfl) hS3 (fun hHeld => ?_)
  clear hS3
  refine hd 0 (v := ?_) ?_ ?_
  rotate_left
  · rintro w hS; go_simp; try with_reducible rfl
  simp only [Act.put, pt1, pt2, pt3]
  refine hd 1 (v := ?_) ?_ ?_
  rotate_left
  · rintro w hS; go_simp; try with_reducible rfl
  simp only [Act.put, pt1, pt2, pt3]
  refine hd 2 (v := ?_) ?_ ?_
  rotate_left
  · rintro w hS; go_simp; try with_reducible rfl
  simp only [Act.put, pt1, pt2, pt3]
  refine hk 3 ?_
  simp only [Act.put, pt1, pt2, pt3]
  refine hk 4 ?_
  simp only [Act.put, pt1, pt2, pt3]
  refine hk 5 ?_
  simp only [Act.put, pt1, pt2, pt3]
  refine hk 6 ?_
  simp only [Act.put, pt1, pt2, pt3]
  refine hk 7 ?_
  simp only [Act.put, pt1, pt2, pt3]
  refine hk 8 ?_
  simp only [Act.put, pt1, pt2, pt3]
  refine hk 9 ?_
  simp only [Act.put, pt1, pt2, pt3]
  refine hk 10 ?_
  simp only [Act.put, pt1, pt2, pt3]
  refine hk 11 ?_
  simp only [Act.put, pt1, pt2, pt3]
  refine hk 12 ?_
  simp only [Act.put, pt1, pt2, pt3]
  refine hd 13 (v := ?_) ?_ ?_
  rotate_left
  · rintro w hS; go_simp; try with_reducible rfl
  simp only [Act.put, pt1, pt2, pt3]
  refine hd 14 (v := ?_) ?_ ?_
  rotate_left
  · rintro w hS; go_simp; try with_reducible rfl
  simp only [Act.put, pt1, pt2, pt3]
  refine held_done (by kernel_rfl) ?_
  clear hHeld
  go_wp2_with fail
  refine bodyPost_end (results_none rfl _ _ _) rfl ⟨rfl, ⟨r, ent, sv, pv, ss, ts, HH.out.drew⟩, Lim.of_below (E := WT) (Below.refl _ _).drew⟩
set_option maxRecDepth 100000 in
theorem scStands33 (kd : Kd) (B : Nat) (w : World) (q r : Nat) (ent sv pv : Value) (ss ts : List Nat) (M : WorM) (i s t : Nat) (m : SeatM) (h : WorI kd B w q r ent sv pv ss ts M) (hs : ss[i]? = some s) (ht : ts[i]? = some t) (hm : M.seats[i]? = some m) (hst : m.thr.state = 3) :
    Calls Tryz.prog 39 #[.pointer (some ⟨q, 0, none⟩), .int .i64 ((i + 1 : Nat) : Int), .int .i64 3, .pointer (some ⟨s, 0, none⟩)] w fun en w' => en = .returned (.tuple #[]) ∧ WorS kd B w' q M ∧ Lim WT B w w' := by
  have hseat := h.each i s t m hs ht hm
  obtain ⟨c0, c19, cf⟩ := hseat.cells
  have C1 := Lib.hid (fun (U : World) (hU : WorI kd B U q r ent sv pv ss ts M) => by
    obtain ⟨ov, hth⟩ := (hU.each i s t m hs ht hm).thr
    exact thState t m.thr.state U hth.cells.2.2.2.1)
  have C1' := Lib.hid (C1.out w h)
  rw [hst] at C1'
  have HH := Lib.hid h
  have HS := Lib.hid (And.intro hs (And.intro ht hm))
  clear h hs ht hm hseat
  generalize ((i + 1 : Nat) : Int) = jd at *
  go_enter Tryz.func39, Tryz.ntmps39
  go_wp2_with fail
  refine (C1'.out).mono ?_
  rintro en y ⟨rfl, rfl⟩
  go_upto_region 3 with fail
  have hS3 : (fun _ : World => True) w.drew := trivial
  refine wp_region_held_drew (S := fun _ => True) (by kernel_rfl) hS3 (fun hHeld => ?_)
  clear hS3
  refine hd 0 (v := ?_) ?_ ?_
  rotate_left
  · rintro w hS; go_simp; try with_reducible rfl
  simp only [Act.put, pt1, pt2, pt3]
  refine hd 1 (v := ?_) ?_ ?_
  rotate_left
  · rintro w hS; go_simp; try with_reducible rfl
  simp only [Act.put, pt1, pt2, pt3]
  refine hd 2 (v := ?_) ?_ ?_
  rotate_left
  · rintro w hS; go_simp; try with_reducible rfl
  simp only [Act.put, pt1, pt2, pt3]
  refine hk 3 ?_
  simp only [Act.put, pt1, pt2, pt3]
  refine hk 4 ?_
  simp only [Act.put, pt1, pt2, pt3]
  refine hk 5 ?_
  simp only [Act.put, pt1, pt2, pt3]
  refine hk 6 ?_
  simp only [Act.put, pt1, pt2, pt3]
  refine hk 7 ?_
  simp only [Act.put, pt1, pt2, pt3]
  refine hk 8 ?_
  simp only [Act.put, pt1, pt2, pt3]
  refine hk 9 ?_
  simp only [Act.put, pt1, pt2, pt3]
  refine hk 10 ?_
  simp only [Act.put, pt1, pt2, pt3]
  refine hk 11 ?_
  simp only [Act.put, pt1, pt2, pt3]
  refine hk 12 ?_
  simp only [Act.put, pt1, pt2, pt3]
  refine hd 13 (v := ?_) ?_ ?_
  rotate_left
  · rintro w hS; go_simp; try with_reducible rfl
  simp only [Act.put, pt1, pt2, pt3]
  refine hd 14 (v := ?_) ?_ ?_
  rotate_left
  · rintro w hS; go_simp; try with_reducible rfl
  simp only [Act.put, pt1, pt2, pt3]
  refine held_done (by kernel_rfl) ?_
  clear hHeld
  have hwd := HH.out.drew
  obtain ⟨-, -, -, c3, c4, -⟩ := hwd.cells
  obtain ⟨-, pa, pc, rfl, -⟩ := RowAt.of_owns HH.out.park
  have CP := Lib.hid (pass_none pa (spotN M.parked) pc none 0 jd w.drew)
  have HWD := Lib.hid hwd
  clear hwd
  go_wp2_with fail
  refine (CP.out).mono ?_
  rintro en y ⟨rfl, hby⟩
  have hwy := HWD.out.below hby
  obtain ⟨-, -, -, d3, d4, -⟩ := hwy.cells
  have df := fun j => frozen_of_row _ _ j _ _ hwy.blk
  have hpk := hwy.setPark (o := M.parked) (b := M.fresh) hwy.park hwy.fresh
  have HPK := Lib.hid (And.intro hpk.1 ((show Lim WT B w y from Lim.of_below (((show Below w.heap.size w w.drew from (Below.refl _ _).drew)).trans hby)).trans (wt_of hpk.2 (fun t ht => by simp at ht; subst ht; rfl))))
  clear hby hwy hpk c3 c4 CP
  go_wp2_with fail
  refine bodyPost_end (results_none rfl _ _ _) rfl ⟨rfl, ⟨r, ent, sv, _, ss, ts, HPK.out.1⟩, HPK.out.2⟩
set_option maxRecDepth 100000 in
theorem scStands31 (kd : Kd) (B : Nat) (w : World) (q r : Nat) (ent sv pv : Value) (ss ts : List Nat) (M : WorM) (i s t : Nat) (m : SeatM) (h : WorI kd B w q r ent sv pv ss ts M) (hB : B ≤ w.heap.size) (hs : ss[i]? = some s) (ht : ts[i]? = some t) (hm : M.seats[i]? = some m) (hst : m.thr.state = 3) (M' : WorM) (hw64 : m.thr.writes < 2 ^ 64) (hst64 : ∀ m ∈ M.seats, m.stale < 2 ^ 64) (hd : M.done i m.thr.writes = some M') :
    Calls Tryz.prog 39 #[.pointer (some ⟨q, 0, none⟩), .int .i64 ((i + 1 : Nat) : Int), .int .i64 1, .pointer (some ⟨s, 0, none⟩)] w fun en w' => en = .returned (.tuple #[]) ∧ WorS kd B w' q M' ∧ Lim WT B w w' := by
  have hseat := h.each i s t m hs ht hm
  obtain ⟨c0, c19, cf⟩ := hseat.cells
  have C1 := Lib.hid (fun (U : World) (hU : WorI kd B U q r ent sv pv ss ts M) => by
    obtain ⟨ov, hth⟩ := (hU.each i s t m hs ht hm).thr
    exact thState t m.thr.state U hth.cells.2.2.2.1)
  have C1' := Lib.hid (C1.out w h)
  rw [hst] at C1'
  have HH := Lib.hid h
  have HS := Lib.hid (And.intro hs (And.intro ht hm))
  have CD := Lib.hid (fun (U : World) (pv : Value) (hU : WorI kd B U q r ent sv pv ss ts M) (hBU : B ≤ U.heap.size) => scDone kd B U q r ent sv pv ss ts M M' i s t m hU hBU hs ht hm hw64 hst64 hd)
  have HBW := Lib.hid hB
  clear h hs ht hm hseat hd hst64
  generalize ((i + 1 : Nat) : Int) = jd at *
  go_enter Tryz.func39, Tryz.ntmps39
  go_wp2_with fail
  refine (C1'.out).mono ?_
  rintro en y ⟨rfl, rfl⟩
  go_upto_region 3 with fail
  have hS3 : (fun _ : World => True) w.drew := trivial
  refine wp_region_held_drew (S := fun _ => True) (by kernel_rfl) hS3 (fun hHeld => ?_)
  clear hS3
  refine hd 0 (v := ?_) ?_ ?_
  rotate_left
  · rintro w hS; go_simp; try with_reducible rfl
  simp only [Act.put, pt1, pt2, pt3]
  refine hd 1 (v := ?_) ?_ ?_
  rotate_left
  · rintro w hS; go_simp; try with_reducible rfl
  simp only [Act.put, pt1, pt2, pt3]
  refine hd 2 (v := ?_) ?_ ?_
  rotate_left
  · rintro w hS; go_simp; try with_reducible rfl
  simp only [Act.put, pt1, pt2, pt3]
  refine hk 3 ?_
  simp only [Act.put, pt1, pt2, pt3]
  refine hk 4 ?_
  simp only [Act.put, pt1, pt2, pt3]
  refine hk 5 ?_
  simp only [Act.put, pt1, pt2, pt3]
  refine hk 6 ?_
  simp only [Act.put, pt1, pt2, pt3]
  refine hk 7 ?_
  simp only [Act.put, pt1, pt2, pt3]
  refine hk 8 ?_
  simp only [Act.put, pt1, pt2, pt3]
  refine hk 9 ?_
  simp only [Act.put, pt1, pt2, pt3]
  refine hk 10 ?_
  simp only [Act.put, pt1, pt2, pt3]
  refine hk 11 ?_
  simp only [Act.put, pt1, pt2, pt3]
  refine hk 12 ?_
  simp only [Act.put, pt1, pt2, pt3]
  refine hd 13 (v := ?_) ?_ ?_
  rotate_left
  · rintro w hS; go_simp; try with_reducible rfl
  simp only [Act.put, pt1, pt2, pt3]
  refine hd 14 (v := ?_) ?_ ?_
  rotate_left
  · rintro w hS; go_simp; try with_reducible rfl
  simp only [Act.put, pt1, pt2, pt3]
  refine held_done (by kernel_rfl) ?_
  clear hHeld
  have hwd := HH.out.drew
  obtain ⟨-, -, -, c3, c4, -⟩ := hwd.cells
  obtain ⟨-, pa, pc, rfl, -⟩ := RowAt.of_owns HH.out.park
  have CP := Lib.hid (pass_none pa (spotN M.parked) pc none 0 jd w.drew)
  have HWD := Lib.hid hwd
  clear hwd
  go_wp2_with fail
  refine (CP.out).mono ?_
  rintro en y ⟨rfl, hby⟩
  have hwy := HWD.out.below hby
  obtain ⟨-, -, -, d3, d4, -⟩ := hwy.cells
  have df := fun j => frozen_of_row _ _ j _ _ hwy.blk
  have hpk := hwy.setPark (o := M.parked) (b := M.fresh) hwy.park hwy.fresh
  have HPK := Lib.hid (And.intro hpk.1 ((show Lim WT B w y from Lim.of_below (((show Below w.heap.size w w.drew from (Below.refl _ _).drew)).trans hby)).trans (wt_of hpk.2 (fun t ht => by simp at ht; subst ht; rfl))))
  clear hby hwy hpk c3 c4 CP
  go_upto_region 7 with fail
  generalize (y.setCell ⟨q, 3, none⟩ (.slice pa (spotN M.parked) pc)).setCell ⟨q, 4, none⟩ (.slice none 0 0) = Z at *
  have CD' := Lib.hid (CD.out Z _ HPK.out.1 (Nat.le_trans hB HPK.out.2.size))
  clear d3 d4 df
  go_wp2_with fail
  refine (CD'.out).mono ?_
  rintro en y2 ⟨rfl, hp, hq⟩
  have HF := Lib.hid (And.intro hp (HPK.out.2.trans hq))
  clear hp hq
  go_wp2_with fail
  refine bodyPost_end (results_none rfl _ _ _) rfl ⟨rfl, HF.out.1, HF.out.2⟩
set_option maxRecDepth 100000 in
theorem scStands21 (kd : Kd) (B : Nat) (w : World) (q r : Nat) (ent sv pv : Value) (ss ts : List Nat) (M : WorM) (i s t : Nat) (m : SeatM) (h : WorI kd B w q r ent sv pv ss ts M) (hB : B ≤ w.heap.size) (hs : ss[i]? = some s) (ht : ts[i]? = some t) (hm : M.seats[i]? = some m) (hst : m.thr.state = 2) (hsl : m.stale = 0) (hr : m.thr.reads ≠ 0) (hr64 : m.thr.reads < 2 ^ 64) (hfr : M.fresh = true) :
    Calls Tryz.prog 39 #[.pointer (some ⟨q, 0, none⟩), .int .i64 ((i + 1 : Nat) : Int), .int .i64 1, .pointer (some ⟨s, 0, none⟩)] w fun en w' => en = .returned (.tuple #[]) ∧ WorS kd B w' q (M.park i m.thr.reads) ∧ Lim WT B w w' := by
  have hseat := h.each i s t m hs ht hm
  obtain ⟨c0, c19, cf⟩ := hseat.cells
  have C1 := Lib.hid (fun (U : World) (hU : WorI kd B U q r ent sv pv ss ts M) => by
    obtain ⟨ov, hth⟩ := (hU.each i s t m hs ht hm).thr
    exact thState t m.thr.state U hth.cells.2.2.2.1)
  have C1' := Lib.hid (C1.out w h)
  rw [hst] at C1'
  have HH := Lib.hid h
  have HS := Lib.hid (And.intro hs (And.intro ht hm))
  have CD := Lib.hid (fun (U : World) (pv : Value) (hU : WorI kd B U q r ent sv pv ss ts M) (hBU : B ≤ U.heap.size) => scParks kd B U q r ent sv pv ss ts M i s t m hU hBU hs ht hm hsl hr hr64 hfr)
  clear h hs ht hm hseat hsl hr hr64 hfr
  generalize ((i + 1 : Nat) : Int) = jd at *
  go_enter Tryz.func39, Tryz.ntmps39
  go_wp2_with fail
  refine (C1'.out).mono ?_
  rintro en y ⟨rfl, rfl⟩
  go_upto_region 3 with fail
  have hS3 : (fun _ : World => True) w.drew := trivial
  refine wp_region_held_drew (S := fun _ => True) (by kernel_rfl) hS3 (fun hHeld => ?_)
  clear hS3
  refine hd 0 (v := ?_) ?_ ?_
  rotate_left
  · rintro w hS; go_simp; try with_reducible rfl
  simp only [Act.put, pt1, pt2, pt3]
  refine hd 1 (v := ?_) ?_ ?_
  rotate_left
  · rintro w hS; go_simp; try with_reducible rfl
  simp only [Act.put, pt1, pt2, pt3]
  refine hd 2 (v := ?_) ?_ ?_
  rotate_left
  · rintro w hS; go_simp; try with_reducible rfl
  simp only [Act.put, pt1, pt2, pt3]
  refine hk 3 ?_
  simp only [Act.put, pt1, pt2, pt3]
  refine hk 4 ?_
  simp only [Act.put, pt1, pt2, pt3]
  refine hk 5 ?_
  simp only [Act.put, pt1, pt2, pt3]
  refine hk 6 ?_
  simp only [Act.put, pt1, pt2, pt3]
  refine hk 7 ?_
  simp only [Act.put, pt1, pt2, pt3]
  refine hk 8 ?_
  simp only [Act.put, pt1, pt2, pt3]
  refine hk 9 ?_
  simp only [Act.put, pt1, pt2, pt3]
  refine hk 10 ?_
  simp only [Act.put, pt1, pt2, pt3]
  refine hk 11 ?_
  simp only [Act.put, pt1, pt2, pt3]
  refine hk 12 ?_
  simp only [Act.put, pt1, pt2, pt3]
  refine hd 13 (v := ?_) ?_ ?_
  rotate_left
  · rintro w hS; go_simp; try with_reducible rfl
  simp only [Act.put, pt1, pt2, pt3]
  refine hd 14 (v := ?_) ?_ ?_
  rotate_left
  · rintro w hS; go_simp; try with_reducible rfl
  simp only [Act.put, pt1, pt2, pt3]
  refine held_done (by kernel_rfl) ?_
  clear hHeld
  have hwd := HH.out.drew
  obtain ⟨-, -, -, c3, c4, -⟩ := hwd.cells
  obtain ⟨-, pa, pc, rfl, -⟩ := RowAt.of_owns HH.out.park
  have CP := Lib.hid (pass_none pa (spotN M.parked) pc none 0 jd w.drew)
  have HWD := Lib.hid hwd
  clear hwd
  go_wp2_with fail
  refine (CP.out).mono ?_
  rintro en y ⟨rfl, hby⟩
  have hwy := HWD.out.below hby
  obtain ⟨-, -, -, d3, d4, -⟩ := hwy.cells
  have df := fun j => frozen_of_row _ _ j _ _ hwy.blk
  have hpk := hwy.setPark (o := M.parked) (b := M.fresh) hwy.park hwy.fresh
  have HPK := Lib.hid (And.intro hpk.1 ((show Lim WT B w y from Lim.of_below (((show Below w.heap.size w w.drew from (Below.refl _ _).drew)).trans hby)).trans (wt_of hpk.2 (fun t ht => by simp at ht; subst ht; rfl))))
  clear hby hwy hpk c3 c4 CP
  go_upto_region 7 with fail
  generalize (y.setCell ⟨q, 3, none⟩ (.slice pa (spotN M.parked) pc)).setCell ⟨q, 4, none⟩ (.slice none 0 0) = Z at *
  have CD' := Lib.hid (CD.out Z _ HPK.out.1 (Nat.le_trans hB HPK.out.2.size))
  clear d3 d4 df
  go_wp2_with fail
  refine (CD'.out).mono ?_
  rintro en y2 ⟨rfl, hp, hq⟩
  have HF := Lib.hid (And.intro hp (HPK.out.2.trans hq))
  clear hp hq
  go_wp2_with fail
  refine bodyPost_end (results_none rfl _ _ _) rfl ⟨rfl, HF.out.1, HF.out.2⟩
end Go.Proofs.YteflpdhgojcmcaaGreatDoor
namespace Go.Proofs.YteflpdhgojcmcaaGreatDoor
open Go.RowKit PSet PMat
def WorM.stands (M : WorM) (i : Nat) (was : Int) : Option WorM := match M.seats[i]? with
  | none => none
  | some m =>
    if m.thr.state = 1 then (if was = 0 then some { M with seats := M.seats.set i { m with stale := 0 } } else if was = 1 then some M else none)
    else if m.thr.state = 3 then (if was = 3 then some M else if was = 1 then (if m.thr.writes < 2 ^ 64 ∧ ∀ m ∈ M.seats, m.stale < 2 ^ 64 then M.done i m.thr.writes else none) else none)
    else if m.thr.state = 2 ∧ was = 1 then (if m.stale = 0 ∧ m.thr.reads ≠ 0 ∧ m.thr.reads < 2 ^ 64 ∧ M.fresh = true then some (M.park i m.thr.reads) else none)
    else none
/-- One step of a thread in a world. -/
def WorM.step (M : WorM) (i : Nat) : Option WorM :=
  if M.evs.length < 90000 ∧ M.eng.cnt < 100000 ∧ M.eng.log.length < 100000 then
    if waitsB M.parked ((i + 1 : Nat) : Int) then some M
    else match M.seats[i]? with
      | none => none
      | some m => match thrStep m.thr M.eng with
        | none => none
        | some (m', e', l) => WorM.stands { M with eng := e', evs := M.evs ++ l, seats := M.seats.set i { m with thr := m' } } i m.thr.state
  else none
theorem WorM.done_len {M M' : WorM} {i wr : Nat} (h : M.done i wr = some M') : M'.seats.length = M.seats.length := by
  unfold WorM.done at h
  split at h
  · cases h
    exact staledN_len _ _ _ _
  · split at h
    · split at h
      · split at h
        · cases h
          simp [staledN_len]
        · cases h
      · cases h
    · cases h
theorem WorM.stands_len {M M' : WorM} {i : Nat} {was : Int} (h : M.stands i was = some M') : M'.seats.length = M.seats.length := by
  unfold WorM.stands at h
  split at h
  · cases h
  split at h
  · split at h
    · cases h; simp
    split at h
    · cases h; rfl
    · cases h
  split at h
  · split at h
    · cases h; rfl
    split at h
    · split at h
      · exact WorM.done_len h
      · cases h
    · cases h
  split at h
  · split at h
    · cases h; rfl
    · cases h
  · cases h
theorem scStands (kd : Kd) (B : Nat) (w : World) (q r : Nat) (ent sv pv : Value) (ss ts : List Nat) (M M' : WorM) (i s t : Nat) (was : Int) (h : WorI kd B w q r ent sv pv ss ts M) (hB : B ≤ w.heap.size) (hs : ss[i]? = some s) (ht : ts[i]? = some t) (hst : M.stands i was = some M') :
    Calls Tryz.prog 39 #[.pointer (some ⟨q, 0, none⟩), .int .i64 ((i + 1 : Nat) : Int), .int .i64 was, .pointer (some ⟨s, 0, none⟩)] w fun en w' => en = .returned (.tuple #[]) ∧ WorS kd B w' q M' ∧ Lim WT B w w' := by
  unfold WorM.stands at hst
  split at hst
  · cases hst
  rename_i m hm
  split at hst
  · rename_i h1
    split at hst
    · rename_i h2
      subst h2
      cases hst
      exact scStands10 kd B w q r ent sv pv ss ts M i s t m h hs ht hm h1
    split at hst
    · rename_i h2
      subst h2
      cases hst
      exact scStands11 kd B w q r ent sv pv ss ts M i s t m h hs ht hm h1
    · cases hst
  split at hst
  · rename_i h1
    split at hst
    · rename_i h2
      subst h2
      cases hst
      exact scStands33 kd B w q r ent sv pv ss ts M i s t m h hs ht hm h1
    split at hst
    · rename_i h2
      subst h2
      split at hst
      · rename_i h3
        exact scStands31 kd B w q r ent sv pv ss ts M i s t m h hB hs ht hm h1 M' h3.1 h3.2 hst
      · cases hst
    · cases hst
  split at hst
  · rename_i h1
    obtain ⟨h1, h2⟩ := h1
    subst h2
    split at hst
    · rename_i h3
      cases hst
      exact scStands21 kd B w q r ent sv pv ss ts M i s t m h hB hs ht hm h1 h3.1 h3.2.1 h3.2.2.1 h3.2.2.2
    · cases hst
  · cases hst
theorem thrStep_ops {m m' : ThrM} {e e' : EngM} {l : List EvM} (h : thrStep m e = some (m', e', l)) : m'.ops = m.ops ∧ m'.fuel = m.fuel := by
  unfold thrStep at h
  split at h
  · split at h
    · cases h; exact ⟨rfl, rfl⟩
    · cases h
  split at h
  · split at h
    · split at h
      · split at h
        · cases h; exact ⟨rfl, rfl⟩
        split at h
        · cases h; exact ⟨rfl, rfl⟩
        split at h
        · cases h; exact ⟨rfl, rfl⟩
        split at h
        · cases h
        split at h
        · split at h
          · cases h; exact ⟨rfl, rfl⟩
          · cases h
        split at h
        · cases h; exact ⟨rfl, rfl⟩
        · cases h
      · cases h
    · cases h
  · cases h; exact ⟨rfl, rfl⟩
theorem WorS.clear {kd : Kd} {B : Nat} {w : World} {q : Nat} {M : WorM} (h : WorS kd B w q M) (hl : 0 < M.seats.length) : Calls Tryz.prog 40 #[.pointer (some ⟨q, 0, none⟩)] w fun e w' => e = .returned (.tuple #[]) ∧ WorS kd B w' q M ∧ Lim WT B w w' := by
  obtain ⟨r, ent, sv, pv, ss, ts, h⟩ := h
  obtain ⟨-, va, vc, rfl, hva⟩ := RowAt.of_owns h.seats
  obtain ⟨b, off, rfl, hbl, -⟩ := hva (by rw [h.len]; exact hl)
  obtain ⟨-, pa, pc, rfl, -⟩ := RowAt.of_owns h.park
  obtain ⟨-, -, c2, c3, c4, -⟩ := h.cells
  refine (scClear q b off ss.length vc pa _ pc none 0 w c2 c3 c4 (by have := h.few; have := h.len; omega) hbl (fun i hi => ⟨_, h.seatAt (List.getElem?_eq_getElem hi)⟩)).mono ?_
  rintro e w' ⟨rfl, hb⟩
  exact ⟨rfl, ⟨r, ent, _, _, ss, ts, h.below hb⟩, Lim.of_below hb⟩
set_option maxRecDepth 100000 in
theorem scStep (kd : Kd) (B : Nat) (w : World) (q : Nat) (M M' : WorM) (i : Nat) (h : WorS kd B w q M) (hB : B ≤ w.heap.size) (hB0 : 0 < B) (hT : Tab w) (hi : i < M.seats.length) (hst : M.step i = some M') :
    Calls Tryz.prog 17 #[.pointer (some ⟨q, 0, none⟩), .int .i64 ((i + 1 : Nat) : Int)] w fun en w' => (∃ v, en = .returned v) ∧ WorS kd B w' q M' ∧ Lim WT B w w' := by
  obtain ⟨r, ent, sv, pv, ss, ts, h⟩ := h
  obtain ⟨m, hm⟩ : ∃ m, M.seats[i]? = some m := ⟨_, List.getElem?_eq_getElem hi⟩
  obtain ⟨s, hs⟩ : ∃ s, ss[i]? = some s := ⟨_, List.getElem?_eq_getElem (by rw [h.len]; exact hi)⟩
  obtain ⟨t, ht⟩ : ∃ t, ts[i]? = some t := ⟨_, List.getElem?_eq_getElem (by rw [h.len2]; exact hi)⟩
  obtain ⟨-, va, vc, rfl, hva⟩ := RowAt.of_owns h.seats
  obtain ⟨b, off, rfl, -, -⟩ := hva (by rw [h.len]; omega)
  have hpk := parked_at h.park
  obtain ⟨-, pa, pc, rfl, -⟩ := RowAt.of_owns h.park
  obtain ⟨c0, -, c2, c3, c4, -⟩ := h.cells
  have hseat := h.each i s t m hs ht hm
  have C1 := Lib.hid (scSeat q r b off ss.length vc i _ w c0 c2 (by rw [h.len]; exact hi) (by have := h.few; have := h.len; omega) (h.seatAt hs))
  have C2 := Lib.hid (may_any (.slice pa (spotN M.parked) pc) none 0 M.parked ((i + 1 : Nat) : Int) w hpk rfl (by omega))
  unfold WorM.step at hst
  split at hst
  · rename_i hcap
    split at hst
    · rename_i hwt
      cases hst
      rw [hwt] at C2
      have HH := Lib.hid h
      clear hm hs ht hseat h hpk hT hcap
      generalize ((i + 1 : Nat) : Int) = jd at *
      go_enter Tryz.func17, Tryz.ntmps17
      go_wp2_with fail
      refine (C1.out).mono ?_
      rintro en y ⟨rfl, rfl⟩
      go_wp2_with fail
      refine (C2.out).mono ?_
      rintro en y ⟨rfl, hb⟩
      have HB := Lib.hid hb
      clear hb
      go_wp2_with fail
      go_ret
      exact ⟨⟨_, rfl⟩, ⟨r, ent, _, _, ss, ts, HH.out.below HB.out⟩, Lim.of_below HB.out⟩
    · rename_i hwt
      have hwt : waitsB M.parked ((i + 1 : Nat) : Int) = false := by simpa using hwt
      rw [hwt] at C2
      rw [hm] at hst
      simp only at hst
      split at hst
      · cases hst
      rename_i m' e' l hts
      have hops := thrStep_ops hts
      have HH := Lib.hid h
      have C3 := Lib.hid (fun (U : World) (hU : Below w.heap.size w U) => by
        obtain ⟨ov, hth⟩ := ((h.below hU).each i s t m hs ht hm).thr
        exact thState t m.thr.state U hth.cells.2.2.2.1)
      have C4 := Lib.hid (fun (U : World) (hU : Below w.heap.size w U) => thStep kd B U t r m.thr m' M.eng e' M.evs l ((h.below hU).each i s t m hs ht hm).thr (h.below hU).rec_ (Nat.le_trans hB hU.size) hB0 hcap.1 hcap.2.1 hcap.2.2 (hT.below hT.pos hU) hts)
      have C5 := Lib.hid (fun (U : World) (hU : WorI kd B U q r ent (.slice (some ⟨b, off, none⟩) ss.length vc) (.slice pa (spotN M.parked) pc) ss ts { M with eng := e', evs := M.evs ++ l, seats := M.seats.set i { m with thr := m' } }) (hBU : B ≤ U.heap.size) => scStands kd B U q r ent _ _ ss ts _ M' i s t m.thr.state hU hBU hs ht hst)
      have hlen : 0 < M'.seats.length := by
        have := WorM.stands_len hst
        simp only [List.length_set] at this
        omega
      have C6 := Lib.hid (fun (U : World) (hU : WorS kd B U q M') => hU.clear hlen)
      have HS := Lib.hid (And.intro hs (And.intro ht hm))
      obtain ⟨s0, -, -⟩ := hseat.cells
      have hsl : s < w.heap.size := block_lt_of_cell s0
      have HS0 := Lib.hid s0
      clear hm hs ht hseat h hpk hT hcap hst hts s0
      generalize ((i + 1 : Nat) : Int) = jd at *
      go_enter Tryz.func17, Tryz.ntmps17
      go_wp2_with fail
      refine (C1.out).mono ?_
      rintro en y ⟨rfl, rfl⟩
      go_wp2_with fail
      refine (C2.out).mono ?_
      rintro en y ⟨rfl, hb⟩
      have C3' := Lib.hid (C3.out y hb)
      have C4' := Lib.hid (C4.out y hb)
      have HWY := Lib.hid (HH.out.below hb)
      have HB := Lib.hid hb
      have s1 := (hb.cell (p := ⟨s, 0, none⟩) hsl).trans HS0.out
      clear hb C1 C2 C3 C4 c0 c2 c3 c4
      go_wp2_with fail
      refine (C3'.out).mono ?_
      rintro en y2 ⟨rfl, rfl⟩
      go_wp2_with fail
      refine (C4'.out).mono ?_
      rintro en z ⟨rfl, hp, hlh⟩
      have hseaty := HWY.out.each i s t m HS.out.1 HS.out.2.1 HS.out.2.2
      obtain ⟨ovy, hthy⟩ := hseaty.thr
      have hnew := HWY.out.thread HS.out.2.1 HS.out.2.2 hp.1 hp.2 hlh hops.1 hops.2
      have hlz := (Lim.of_below (E := WT) (B := B) HB.out).trans (wt_limH hlh hthy.row hthy.base)
      have C5' := Lib.hid (C5.out z hnew (Nat.le_trans hB hlz.size))
      have HL := Lib.hid hlz
      clear hp hlh hseaty hthy hnew hlz C5 C3' C4' s1
      go_wp2_with fail
      refine (C5'.out).mono ?_
      rintro en z2 ⟨rfl, hp, hq⟩
      have C6' := Lib.hid (C6.out z2 hp)
      have HL2 := Lib.hid (HL.out.trans hq)
      clear hp hq
      go_wp2_with fail
      refine (C6'.out).mono ?_
      rintro en z3 ⟨rfl, hp, hq⟩
      have HF := Lib.hid (And.intro hp (HL2.out.trans hq))
      clear hp hq
      go_wp2_with fail
      go_ret
      exact ⟨⟨_, rfl⟩, HF.out.1, HF.out.2⟩
  · cases hst
end Go.Proofs.YteflpdhgojcmcaaGreatDoor
namespace Go.Proofs.YteflpdhgojcmcaaGreatDoor
open Go.RowKit PSet PMat
theorem WorM.step_len {M M' : WorM} {i : Nat} (h : M.step i = some M') : M'.seats.length = M.seats.length := by
  unfold WorM.step at h
  split at h
  · split at h
    · cases h; rfl
    · split at h
      · cases h
      · split at h
        · cases h
        · have := WorM.stands_len h
          simpa using this
  · cases h
/-- A step of each of the first k threads. -/
def WorM.turn : Nat → WorM → Option WorM
  | 0, M => some M
  | k + 1, M => match WorM.turn k M with
    | some M' => M'.step k
    | none => none
def WorM.rounds : Nat → WorM → Option WorM
  | 0, M => some M
  | n + 1, M => match WorM.rounds n M with
    | some M' => M'.turn M'.seats.length
    | none => none
theorem WorM.turn_len : ∀ {k : Nat} {M M' : WorM}, M.turn k = some M' → M'.seats.length = M.seats.length
  | 0, _, _, h => by cases h; rfl
  | k + 1, M, M', h => by
    rw [WorM.turn] at h
    split at h
    · rename_i M2 h2
      rw [WorM.step_len h, WorM.turn_len h2]
    · cases h
theorem WorM.rounds_len : ∀ {n : Nat} {M M' : WorM}, M.rounds n = some M' → M'.seats.length = M.seats.length
  | 0, _, _, h => by cases h; rfl
  | n + 1, M, M', h => by
    rw [WorM.rounds] at h
    split at h
    · rename_i M2 h2
      rw [WorM.turn_len h, WorM.rounds_len h2]
    · cases h
theorem WorM.turn_some : ∀ {n : Nat} {M M' : WorM}, M.turn n = some M' → ∀ k, k ≤ n → ∃ M2, M.turn k = some M2
  | 0, M, M', h, k, hk => by
    have : k = 0 := by omega
    subst this
    exact ⟨_, h⟩
  | n + 1, M, M', h, k, hk => by
    by_cases hkn : k = n + 1
    · subst hkn; exact ⟨_, h⟩
    · rw [WorM.turn] at h
      split at h
      · rename_i M2 h2
        exact WorM.turn_some h2 k (by omega)
      · cases h
theorem WorM.rounds_some : ∀ {n : Nat} {M M' : WorM}, M.rounds n = some M' → ∀ k, k ≤ n → ∃ M2, M.rounds k = some M2
  | 0, M, M', h, k, hk => by
    have : k = 0 := by omega
    subst this
    exact ⟨_, h⟩
  | n + 1, M, M', h, k, hk => by
    by_cases hkn : k = n + 1
    · subst hkn; exact ⟨_, h⟩
    · rw [WorM.rounds] at h
      split at h
      · rename_i M2 h2
        exact WorM.rounds_some h2 k (by omega)
      · cases h
theorem WorM.turn_next {k : Nat} {M M2 M3 : WorM} (h : M.turn k = some M2) (h2 : M.turn (k + 1) = some M3) : M2.step k = some M3 := by
  rw [WorM.turn, h] at h2
  exact h2
theorem WorM.rounds_next {k : Nat} {M M2 M3 : WorM} (h : M.rounds k = some M2) (h2 : M.rounds (k + 1) = some M3) : M2.turn M2.seats.length = some M3 := by
  rw [WorM.rounds, h] at h2
  exact h2
theorem WorS.good {kd : Kd} {B : Nat} {w : World} {q : Nat} {M : WorM} (h : WorS kd B w q M) : Calls Tryz.prog 24 #[.pointer (some ⟨q, 0, none⟩)] w fun e w' => e = .returned (.bool true) ∧ w = w' := by
  obtain ⟨r, ent, sv, pv, ss, ts, h⟩ := h
  exact scGood q r w h.cells.1
theorem WorS.row {kd : Kd} {B : Nat} {w : World} {q : Nat} {M : WorM} (h : WorS kd B w q M) : ∃ a c, w.cell? ⟨q, 2, none⟩ = some (.slice a M.seats.length c) := by
  obtain ⟨r, ent, sv, pv, ss, ts, h⟩ := h
  obtain ⟨-, va, vc, rfl, -⟩ := RowAt.of_owns h.seats
  exact ⟨va, vc, by rw [← h.len]; exact h.cells.2.2.1⟩
theorem WorS.few {kd : Kd} {B : Nat} {w : World} {q : Nat} {M : WorM} (h : WorS kd B w q M) : M.seats.length ≤ 16 := by
  obtain ⟨r, ent, sv, pv, ss, ts, h⟩ := h
  exact h.few
set_option maxRecDepth 100000 in
theorem scRounds (kd : Kd) (B : Nat) (w : World) (q : Nat) (M M' : WorM) (n : Nat) (h : WorS kd B w q M) (hB : B ≤ w.heap.size) (hB0 : 0 < B) (hT : Tab w) (hn : n ≤ 1000) (hr : M.rounds n = some M') :
    Calls Tryz.prog 8 #[.pointer (some ⟨q, 0, none⟩), .int .i64 (n : Int)] w fun en w' => en = .returned (.int .i64 0) ∧ WorS kd B w' q M' ∧ Lim WT B w w' := by
  have C1 := Lib.hid h.good
  have hmx : max (n : Int) 0 = (n : Int) := by omega
  have hmn : min (n : Int) 1000 = (n : Int) := by omega
  have hfew := h.few
  have HH := Lib.hid h
  have HR := Lib.hid hr
  have hn0 : (0 : Int) ≤ (n : Int) := by omega
  clear h hr
  go_enter Tryz.func8, Tryz.ntmps8
  go_wp2_with fail
  refine (C1.out).mono ?_
  rintro en y ⟨rfl, rfl⟩
  go_wp2_with fail
  go_loopw [12, 5] (fun a _ U => ∃ k : Nat, k ≤ n ∧ a = .int .i64 k ∧ (∃ M2, M.rounds k = some M2 ∧ WorS kd B U q M2) ∧ Lim WT B w U) (fun a _ _ => n - (intOf a).toNat)
  case atStart => exact ⟨0, Nat.zero_le _, rfl, ⟨M, rfl, HH.out⟩, Lim.refl _ _ _⟩
  case round =>
    obtain ⟨k, hk, rfl, ⟨M2, hM2, hw2⟩, hl2⟩ := hrel
    have HM2 := Lib.hid hM2
    have HW2 := Lib.hid (And.intro hw2 hl2)
    by_cases hlt : k < n
    · have h0 : (0 : Int) ≤ (k : Int) := by omega
      obtain ⟨ra, rc, hrow⟩ := hw2.row
      have hf2 := hw2.few
      have hq := block_lt_of_cell hrow
      obtain ⟨M4, hM4⟩ := WorM.rounds_some HR.out (k + 1) (by omega)
      have HM4 := Lib.hid hM4
      clear hM2 hw2 hl2 hM4
      go_wp2_with fail
      go_loopw [19, 5] (fun a _ U => ∃ j : Nat, j ≤ M2.seats.length ∧ a = .int .i64 j ∧ (∃ M3, M2.turn j = some M3 ∧ WorS kd B U q M3) ∧ Lim WT B w U) (fun a _ _ => M2.seats.length - (intOf a).toNat)
      case atStart => exact ⟨0, Nat.zero_le _, rfl, ⟨M2, rfl, HW2.out.1⟩, HW2.out.2⟩
      case round =>
        obtain ⟨j, hj, rfl, ⟨M3, hM3, hw3⟩, hl3⟩ := hrel
        by_cases hjt : j < M2.seats.length
        · have h1 : (0 : Int) ≤ (j : Int) := by omega
          obtain ⟨M5, hM5⟩ := WorM.turn_some (WorM.rounds_next HM2.out HM4.out) (j + 1) (by omega)
          have hstep := WorM.turn_next hM3 hM5
          have C := Lib.hid (scStep kd B wr q M3 M5 j hw3 (Nat.le_trans hB hl3.size) hB0 (hT.below hB0 (Lim.to_below (E := WT) hl3 hB)) (by rw [WorM.turn_len hM3]; exact hjt) hstep)
          rw [show ((j + 1 : Nat) : Int) = (j : Int) + 1 from rfl] at C
          have HL3 := Lib.hid hl3
          have HM5 := Lib.hid hM5
          clear hM3 hw3 hl3 hM5 hstep hrow
          go_wp2_with fail
          refine (C.out).mono ?_
          rintro en z ⟨⟨v, rfl⟩, hp, hq2⟩
          have HF := Lib.hid (And.intro hp (HL3.out.trans hq2))
          clear hp hq2
          go_wp2_with fail
          go_roundw
          case rel => exact ⟨j + 1, by omega, by go_num, ⟨M5, HM5.out, HF.out.1⟩, HF.out.2⟩
          case measure => simp [intOf]; omega
        · have e : j = M2.seats.length := by omega
          subst e
          have HF := Lib.hid (And.intro hM3 (And.intro hw3 hl3))
          clear hM3 hw3 hl3 hrow
          go_wp2_with fail
          go_roundw
          case rel => exact ⟨k + 1, by omega, by go_num, ⟨M3, by rw [WorM.rounds, HM2.out]; exact HF.out.1, HF.out.2.1⟩, HF.out.2.2⟩
          case measure => simp [intOf]; omega
    · have e : k = n := by omega
      subst e
      have he : M2 = M' := by
        have := HR.out
        rw [hM2] at this
        exact Option.some.inj this
      subst he
      clear hM2 hw2 hl2
      go_wp2_with fail
      go_ret
      exact ⟨rfl, HW2.out.1, HW2.out.2⟩
end Go.Proofs.YteflpdhgojcmcaaGreatDoor
