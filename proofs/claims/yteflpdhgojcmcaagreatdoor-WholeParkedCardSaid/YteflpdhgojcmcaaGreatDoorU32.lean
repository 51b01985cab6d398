/- The world's done: what the others are told, and who is woken. No conditions but those that each theorem names. -/
import Derived.Test.YteflpdhgojcmcaaGreatDoorU01
import Derived.Test.YteflpdhgojcmcaaGreatDoorU31
import Derived.LaidEqlPtr
namespace Go.Proofs.YteflpdhgojcmcaaGreatDoor
open Go.RowKit PSet PMat
/-- What a thread wrote is stale for the first k of the others. -/
def staledN (i wr : Nat) : Nat → List SeatM → List SeatM
  | 0, l => l
  | k + 1, l => match (staledN i wr k l)[k]? with
    | some m => if k = i then staledN i wr k l else (staledN i wr k l).set k { m with stale := m.stale ||| wr }
    | none => staledN i wr k l
theorem staledN_len (i wr : Nat) : ∀ (k : Nat) (l : List SeatM), (staledN i wr k l).length = l.length
  | 0, _ => rfl
  | k + 1, l => by
    rw [staledN]
    split
    · split
      · exact staledN_len i wr k l
      · rw [List.length_set]; exact staledN_len i wr k l
    · exact staledN_len i wr k l
theorem staledN_self (i wr : Nat) : ∀ (k : Nat) (l : List SeatM), (staledN i wr k l)[i]? = l[i]?
  | 0, _ => rfl
  | k + 1, l => by
    rw [staledN]
    split
    · split
      · exact staledN_self i wr k l
      · rename_i h
        rw [List.getElem?_set_ne h]; exact staledN_self i wr k l
    · exact staledN_self i wr k l
theorem staledN_lt (i wr : Nat) (hw : wr < 2 ^ 64) : ∀ (k : Nat) (l : List SeatM), (∀ m ∈ l, m.stale < 2 ^ 64) → ∀ m ∈ staledN i wr k l, m.stale < 2 ^ 64
  | 0, _, h => h
  | k + 1, l, h => by
    have ih := staledN_lt i wr hw k l h
    rw [staledN]
    split
    · rename_i m hm
      split
      · exact ih
      · intro m' hm'
        rcases List.mem_or_eq_of_mem_set hm' with h1 | h1
        · exact ih m' h1
        · subst h1
          exact Nat.or_lt_two_pow (ih m (List.mem_of_getElem? hm)) hw
    · exact ih
theorem jd_facts (jd : Int) (n : Nat) (h1 : 1 ≤ jd) (h2 : (jd - 1).toNat < n) : (0 : Int) ≤ jd - 1 ∧ jd - 1 < (n : Int) ∧ jd ≤ (n : Int) ∧ jd.toNat - 1 = (jd - 1).toNat := by omega
theorem parked_at {w : World} {B : Nat} {v : Value} {o : Option (Int × Int)} (h : w.ownsRow B 213 2 v (spotN o) (spotC o)) : ParkedAt w v o := by
  obtain ⟨_, a, c, rfl, hx⟩ := RowAt.of_owns h
  cases o with
  | none => exact ⟨a, c, rfl⟩
  | some x =>
    obtain ⟨b, off, e1, e2, e3⟩ := hx (show 0 < 1 by decide)
    exact ⟨b, off, c, by rw [e1]; rfl, e2, e3⟩
theorem info86 : ∃ j, Tryz.prog.info? 86 = some j ∧ j.size ≠ 0 := by
  have h : (Tryz.prog.info? 86).map (·.size) = some 20 := by kernel_rfl
  cases hj : Tryz.prog.info? 86 with
  | none => rw [hj] at h; cases h
  | some j =>
    rw [hj] at h
    simp only [Option.map_some, Option.some.injEq] at h
    exact ⟨j, rfl, by omega⟩
theorem neq_seat_same (a : Addr) (w : World) : (binOp .neq 82 (.pointer (some a)) (.pointer (some a))).run Tryz.prog w = .ok (.bool false) w := by
  obtain ⟨j, hj, _⟩ := info86
  have h : ∀ d : Nat, (Op.equalIn (d + 1) 82 (.pointer (some a)) (.pointer (some a))).run Tryz.prog w = .ok true w := fun d => by
    simp [Op.equalIn, run_underlying Tryz.underlying82, sizeOf, typeInfo, hj, run_sameAddr_same]
  simp only [binOp]
  simp [Op.equal, Op.maxDepth, h 9999]
theorem neq_seat_other {a b : Addr} {ca cb : Array Value} {ta tb : TypeId} (w : World) (hne : a ≠ b) (ha : w.heap[a.block]? = some (.cells ca ta (0, 0))) (hb : w.heap[b.block]? = some (.cells cb tb (0, 0))) :
    (binOp .neq 82 (.pointer (some a)) (.pointer (some b))).run Tryz.prog w = .ok (.bool true) w := by
  obtain ⟨j, hj, hsz⟩ := info86
  have h : ∀ d : Nat, (Op.equalIn (d + 1) 82 (.pointer (some a)) (.pointer (some b))).run Tryz.prog w = .ok false w := fun d => by
    simp [Op.equalIn, run_underlying Tryz.underlying82, sizeOf, typeInfo, hj, hsz, run_sameAddr_other w hne ha hb]
  simp only [binOp]
  simp [Op.equal, Op.maxDepth, h 9999]
/-- A thread waits no more. -/
def SeatM.wake (m : SeatM) : SeatM := { m with thr := { m.thr with state := 0 } }
theorem WorI.seatAt {kd : Kd} {B : Nat} {w : World} {q r : Nat} {ent pv : Value} {b off n c : Nat} {ss ts : List Nat} {M : WorM} (h : WorI kd B w q r ent (.slice (some ⟨b, off, none⟩) n c) pv ss ts M) {k s : Nat} (hk : ss[k]? = some s) : w.cell? ⟨b, off + k, none⟩ = some (.pointer (some ⟨s, 0, none⟩)) := by
  obtain ⟨_, va2, vc2, e2, hx2⟩ := RowAt.of_owns h.seats
  simp only [Value.slice.injEq] at e2
  obtain ⟨rfl, _, _⟩ := e2
  have hl := (List.getElem?_eq_some_iff.1 hk).1
  obtain ⟨b2, off2, e3, _, hr2⟩ := hx2 (by omega)
  simp only [Option.some.injEq, Addr.mk.injEq] at e3
  obtain ⟨rfl, rfl, _⟩ := e3
  exact ptrs_at hr2 hk
def WorM.done (M : WorM) (i wr : Nat) : Option WorM :=
  match wakeM M.parked (wr : Int) with
  | (o, none) => some { M with seats := staledN i wr M.seats.length M.seats, parked := o, fresh := false }
  | (o, some id) => if 1 ≤ id then match (staledN i wr M.seats.length M.seats)[(id - 1).toNat]? with
    | some m => if m.thr.state = 2 then some { M with seats := (staledN i wr M.seats.length M.seats).set (id - 1).toNat m.wake, parked := o, fresh := false } else none
    | none => none
    else none
set_option maxRecDepth 100000 in
set_option maxHeartbeats 1000000 in
theorem scDone (kd : Kd) (B : Nat) (w : World) (q r : Nat) (ent sv pv : Value) (ss ts : List Nat) (M M' : WorM) (i s t : Nat) (m : SeatM) (h : WorI kd B w q r ent sv pv ss ts M) (hB : B ≤ w.heap.size) (hs : ss[i]? = some s) (ht : ts[i]? = some t) (hm : M.seats[i]? = some m) (hw64 : m.thr.writes < 2 ^ 64) (hst : ∀ m ∈ M.seats, m.stale < 2 ^ 64)
    (hd : M.done i m.thr.writes = some M') :
    Calls Tryz.prog 77 #[.pointer (some ⟨q, 0, none⟩), .pointer (some ⟨s, 0, none⟩)] w fun en w' => en = .returned (.tuple #[]) ∧ WorS kd B w' q M' ∧ Lim WT B w w' := by
  have CR := Lib.hid (fun (U : World) (M : WorM) (pv : Value) (hU : WorI kd B U q r ent sv pv ss ts M) (hm : M.seats[i]? = some m) => by
    obtain ⟨T, hT, -, -, -, h43⟩ := (hU.each i s t m hs ht hm).thrAt
    exact thWrites t T _ U hT h43)
  obtain ⟨o, wk, hwk⟩ : ∃ o wk, wakeM M.parked (m.thr.writes : Int) = (o, wk) := ⟨_, _, rfl⟩
  unfold WorM.done at hd
  rw [hwk] at hd
  have HWK := Lib.hid hwk
  have HD := Lib.hid hd
  clear hwk hd
  have HH := Lib.hid h
  have HS := Lib.hid (And.intro hs (And.intro ht hm))
  have hn16 := h.few
  have hln := h.len
  have hil : i < M.seats.length := (List.getElem?_eq_some_iff.1 hm).1
  have hqb : q < w.heap.size := block_lt h.blk
  obtain ⟨-, -, c2, -, -, -⟩ := h.cells
  obtain ⟨-, va, vc, rfl, hva⟩ := RowAt.of_owns h.seats
  obtain ⟨b, off, rfl, hbl, hrg⟩ := hva (by omega)
  have HRG := Lib.hid (And.intro hbl hrg)
  rw [hln] at HH CR
  clear h hs ht hm hva hbl hrg
  go_enter Tryz.func77, Tryz.ntmps77
  go_wp2_with fail
  go_loopw [15, 5] (fun a _ U => ∃ k : Nat, k ≤ M.seats.length ∧ a = .int .i64 k ∧ WorI kd B U q r ent (.slice (some ⟨b, off, none⟩) M.seats.length vc) pv ss ts { M with seats := staledN i m.thr.writes k M.seats } ∧ Lim WT B w U) (fun a _ _ => M.seats.length - (intOf a).toNat)
  case atStart => exact ⟨0, Nat.zero_le _, rfl, HH.out, Lim.refl _ _ _⟩
  case round =>
    obtain ⟨k, hk, rfl, hwi, hli⟩ := hrel
    have HW := Lib.hid hwi
    have HL := Lib.hid (And.intro hli (Nat.le_trans hB hli.size))
    clear hwi hli
    by_cases hlt : k < M.seats.length
    · have h0 : (0 : Int) ≤ (k : Int) := by omega
      obtain ⟨s', hs'⟩ : ∃ s', ss[k]? = some s' := ⟨_, List.getElem?_eq_getElem (by omega)⟩
      obtain ⟨t', ht'⟩ : ∃ t', ts[k]? = some t' := ⟨_, List.getElem?_eq_getElem (by rw [HH.out.len2]; omega)⟩
      obtain ⟨m', hm'⟩ : ∃ m', (staledN i m.thr.writes k M.seats)[k]? = some m' := ⟨_, List.getElem?_eq_getElem (by rw [staledN_len]; omega)⟩
      have hsl2 := HW.out.seatAt hs'
      have hseat := HW.out.each k s' t' m' hs' ht' hm'
      obtain ⟨d0, d19, df⟩ := hseat.cells
      by_cases hki : k = i
      · have e1 : s' = s := by
          have := HS.out.1
          rw [← hki, hs'] at this
          cases this
          rfl
        subst e1
        have hni : staledN i m.thr.writes (k + 1) M.seats = staledN i m.thr.writes k M.seats := by
          rw [staledN, hm']
          simp [hki]
        have HNI := Lib.hid hni
        clear hni hki
        clear d0 d19 df hseat
        have hpe := neq_seat_same ⟨s', 0, none⟩ wr
        go_wp2_with fail
        go_roundw
        case rel => exact ⟨k + 1, by omega, by go_num, by rw [HNI.out]; exact HW.out, HL.out.1⟩
        case measure => simp [intOf]; omega
      · have hne : s' ≠ s := get_ne HH.out.nod hs' HS.out.1 hki
        have hseat2 := HW.out.each i s t m HS.out.1 HS.out.2.1 (by show (staledN i m.thr.writes k M.seats)[i]? = some m; rw [staledN_self]; exact HS.out.2.2)
        obtain ⟨f0, -, -⟩ := hseat2.cells
        have hor : bits .or .u64 (m'.stale : Int) (m.thr.writes : Int) = ((m'.stale ||| m.thr.writes : Nat) : Int) := u64_or_nat _ _ (staledN_lt i _ hw64 k _ hst m' (List.mem_of_getElem? hm')) hw64
        have hnx : staledN i m.thr.writes (k + 1) M.seats = (staledN i m.thr.writes k M.seats).set k { m' with stale := m'.stale ||| m.thr.writes } := by
          rw [staledN, hm']
          simp [hki]
        have HSE := Lib.hid (And.intro hs' (And.intro ht' hm'))
        have hS0 : (fun w' : World => w'.cell? ⟨s, 0, none⟩ = some (.pointer (some ⟨t, 0, none⟩)) ∧ w'.cell? ⟨s', 19, none⟩ = some (.int .u64 (m'.stale : Int))) wr.drew := ⟨f0, d19⟩
        obtain ⟨_, hrow1, _⟩ := hseat.row
        obtain ⟨_, hrow2, _⟩ := hseat2.row
        have hpe := neq_seat_other (a := ⟨s', 0, none⟩) (b := ⟨s, 0, none⟩) wr (fun e => hne (by cases e; rfl)) hrow1 hrow2
        clear hseat hseat2 hs' ht' hm' d0 d19 df f0 hrow1 hrow2
        go_upto_region 4 with fail
        refine zRegion 12 (S := fun w' : World => w'.cell? ⟨s, 0, none⟩ = some (.pointer (some ⟨t, 0, none⟩)) ∧ w'.cell? ⟨s', 19, none⟩ = some (.int .u64 (m'.stale : Int))) (by kernel_rfl) hS0 (fun hHeld => ?_)
        clear hS0
        refine zd 0 (v := ?_) ?_ ?_
        rotate_left
        · rintro w ⟨hS1, hS2⟩; go_simp; try with_reducible rfl
        simp only [Act.put, pt1, pt2, pt3]
        refine zd 1 (v := ?_) ?_ ?_
        rotate_left
        · rintro w ⟨hS1, hS2⟩; go_simp; try with_reducible rfl
        simp only [Act.put, pt1, pt2, pt3]
        refine zd 2 (v := ?_) ?_ ?_
        rotate_left
        · rintro w ⟨hS1, hS2⟩; go_simp; try with_reducible rfl
        simp only [Act.put, pt1, pt2, pt3]
        refine zd 3 (v := ?_) ?_ ?_
        rotate_left
        · rintro w ⟨hS1, hS2⟩; go_simp; try with_reducible rfl
        simp only [Act.put, pt1, pt2, pt3]
        refine zd 4 (v := ?_) ?_ ?_
        rotate_left
        · rintro w ⟨hS1, hS2⟩; go_simp; try with_reducible rfl
        simp only [Act.put, pt1, pt2, pt3]
        refine zd 5 (v := ?_) ?_ ?_
        rotate_left
        · rintro w ⟨hS1, hS2⟩; go_simp; try with_reducible rfl
        simp only [Act.put, pt1, pt2, pt3]
        refine zd 6 (v := ?_) ?_ ?_
        rotate_left
        · rintro w ⟨hS1, hS2⟩; go_simp; try with_reducible rfl
        simp only [Act.put, pt1, pt2, pt3]
        refine zd 7 (v := ?_) ?_ ?_
        rotate_left
        · rintro w ⟨hS1, hS2⟩; go_simp; try with_reducible rfl
        simp only [Act.put, pt1, pt2, pt3]
        have hbd : Below wr.heap.size wr wr.drew := (Below.refl _ _).drew
        have CR' := Lib.hid (CR.out wr.drew _ _ (HW.out.below hbd) (by show (staledN i m.thr.writes k M.seats)[i]? = some m; rw [staledN_self]; exact HS.out.2.2))
        refine zcl 8 (fun K' hK => ?_)
        go_simp
        go_at_call 124
        refine (CR'.out).mono ?_
        rintro en y ⟨rfl, hby⟩
        have HBY := Lib.hid (hbd.trans (hby.mono hbd.size))
        have HWY := Lib.hid (HW.out.below HBY.out)
        obtain ⟨f0, -, -⟩ := (HWY.out.each i s t m HS.out.1 HS.out.2.1 (by show (staledN i m.thr.writes k M.seats)[i]? = some m; rw [staledN_self]; exact HS.out.2.2)).cells
        obtain ⟨-, d19, df⟩ := (HWY.out.each k s' t' m' HSE.out.1 HSE.out.2.1 HSE.out.2.2).cells
        clear hby hbd CR'
        go_wp2_with fail
        refine hK.out _ _ ?_ (fun hHeld => ?_)
        · exact ⟨f0, d19⟩
        clear hK K' f0
        try simp only [Act.put, pt1, pt2, pt3]
        refine zd 9 (v := ?_) ?_ ?_
        rotate_left
        · rintro w ⟨hS1, hS2⟩; go_simp; try with_reducible rfl
        simp only [Act.put, pt1, pt2, pt3]
        refine zcl 10 (fun K' hK => ?_)
        go_simp
        refine hK.out _ _ (by assumption) (fun hHeld => ?_)
        clear hK K'
        try simp only [Act.put, pt1, pt2, pt3]
        refine zd 11 (v := ?_) ?_ ?_
        rotate_left
        · rintro w ⟨hS1, hS2⟩; go_simp; try with_reducible rfl
        simp only [Act.put, pt1, pt2, pt3]
        refine zla (fun K' hK => ?_)
        go_simp
        refine hK.out _ _ ?_
        clear hK K'
        try simp only [Act.put, pt1, pt2, pt3]
        have hnew := HWY.out.setStale (m'.stale ||| m.thr.writes) HSE.out.1 HSE.out.2.2
        go_wp2_with fail
        go_roundw
        case rel => exact ⟨k + 1, by omega, by go_num, by rw [hnx]; exact hnew.1, (HL.out.1.trans (Lim.of_below HBY.out)).trans (wt_of hnew.2 (fun t ht => by simp at ht; subst ht; rfl))⟩
        case measure => simp [intOf]; omega
    · have e : k = M.seats.length := by omega
      subst e
      clear hk
      obtain ⟨M1, hM1⟩ : ∃ M1 : WorM, M1 = { M with seats := staledN i m.thr.writes M.seats.length M.seats } := ⟨_, rfl⟩
      have hmi : M1.seats[i]? = some m := by rw [hM1]; show (staledN i m.thr.writes M.seats.length M.seats)[i]? = some m; rw [staledN_self]; exact HS.out.2.2
      rw [← hM1] at HW
      have HM1 := Lib.hid hM1
      clear hM1
      have HMI := Lib.hid hmi
      have CR2 := Lib.hid (fun (U : World) (hU : Below wr.heap.size wr U) => CR.out U M1 pv (HW.out.below hU) hmi)
      have CW := Lib.hid (fun (U : World) (hU : Below wr.heap.size wr U) => wake_any pv none 0 M.parked (m.thr.writes : Int) U (parked_at (by have := (HW.out.below hU).park; rw [HM1.out] at this; exact this)) (by obtain ⟨_, a, c, e, _⟩ := RowAt.of_owns HW.out.park; rw [e]; rfl))
      have hKS : ∀ U, Below wr.heap.size wr U → (fun w' : World => w'.cell? ⟨s, 0, none⟩ = some (.pointer (some ⟨t, 0, none⟩)) ∧ w'.cell? ⟨q, 3, none⟩ = some pv ∧ w'.cell? ⟨q, 4, none⟩ = some (.slice none 0 0)) U := fun U hU => by
        have h1 := HW.out.below hU
        obtain ⟨-, -, -, c3, c4, -⟩ := h1.cells
        exact ⟨(h1.each i s t m HS.out.1 HS.out.2.1 HMI.out).cells.1, c3, c4⟩
      have HKS := Lib.hid hKS
      have hS0 : (fun w' : World => w'.cell? ⟨s, 0, none⟩ = some (.pointer (some ⟨t, 0, none⟩)) ∧ w'.cell? ⟨q, 3, none⟩ = some pv ∧ w'.cell? ⟨q, 4, none⟩ = some (.slice none 0 0)) wr.drew := hKS _ (Below.refl _ _).drew
      clear hmi hKS CR
      go_upto_region 6 with fail
      refine zRegion 15 (S := (fun w' : World => w'.cell? ⟨s, 0, none⟩ = some (.pointer (some ⟨t, 0, none⟩)) ∧ w'.cell? ⟨q, 3, none⟩ = some pv ∧ w'.cell? ⟨q, 4, none⟩ = some (.slice none 0 0))) (by kernel_rfl) hS0 (fun hHeld => ?_)
      clear hS0
      refine zd 0 (v := ?_) ?_ ?_
      rotate_left
      · rintro w ⟨hS1, hS2, hS3⟩; go_simp; try with_reducible rfl
      simp only [Act.put, pt1, pt2, pt3]
      refine zd 1 (v := ?_) ?_ ?_
      rotate_left
      · rintro w ⟨hS1, hS2, hS3⟩; go_simp; try with_reducible rfl
      simp only [Act.put, pt1, pt2, pt3]
      refine zd 2 (v := ?_) ?_ ?_
      rotate_left
      · rintro w ⟨hS1, hS2, hS3⟩; go_simp; try with_reducible rfl
      simp only [Act.put, pt1, pt2, pt3]
      refine zd 3 (v := ?_) ?_ ?_
      rotate_left
      · rintro w ⟨hS1, hS2, hS3⟩; go_simp; try with_reducible rfl
      simp only [Act.put, pt1, pt2, pt3]
      refine zd 4 (v := ?_) ?_ ?_
      rotate_left
      · rintro w ⟨hS1, hS2, hS3⟩; go_simp; try with_reducible rfl
      simp only [Act.put, pt1, pt2, pt3]
      refine zd 5 (v := ?_) ?_ ?_
      rotate_left
      · rintro w ⟨hS1, hS2, hS3⟩; go_simp; try with_reducible rfl
      simp only [Act.put, pt1, pt2, pt3]
      refine zd 6 (v := ?_) ?_ ?_
      rotate_left
      · rintro w ⟨hS1, hS2, hS3⟩; go_simp; try with_reducible rfl
      simp only [Act.put, pt1, pt2, pt3]
      refine zd 7 (v := ?_) ?_ ?_
      rotate_left
      · rintro w ⟨hS1, hS2, hS3⟩; go_simp; try with_reducible rfl
      simp only [Act.put, pt1, pt2, pt3]
      refine zReady (rs := [8, 13]) (by kernel_rfl) (by simp) (AllZ.cons 8 rfl (fun K' hK => ?_) (AllZ.cons 13 rfl (fun K' hK => ?_) .nil))
      · go_simp
        have CR' := Lib.hid (CR2.out wr.drew (Below.refl _ _).drew)
        go_at_call 124
        refine (CR'.out).mono ?_
        rintro en y1 ⟨rfl, hby⟩
        have HBy1 := Lib.hid ((show Below wr.heap.size wr wr.drew from (Below.refl _ _).drew).trans (hby.mono (show Below wr.heap.size wr wr.drew from (Below.refl _ _).drew).size))
        have hk8 : ∀ (bx : Nat) (o : Obj), wr.drew.heap[bx]? = some o → y1.heap[bx]? = some o := fun bx o ho => (hby.block _ (block_lt ho)).trans ho
        clear hby CR'
        go_wp2_with fail
        refine hK.out _ _ ?_ (fun hHeld => ?_)
        · exact HKS.out y1 HBy1.out
        clear hK K'
        try simp only [Act.put, pt1, pt2, pt3]
        refine zReady (rs := [9, 13]) (by kernel_rfl) (by simp) (AllZ.cons 9 rfl (fun K' hK => ?_) (AllZ.cons 13 rfl (fun K' hK => ?_) .nil))
        · go_simp
          have CW' := Lib.hid (CW.out y1 HBy1.out)
          go_at_call 125
          refine (CW'.out).mono ?_
          rintro en y2 ⟨v1, v2, rfl, ho1, ho2, hby⟩
          rw [HWK.out] at ho1 ho2
          obtain ⟨-, p1, c1, rfl, -⟩ := RowAt.of_owns ho1
          obtain ⟨-, p2, c2, rfl, -⟩ := RowAt.of_owns ho2
          have HBy2 := Lib.hid ((show Below wr.heap.size wr y1 from HBy1.out).trans (hby.mono (show Below wr.heap.size wr y1 from HBy1.out).size))
          have hk9 : ∀ (bx : Nat) (o : Obj), y1.heap[bx]? = some o → y2.heap[bx]? = some o := fun bx o ho => (hby.block _ (block_lt ho)).trans ho
          have HO1 := Lib.hid (owns_mono ho1 (Nat.le_trans HL.out.2 (show Below wr.heap.size wr y1 from HBy1.out).size))
          have HO2 := Lib.hid (owns_mono ho2 (Nat.le_trans HL.out.2 (show Below wr.heap.size wr y1 from HBy1.out).size))
          clear hby CW' ho1 ho2
          go_wp2_with fail
          refine hK.out _ _ ?_ (fun hHeld => ?_)
          · exact HKS.out y2 HBy2.out
          clear hK K'
          try simp only [Act.put, pt1, pt2, pt3]
          refine zp 10 (v := ?_) ?_ ?_
          rotate_left
          · intro w; go_simp; try with_reducible rfl
          simp only [Act.put, pt1, pt2, pt3]
          refine zp 11 (v := ?_) ?_ ?_
          rotate_left
          · intro w; go_simp; try with_reducible rfl
          simp only [Act.put, pt1, pt2, pt3]
          refine zp 12 (v := ?_) ?_ ?_
          rotate_left
          · intro w; go_simp; try with_reducible rfl
          simp only [Act.put, pt1, pt2, pt3]
          refine zcl 13 (fun K' hK => ?_)
          go_simp
          have hbz : Below wr.heap.size wr y2 := HBy2.out
          have hbA : Below y2.heap.size y2 (y2.alloc (.cells #[.slice none 0 0, .slice none 0 0] 79)) := (Below.refl _ _).alloc (Nat.le_refl _) _
          have hxA : (y2.alloc (.cells #[.slice none 0 0, .slice none 0 0] 79)).heap[y2.heap.size]? = some (.cells #[.slice none 0 0, .slice none 0 0] 79 (0, 0)) := Go.heap_alloc_new y2 _
          have hoA1 := owns_below HO1.out hbA
          have hoA2 := owns_below HO2.out hbA
          clear HO1 HO2
          have hbF := hbz.trans (hbA.mono hbz.size)
          obtain ⟨bx, hbn⟩ : ∃ bx, bx = y2.heap.size := ⟨_, rfl⟩
          rw [← hbn] at hxA ⊢
          have hbx : wr.heap.size ≤ bx := by rw [hbn]; exact hbz.size
          clear hbA hbz hbn
          generalize (y2.alloc (.cells #[.slice none 0 0, .slice none 0 0] 79)) = X at *
          have HBX := Lib.hid hbF
          clear hbF
          have HO1 := Lib.hid hoA1
          have HO2 := Lib.hid hoA2
          have HX := Lib.hid hxA
          clear hoA1 hoA2 hxA
          refine hK.out _ _ ?_ (fun hHeld => ?_)
          · exact HKS.out X HBX.out
          clear hK K'
          try simp only [Act.put, pt1, pt2, pt3]
          obtain ⟨b0, b1⟩ : X.cell? ⟨bx, 0, none⟩ = some (.slice none 0 0) ∧ X.cell? ⟨bx, 1, none⟩ = some (.slice none 0 0) := ⟨cell_of_row _ _ 0 _ _ _ HX.out, cell_of_row _ _ 1 _ _ _ HX.out⟩
          have bf := fun j => frozen_of_row _ _ j _ _ HX.out
          refine zcl 14 (fun K' hK => ?_)
          go_simp
          have hch : Chg (fun b => b = bx) X ((X.setCell ⟨bx, 0, none⟩ (.slice p1 (spotN o) c1)).setCell ⟨bx, 1, none⟩ (.slice none 0 0)) := Chg.setCell (F := fun b => b = bx) (Chg.setCell (F := fun b => b = bx) (Chg.refl _ _) (p := ⟨bx, 0, none⟩) (.inl rfl) _) (p := ⟨bx, 1, none⟩) (.inl rfl) _
          have hx2 := setCells_row bx 79 [(.slice p1 (spotN o) c1), .slice none 0 0] _ 0 X HX.out
          have hb2 : Below wr.heap.size wr ((X.setCell ⟨bx, 0, none⟩ (.slice p1 (spotN o) c1)).setCell ⟨bx, 1, none⟩ (.slice none 0 0)) := (HBX.out.setCell (p := ⟨bx, 0, none⟩) hbx _).setCell (p := ⟨bx, 1, none⟩) hbx _
          have ho1 := owns_chg HO1.out hch (fun b cs hb hs => by subst hb; rw [HX.out] at hs; cases hs)
          have ho2 := owns_chg HO2.out hch (fun b cs hb hs => by subst hb; rw [HX.out] at hs; cases hs)
          simp only [World.setCells, setAll, List.set_cons_zero, List.set_cons_succ, Nat.zero_add] at hx2
          clear b0 b1 bf HX HO1 HO2 hch hHeld
          generalize (X.setCell ⟨bx, 0, none⟩ (.slice p1 (spotN o) c1)).setCell ⟨bx, 1, none⟩ (.slice none 0 0) = X2 at *
          have HX := Lib.hid hx2
          have HBZ := Lib.hid hb2
          have HO1 := Lib.hid ho1
          have HO2 := Lib.hid ho2
          clear hx2 hb2 ho1 ho2 HBX
          refine hK.out _ _ ?_ (fun hHeld => ?_)
          · exact HKS.out X2 HBZ.out
          clear hK K'
          try simp only [Act.put, pt1, pt2, pt3]
          refine zla (fun K' hK => ?_)
          go_simp
          refine hK.out _ _ ?_
          clear hK K'
          try simp only [Act.put, pt1, pt2, pt3]
          clear hHeld
          have hwx := HW.out.below HBZ.out
          obtain ⟨-, -, c2x, c3, c4, -⟩ := hwx.cells
          have cf := fun j => frozen_of_row _ _ j _ _ hwx.blk
          obtain ⟨b0, b1⟩ : X2.cell? ⟨bx, 0, none⟩ = some (.slice p1 (spotN o) c1) ∧ X2.cell? ⟨bx, 1, none⟩ = some (.slice none 0 0) := ⟨cell_of_row _ _ 0 _ _ _ HX.out, cell_of_row _ _ 1 _ _ _ HX.out⟩
          have HWX := Lib.hid hwx
          clear hwx c2x
          go_upto_region 8 with fail
          have hpk := HWX.out.setPark (o := o) (b := false) HO1.out (by simp)
          have ho3 := owns_lim HO2.out hpk.2 rfl
          have hlz := (HL.out.1.trans (Lim.of_below HBZ.out)).trans (wt_of hpk.2 (fun t ht => by simp at ht; subst ht; rfl))
          generalize (X2.setCell ⟨q, 3, none⟩ (.slice p1 (spotN o) c1)).setCell ⟨q, 4, none⟩ (.slice none 0 0) = Z at *
          have HZ := Lib.hid (And.intro hpk.1 (And.intro ho3 hlz))
          clear hpk ho3 hlz c3 c4 cf b0 b1 HX HBZ HO1 HO2 HWX CR2 CW HKS
          go_wp2_with fail
          go_loopw [54, 9] (fun a _ U => ∃ n : Nat, n ≤ 1 ∧ a = .int .i64 n ∧ (n = 0 → WorI kd B U q r ent (.slice (some ⟨b, off, none⟩) M.seats.length vc) (.slice p1 (spotN o) c1) ss ts { M1 with parked := o, fresh := false } ∧ U.ownsRow B 3 1 (.slice p2 (wokN wk) c2) (wokN wk) (wokC wk)) ∧ (n = 1 → WorI kd B U q r ent (.slice (some ⟨b, off, none⟩) M.seats.length vc) (.slice p1 (spotN o) c1) ss ts M' ∧ wokN wk = 1) ∧ Lim WT B w U) (fun a _ _ => 1 - (intOf a).toNat)
          case atStart => exact ⟨0, by omega, rfl, fun _ => ⟨HZ.out.1, HZ.out.2.1⟩, fun h => (by cases h), HZ.out.2.2⟩
          case round =>
            clear HZ
            obtain ⟨n, hn1, rfl, gA, gB, g3⟩ := hrel
            rcases (show n = 0 ∨ n = 1 by omega) with rfl | rfl
            · obtain ⟨g1, g2⟩ := gA rfl
              clear gA gB hn1
              cases wk with
              | none =>
                have hM' := HD.out
                simp only [Option.some.injEq] at hM'
                have HF := Lib.hid (And.intro g1 g3)
                clear g1 g2 g3
                simp only [wokN]
                go_wp2_with fail
                refine bodyPost_end (results_none rfl _ _ _) rfl ⟨rfl, ⟨r, ent, .slice (some ⟨b, off, none⟩) M.seats.length vc, (.slice p1 (spotN o) c1), ss, ts, ?_⟩, HF.out.2⟩
                rw [← hM']
                have := HF.out.1
                rw [HM1.out] at this
                exact this
              | some jd =>
                have hM' := HD.out
                obtain ⟨hid1, m2, hm2, hs2, hM'⟩ : 1 ≤ jd ∧ ∃ m2, (staledN i m.thr.writes M.seats.length M.seats)[(jd - 1).toNat]? = some m2 ∧ m2.thr.state = 2 ∧ { M with seats := (staledN i m.thr.writes M.seats.length M.seats).set (jd - 1).toNat m2.wake, parked := o, fresh := false } = M' := by
                  simp only at hM'
                  split at hM'
                  · rename_i e1
                    refine ⟨e1, ?_⟩
                    split at hM'
                    · rename_i m2 e2
                      split at hM'
                      · rename_i e3
                        exact ⟨m2, e2, e3, by simpa using hM'⟩
                      · cases hM'
                    · cases hM'
                  · cases hM'
                rw [HM1.out] at g1
                have hi2 : (jd - 1).toNat < M.seats.length := by
                  have := (List.getElem?_eq_some_iff.1 hm2).1
                  rwa [staledN_len] at this
                have jf := jd_facts jd M.seats.length hid1 hi2
                obtain ⟨s2, hss2⟩ : ∃ s2, ss[(jd - 1).toNat]? = some s2 := ⟨_, List.getElem?_eq_getElem (by omega)⟩
                obtain ⟨t2, hts2⟩ : ∃ t2, ts[(jd - 1).toNat]? = some t2 := ⟨_, List.getElem?_eq_getElem (by rw [HH.out.len2]; exact hi2)⟩
                have hse2 := g1.each _ s2 t2 m2 hss2 hts2 hm2
                obtain ⟨n0, -, -⟩ := hse2.cells
                obtain ⟨ov2, hth2⟩ := hse2.thr
                have n38 := hth2.cells.2.2.2.1
                rw [hs2] at n38
                have CWK := Lib.hid (thWake_yes t2 wr n38 (hth2.frozen 38))
                obtain ⟨-, p3, c3, e3, hx3⟩ := RowAt.of_owns g2
                obtain ⟨b3, off3, e4, -, hr3⟩ := hx3 (show 0 < 1 by decide)
                simp only [Value.slice.injEq] at e3
                obtain ⟨rfl, -, rfl⟩ := e3
                subst e4
                have n3 : wr.cell? ⟨b3, off3, none⟩ = some (.int .i64 jd) := hr3 0 _ rfl
                have nst := g1.seatAt hss2
                have nst2 : wr.cell? ⟨b, off + (jd.toNat - 1), none⟩ = some (.pointer (some ⟨s2, 0, none⟩)) := by rw [jf.2.2.2]; exact nst
                have ib3 : jd ≤ (M.seats.length : Int) := jf.2.2.1
                have nq := g1.cells.2.2.1
                have ib1 : (0 : Int) ≤ jd - 1 := jf.1
                have ib2 : jd - 1 < (M.seats.length : Int) := jf.2.1
                have hnewT := hth2.set 0 (.int .i64 0) m2.wake.thr rfl rfl rfl rfl
                have hnewC := thr_chg hth2 (Chg.setCell (F := fun b => b = t2) (Chg.refl _ _) (p := ⟨t2, 38, none⟩) (.inl rfl) (.int .i64 0))
                have hnewW := g1.thread hts2 hm2 ⟨ov2, hnewT⟩ (g1.rec_.keep hnewC) (tt_ht hnewC) rfl rfl
                have HNW := Lib.hid (And.intro hnewW (g3.trans (wt_limH (tt_ht (B := B) hnewC) hth2.row hth2.base)))
                have HM' := Lib.hid hM'
                clear jf nst
                clear g1 g2 g3 hse2 hth2 hnewT hnewC hnewW hx3 hr3 hM' hm2 hts2 hss2 hi2 hs2
                simp only [wokN]
                go_wp2_with fail
                refine (CWK.out).mono ?_
                rintro en y ⟨rfl, rfl⟩
                go_wp2_with fail
                go_roundw
                case rel =>
                  refine ⟨_, _, _, _, _, _, _, _, _, _, _, _, _, _, _, _, _, _, ?_, rfl⟩
                  exact ⟨1, Nat.le_refl _, (by first | rfl | go_num | simp), fun h => (by cases h), fun _ => ⟨by rw [← HM'.out]; exact HNW.out.1, by first | exact trivial | rfl⟩, HNW.out.2⟩
                case measure => simp [intOf]
            · obtain ⟨g1, g2⟩ := gB rfl
              have HF := Lib.hid (And.intro g1 g3)
              clear gA gB hn1 g1 g3
              go_wp2_with fail
              refine bodyPost_end (results_none rfl _ _ _) rfl ⟨rfl, ⟨r, ent, _, _, ss, ts, HF.out.1⟩, HF.out.2⟩
        · go_simp
          have hbz : Below wr.heap.size wr y1 := HBy1.out
          have hbA : Below y1.heap.size y1 (y1.alloc (.cells #[.slice none 0 0, .slice none 0 0] 79)) := (Below.refl _ _).alloc (Nat.le_refl _) _
          have hxA : (y1.alloc (.cells #[.slice none 0 0, .slice none 0 0] 79)).heap[y1.heap.size]? = some (.cells #[.slice none 0 0, .slice none 0 0] 79 (0, 0)) := Go.heap_alloc_new y1 _
          have hbF := hbz.trans (hbA.mono hbz.size)
          obtain ⟨bx, hbn⟩ : ∃ bx, bx = y1.heap.size := ⟨_, rfl⟩
          rw [← hbn] at hxA ⊢
          have hbx : wr.heap.size ≤ bx := by rw [hbn]; exact hbz.size
          clear hbA hbz hbn
          generalize (y1.alloc (.cells #[.slice none 0 0, .slice none 0 0] 79)) = V at *
          have HBV := Lib.hid hbF
          clear hbF
          have HXA := Lib.hid hxA
          clear hxA
          refine hK.out _ _ ?_ (fun hHeld => ?_)
          · exact HKS.out V HBV.out
          clear hK K'
          try simp only [Act.put, pt1, pt2, pt3]
          refine zcl 9 (fun K' hK => ?_)
          go_simp
          have CW' := Lib.hid (CW.out V HBV.out)
          go_at_call 125
          refine (CW'.out).mono ?_
          rintro en X ⟨v1, v2, rfl, ho1, ho2, hby⟩
          rw [HWK.out] at ho1 ho2
          obtain ⟨-, p1, c1, rfl, -⟩ := RowAt.of_owns ho1
          obtain ⟨-, p2, c2, rfl, -⟩ := RowAt.of_owns ho2
          have HBX := Lib.hid ((show Below wr.heap.size wr V from HBV.out).trans (hby.mono (show Below wr.heap.size wr V from HBV.out).size))
          have hk9 : ∀ (bx : Nat) (o : Obj), V.heap[bx]? = some o → X.heap[bx]? = some o := fun bx o ho => (hby.block _ (block_lt ho)).trans ho
          have HO1 := Lib.hid (owns_mono ho1 (Nat.le_trans HL.out.2 (show Below wr.heap.size wr V from HBV.out).size))
          have HO2 := Lib.hid (owns_mono ho2 (Nat.le_trans HL.out.2 (show Below wr.heap.size wr V from HBV.out).size))
          clear hby CW' ho1 ho2
          go_wp2_with fail
          refine hK.out _ _ ?_ (fun hHeld => ?_)
          · exact HKS.out X HBX.out
          clear hK K'
          try simp only [Act.put, pt1, pt2, pt3]
          have HX := Lib.hid (hk9 _ _ HXA.out)
          refine zp 10 (v := ?_) ?_ ?_
          rotate_left
          · intro w; go_simp; try with_reducible rfl
          simp only [Act.put, pt1, pt2, pt3]
          refine zp 11 (v := ?_) ?_ ?_
          rotate_left
          · intro w; go_simp; try with_reducible rfl
          simp only [Act.put, pt1, pt2, pt3]
          refine zp 12 (v := ?_) ?_ ?_
          rotate_left
          · intro w; go_simp; try with_reducible rfl
          simp only [Act.put, pt1, pt2, pt3]
          obtain ⟨b0, b1⟩ : X.cell? ⟨bx, 0, none⟩ = some (.slice none 0 0) ∧ X.cell? ⟨bx, 1, none⟩ = some (.slice none 0 0) := ⟨cell_of_row _ _ 0 _ _ _ HX.out, cell_of_row _ _ 1 _ _ _ HX.out⟩
          have bf := fun j => frozen_of_row _ _ j _ _ HX.out
          refine zcl 14 (fun K' hK => ?_)
          go_simp
          have hch : Chg (fun b => b = bx) X ((X.setCell ⟨bx, 0, none⟩ (.slice p1 (spotN o) c1)).setCell ⟨bx, 1, none⟩ (.slice none 0 0)) := Chg.setCell (F := fun b => b = bx) (Chg.setCell (F := fun b => b = bx) (Chg.refl _ _) (p := ⟨bx, 0, none⟩) (.inl rfl) _) (p := ⟨bx, 1, none⟩) (.inl rfl) _
          have hx2 := setCells_row bx 79 [(.slice p1 (spotN o) c1), .slice none 0 0] _ 0 X HX.out
          have hb2 : Below wr.heap.size wr ((X.setCell ⟨bx, 0, none⟩ (.slice p1 (spotN o) c1)).setCell ⟨bx, 1, none⟩ (.slice none 0 0)) := (HBX.out.setCell (p := ⟨bx, 0, none⟩) hbx _).setCell (p := ⟨bx, 1, none⟩) hbx _
          have ho1 := owns_chg HO1.out hch (fun b cs hb hs => by subst hb; rw [HX.out] at hs; cases hs)
          have ho2 := owns_chg HO2.out hch (fun b cs hb hs => by subst hb; rw [HX.out] at hs; cases hs)
          simp only [World.setCells, setAll, List.set_cons_zero, List.set_cons_succ, Nat.zero_add] at hx2
          clear b0 b1 bf HX HO1 HO2 hch hHeld
          generalize (X.setCell ⟨bx, 0, none⟩ (.slice p1 (spotN o) c1)).setCell ⟨bx, 1, none⟩ (.slice none 0 0) = X2 at *
          have HX := Lib.hid hx2
          have HBZ := Lib.hid hb2
          have HO1 := Lib.hid ho1
          have HO2 := Lib.hid ho2
          clear hx2 hb2 ho1 ho2 HBX
          refine hK.out _ _ ?_ (fun hHeld => ?_)
          · exact HKS.out X2 HBZ.out
          clear hK K'
          try simp only [Act.put, pt1, pt2, pt3]
          refine zla (fun K' hK => ?_)
          go_simp
          refine hK.out _ _ ?_
          clear hK K'
          try simp only [Act.put, pt1, pt2, pt3]
          clear hHeld
          have hwx := HW.out.below HBZ.out
          obtain ⟨-, -, c2x, c3, c4, -⟩ := hwx.cells
          have cf := fun j => frozen_of_row _ _ j _ _ hwx.blk
          obtain ⟨b0, b1⟩ : X2.cell? ⟨bx, 0, none⟩ = some (.slice p1 (spotN o) c1) ∧ X2.cell? ⟨bx, 1, none⟩ = some (.slice none 0 0) := ⟨cell_of_row _ _ 0 _ _ _ HX.out, cell_of_row _ _ 1 _ _ _ HX.out⟩
          have HWX := Lib.hid hwx
          clear hwx c2x
          go_upto_region 8 with fail
          have hpk := HWX.out.setPark (o := o) (b := false) HO1.out (by simp)
          have ho3 := owns_lim HO2.out hpk.2 rfl
          have hlz := (HL.out.1.trans (Lim.of_below HBZ.out)).trans (wt_of hpk.2 (fun t ht => by simp at ht; subst ht; rfl))
          generalize (X2.setCell ⟨q, 3, none⟩ (.slice p1 (spotN o) c1)).setCell ⟨q, 4, none⟩ (.slice none 0 0) = Z at *
          have HZ := Lib.hid (And.intro hpk.1 (And.intro ho3 hlz))
          clear hpk ho3 hlz c3 c4 cf b0 b1 HX HBZ HO1 HO2 HWX CR2 CW HKS
          go_wp2_with fail
          go_loopw [54, 9] (fun a _ U => ∃ n : Nat, n ≤ 1 ∧ a = .int .i64 n ∧ (n = 0 → WorI kd B U q r ent (.slice (some ⟨b, off, none⟩) M.seats.length vc) (.slice p1 (spotN o) c1) ss ts { M1 with parked := o, fresh := false } ∧ U.ownsRow B 3 1 (.slice p2 (wokN wk) c2) (wokN wk) (wokC wk)) ∧ (n = 1 → WorI kd B U q r ent (.slice (some ⟨b, off, none⟩) M.seats.length vc) (.slice p1 (spotN o) c1) ss ts M' ∧ wokN wk = 1) ∧ Lim WT B w U) (fun a _ _ => 1 - (intOf a).toNat)
          case atStart => exact ⟨0, by omega, rfl, fun _ => ⟨HZ.out.1, HZ.out.2.1⟩, fun h => (by cases h), HZ.out.2.2⟩
          case round =>
            clear HZ
            obtain ⟨n, hn1, rfl, gA, gB, g3⟩ := hrel
            rcases (show n = 0 ∨ n = 1 by omega) with rfl | rfl
            · obtain ⟨g1, g2⟩ := gA rfl
              clear gA gB hn1
              cases wk with
              | none =>
                have hM' := HD.out
                simp only [Option.some.injEq] at hM'
                have HF := Lib.hid (And.intro g1 g3)
                clear g1 g2 g3
                simp only [wokN]
                go_wp2_with fail
                refine bodyPost_end (results_none rfl _ _ _) rfl ⟨rfl, ⟨r, ent, .slice (some ⟨b, off, none⟩) M.seats.length vc, (.slice p1 (spotN o) c1), ss, ts, ?_⟩, HF.out.2⟩
                rw [← hM']
                have := HF.out.1
                rw [HM1.out] at this
                exact this
              | some jd =>
                have hM' := HD.out
                obtain ⟨hid1, m2, hm2, hs2, hM'⟩ : 1 ≤ jd ∧ ∃ m2, (staledN i m.thr.writes M.seats.length M.seats)[(jd - 1).toNat]? = some m2 ∧ m2.thr.state = 2 ∧ { M with seats := (staledN i m.thr.writes M.seats.length M.seats).set (jd - 1).toNat m2.wake, parked := o, fresh := false } = M' := by
                  simp only at hM'
                  split at hM'
                  · rename_i e1
                    refine ⟨e1, ?_⟩
                    split at hM'
                    · rename_i m2 e2
                      split at hM'
                      · rename_i e3
                        exact ⟨m2, e2, e3, by simpa using hM'⟩
                      · cases hM'
                    · cases hM'
                  · cases hM'
                rw [HM1.out] at g1
                have hi2 : (jd - 1).toNat < M.seats.length := by
                  have := (List.getElem?_eq_some_iff.1 hm2).1
                  rwa [staledN_len] at this
                have jf := jd_facts jd M.seats.length hid1 hi2
                obtain ⟨s2, hss2⟩ : ∃ s2, ss[(jd - 1).toNat]? = some s2 := ⟨_, List.getElem?_eq_getElem (by omega)⟩
                obtain ⟨t2, hts2⟩ : ∃ t2, ts[(jd - 1).toNat]? = some t2 := ⟨_, List.getElem?_eq_getElem (by rw [HH.out.len2]; exact hi2)⟩
                have hse2 := g1.each _ s2 t2 m2 hss2 hts2 hm2
                obtain ⟨n0, -, -⟩ := hse2.cells
                obtain ⟨ov2, hth2⟩ := hse2.thr
                have n38 := hth2.cells.2.2.2.1
                rw [hs2] at n38
                have CWK := Lib.hid (thWake_yes t2 wr n38 (hth2.frozen 38))
                obtain ⟨-, p3, c3, e3, hx3⟩ := RowAt.of_owns g2
                obtain ⟨b3, off3, e4, -, hr3⟩ := hx3 (show 0 < 1 by decide)
                simp only [Value.slice.injEq] at e3
                obtain ⟨rfl, -, rfl⟩ := e3
                subst e4
                have n3 : wr.cell? ⟨b3, off3, none⟩ = some (.int .i64 jd) := hr3 0 _ rfl
                have nst := g1.seatAt hss2
                have nst2 : wr.cell? ⟨b, off + (jd.toNat - 1), none⟩ = some (.pointer (some ⟨s2, 0, none⟩)) := by rw [jf.2.2.2]; exact nst
                have ib3 : jd ≤ (M.seats.length : Int) := jf.2.2.1
                have nq := g1.cells.2.2.1
                have ib1 : (0 : Int) ≤ jd - 1 := jf.1
                have ib2 : jd - 1 < (M.seats.length : Int) := jf.2.1
                have hnewT := hth2.set 0 (.int .i64 0) m2.wake.thr rfl rfl rfl rfl
                have hnewC := thr_chg hth2 (Chg.setCell (F := fun b => b = t2) (Chg.refl _ _) (p := ⟨t2, 38, none⟩) (.inl rfl) (.int .i64 0))
                have hnewW := g1.thread hts2 hm2 ⟨ov2, hnewT⟩ (g1.rec_.keep hnewC) (tt_ht hnewC) rfl rfl
                have HNW := Lib.hid (And.intro hnewW (g3.trans (wt_limH (tt_ht (B := B) hnewC) hth2.row hth2.base)))
                have HM' := Lib.hid hM'
                clear jf nst
                clear g1 g2 g3 hse2 hth2 hnewT hnewC hnewW hx3 hr3 hM' hm2 hts2 hss2 hi2 hs2
                simp only [wokN]
                go_wp2_with fail
                refine (CWK.out).mono ?_
                rintro en y ⟨rfl, rfl⟩
                go_wp2_with fail
                go_roundw
                case rel =>
                  refine ⟨_, _, _, _, _, _, _, _, _, _, _, _, _, _, _, _, _, _, ?_, rfl⟩
                  exact ⟨1, Nat.le_refl _, (by first | rfl | go_num | simp), fun h => (by cases h), fun _ => ⟨by rw [← HM'.out]; exact HNW.out.1, by first | exact trivial | rfl⟩, HNW.out.2⟩
                case measure => simp [intOf]
            · obtain ⟨g1, g2⟩ := gB rfl
              have HF := Lib.hid (And.intro g1 g3)
              clear gA gB hn1 g1 g3
              go_wp2_with fail
              refine bodyPost_end (results_none rfl _ _ _) rfl ⟨rfl, ⟨r, ent, _, _, ss, ts, HF.out.1⟩, HF.out.2⟩
      · go_simp
        have hbz : Below wr.heap.size wr wr := Below.refl _ _
        have hbA : Below wr.heap.size wr (wr.alloc (.cells #[.slice none 0 0, .slice none 0 0] 79)).drew := ((Below.refl _ _).alloc (Nat.le_refl _) _).drew
        have hxA : (wr.alloc (.cells #[.slice none 0 0, .slice none 0 0] 79)).drew.heap[wr.heap.size]? = some (.cells #[.slice none 0 0, .slice none 0 0] 79 (0, 0)) := Go.heap_alloc_new wr _
        have hbF := hbz.trans (hbA.mono hbz.size)
        obtain ⟨bx, hbn⟩ : ∃ bx, bx = wr.heap.size := ⟨_, rfl⟩
        rw [← hbn] at hxA ⊢
        have hbx : wr.heap.size ≤ bx := by rw [hbn]; exact hbz.size
        clear hbA hbz hbn
        generalize (wr.alloc (.cells #[.slice none 0 0, .slice none 0 0] 79)).drew = V at *
        have HBV := Lib.hid hbF
        clear hbF
        have HXA := Lib.hid hxA
        clear hxA
        refine hK.out _ _ ?_ (fun hHeld => ?_)
        · exact HKS.out V HBV.out
        clear hK K'
        try simp only [Act.put, pt1, pt2, pt3]
        refine zcl 8 (fun K' hK => ?_)
        go_simp
        have CR' := Lib.hid (CR2.out V HBV.out)
        go_at_call 124
        refine (CR'.out).mono ?_
        rintro en y1 ⟨rfl, hby⟩
        have HBy1 := Lib.hid ((show Below wr.heap.size wr V from HBV.out).trans (hby.mono (show Below wr.heap.size wr V from HBV.out).size))
        have hk8 : ∀ (bx : Nat) (o : Obj), V.heap[bx]? = some o → y1.heap[bx]? = some o := fun bx o ho => (hby.block _ (block_lt ho)).trans ho
        clear hby CR'
        go_wp2_with fail
        refine hK.out _ _ ?_ (fun hHeld => ?_)
        · exact HKS.out y1 HBy1.out
        clear hK K'
        try simp only [Act.put, pt1, pt2, pt3]
        refine zcl 9 (fun K' hK => ?_)
        go_simp
        have CW' := Lib.hid (CW.out y1 HBy1.out)
        go_at_call 125
        refine (CW'.out).mono ?_
        rintro en X ⟨v1, v2, rfl, ho1, ho2, hby⟩
        rw [HWK.out] at ho1 ho2
        obtain ⟨-, p1, c1, rfl, -⟩ := RowAt.of_owns ho1
        obtain ⟨-, p2, c2, rfl, -⟩ := RowAt.of_owns ho2
        have HBX := Lib.hid ((show Below wr.heap.size wr y1 from HBy1.out).trans (hby.mono (show Below wr.heap.size wr y1 from HBy1.out).size))
        have hk9 : ∀ (bx : Nat) (o : Obj), y1.heap[bx]? = some o → X.heap[bx]? = some o := fun bx o ho => (hby.block _ (block_lt ho)).trans ho
        have HO1 := Lib.hid (owns_mono ho1 (Nat.le_trans HL.out.2 (show Below wr.heap.size wr y1 from HBy1.out).size))
        have HO2 := Lib.hid (owns_mono ho2 (Nat.le_trans HL.out.2 (show Below wr.heap.size wr y1 from HBy1.out).size))
        clear hby CW' ho1 ho2
        go_wp2_with fail
        refine hK.out _ _ ?_ (fun hHeld => ?_)
        · exact HKS.out X HBX.out
        clear hK K'
        try simp only [Act.put, pt1, pt2, pt3]
        have HX := Lib.hid (hk9 _ _ (hk8 _ _ HXA.out))
        refine zp 10 (v := ?_) ?_ ?_
        rotate_left
        · intro w; go_simp; try with_reducible rfl
        simp only [Act.put, pt1, pt2, pt3]
        refine zp 11 (v := ?_) ?_ ?_
        rotate_left
        · intro w; go_simp; try with_reducible rfl
        simp only [Act.put, pt1, pt2, pt3]
        refine zp 12 (v := ?_) ?_ ?_
        rotate_left
        · intro w; go_simp; try with_reducible rfl
        simp only [Act.put, pt1, pt2, pt3]
        obtain ⟨b0, b1⟩ : X.cell? ⟨bx, 0, none⟩ = some (.slice none 0 0) ∧ X.cell? ⟨bx, 1, none⟩ = some (.slice none 0 0) := ⟨cell_of_row _ _ 0 _ _ _ HX.out, cell_of_row _ _ 1 _ _ _ HX.out⟩
        have bf := fun j => frozen_of_row _ _ j _ _ HX.out
        refine zcl 14 (fun K' hK => ?_)
        go_simp
        have hch : Chg (fun b => b = bx) X ((X.setCell ⟨bx, 0, none⟩ (.slice p1 (spotN o) c1)).setCell ⟨bx, 1, none⟩ (.slice none 0 0)) := Chg.setCell (F := fun b => b = bx) (Chg.setCell (F := fun b => b = bx) (Chg.refl _ _) (p := ⟨bx, 0, none⟩) (.inl rfl) _) (p := ⟨bx, 1, none⟩) (.inl rfl) _
        have hx2 := setCells_row bx 79 [(.slice p1 (spotN o) c1), .slice none 0 0] _ 0 X HX.out
        have hb2 : Below wr.heap.size wr ((X.setCell ⟨bx, 0, none⟩ (.slice p1 (spotN o) c1)).setCell ⟨bx, 1, none⟩ (.slice none 0 0)) := (HBX.out.setCell (p := ⟨bx, 0, none⟩) hbx _).setCell (p := ⟨bx, 1, none⟩) hbx _
        have ho1 := owns_chg HO1.out hch (fun b cs hb hs => by subst hb; rw [HX.out] at hs; cases hs)
        have ho2 := owns_chg HO2.out hch (fun b cs hb hs => by subst hb; rw [HX.out] at hs; cases hs)
        simp only [World.setCells, setAll, List.set_cons_zero, List.set_cons_succ, Nat.zero_add] at hx2
        clear b0 b1 bf HX HO1 HO2 hch hHeld
        generalize (X.setCell ⟨bx, 0, none⟩ (.slice p1 (spotN o) c1)).setCell ⟨bx, 1, none⟩ (.slice none 0 0) = X2 at *
        have HX := Lib.hid hx2
        have HBZ := Lib.hid hb2
        have HO1 := Lib.hid ho1
        have HO2 := Lib.hid ho2
        clear hx2 hb2 ho1 ho2 HBX
        refine hK.out _ _ ?_ (fun hHeld => ?_)
        · exact HKS.out X2 HBZ.out
        clear hK K'
        try simp only [Act.put, pt1, pt2, pt3]
        refine zla (fun K' hK => ?_)
        go_simp
        refine hK.out _ _ ?_
        clear hK K'
        try simp only [Act.put, pt1, pt2, pt3]
        clear hHeld
        have hwx := HW.out.below HBZ.out
        obtain ⟨-, -, c2x, c3, c4, -⟩ := hwx.cells
        have cf := fun j => frozen_of_row _ _ j _ _ hwx.blk
        obtain ⟨b0, b1⟩ : X2.cell? ⟨bx, 0, none⟩ = some (.slice p1 (spotN o) c1) ∧ X2.cell? ⟨bx, 1, none⟩ = some (.slice none 0 0) := ⟨cell_of_row _ _ 0 _ _ _ HX.out, cell_of_row _ _ 1 _ _ _ HX.out⟩
        have HWX := Lib.hid hwx
        clear hwx c2x
        go_upto_region 8 with fail
        have hpk := HWX.out.setPark (o := o) (b := false) HO1.out (by simp)
        have ho3 := owns_lim HO2.out hpk.2 rfl
        have hlz := (HL.out.1.trans (Lim.of_below HBZ.out)).trans (wt_of hpk.2 (fun t ht => by simp at ht; subst ht; rfl))
        generalize (X2.setCell ⟨q, 3, none⟩ (.slice p1 (spotN o) c1)).setCell ⟨q, 4, none⟩ (.slice none 0 0) = Z at *
        have HZ := Lib.hid (And.intro hpk.1 (And.intro ho3 hlz))
        clear hpk ho3 hlz c3 c4 cf b0 b1 HX HBZ HO1 HO2 HWX CR2 CW HKS
        go_wp2_with fail
        go_loopw [54, 9] (fun a _ U => ∃ n : Nat, n ≤ 1 ∧ a = .int .i64 n ∧ (n = 0 → WorI kd B U q r ent (.slice (some ⟨b, off, none⟩) M.seats.length vc) (.slice p1 (spotN o) c1) ss ts { M1 with parked := o, fresh := false } ∧ U.ownsRow B 3 1 (.slice p2 (wokN wk) c2) (wokN wk) (wokC wk)) ∧ (n = 1 → WorI kd B U q r ent (.slice (some ⟨b, off, none⟩) M.seats.length vc) (.slice p1 (spotN o) c1) ss ts M' ∧ wokN wk = 1) ∧ Lim WT B w U) (fun a _ _ => 1 - (intOf a).toNat)
        case atStart => exact ⟨0, by omega, rfl, fun _ => ⟨HZ.out.1, HZ.out.2.1⟩, fun h => (by cases h), HZ.out.2.2⟩
        case round =>
          clear HZ
          obtain ⟨n, hn1, rfl, gA, gB, g3⟩ := hrel
          rcases (show n = 0 ∨ n = 1 by omega) with rfl | rfl
          · obtain ⟨g1, g2⟩ := gA rfl
            clear gA gB hn1
            cases wk with
            | none =>
              have hM' := HD.out
              simp only [Option.some.injEq] at hM'
              have HF := Lib.hid (And.intro g1 g3)
              clear g1 g2 g3
              simp only [wokN]
              go_wp2_with fail
              refine bodyPost_end (results_none rfl _ _ _) rfl ⟨rfl, ⟨r, ent, .slice (some ⟨b, off, none⟩) M.seats.length vc, (.slice p1 (spotN o) c1), ss, ts, ?_⟩, HF.out.2⟩
              rw [← hM']
              have := HF.out.1
              rw [HM1.out] at this
              exact this
            | some jd =>
              have hM' := HD.out
              obtain ⟨hid1, m2, hm2, hs2, hM'⟩ : 1 ≤ jd ∧ ∃ m2, (staledN i m.thr.writes M.seats.length M.seats)[(jd - 1).toNat]? = some m2 ∧ m2.thr.state = 2 ∧ { M with seats := (staledN i m.thr.writes M.seats.length M.seats).set (jd - 1).toNat m2.wake, parked := o, fresh := false } = M' := by
                simp only at hM'
                split at hM'
                · rename_i e1
                  refine ⟨e1, ?_⟩
                  split at hM'
                  · rename_i m2 e2
                    split at hM'
                    · rename_i e3
                      exact ⟨m2, e2, e3, by simpa using hM'⟩
                    · cases hM'
                  · cases hM'
                · cases hM'
              rw [HM1.out] at g1
              have hi2 : (jd - 1).toNat < M.seats.length := by
                have := (List.getElem?_eq_some_iff.1 hm2).1
                rwa [staledN_len] at this
              have jf := jd_facts jd M.seats.length hid1 hi2
              obtain ⟨s2, hss2⟩ : ∃ s2, ss[(jd - 1).toNat]? = some s2 := ⟨_, List.getElem?_eq_getElem (by omega)⟩
              obtain ⟨t2, hts2⟩ : ∃ t2, ts[(jd - 1).toNat]? = some t2 := ⟨_, List.getElem?_eq_getElem (by rw [HH.out.len2]; exact hi2)⟩
              have hse2 := g1.each _ s2 t2 m2 hss2 hts2 hm2
              obtain ⟨n0, -, -⟩ := hse2.cells
              obtain ⟨ov2, hth2⟩ := hse2.thr
              have n38 := hth2.cells.2.2.2.1
              rw [hs2] at n38
              have CWK := Lib.hid (thWake_yes t2 wr n38 (hth2.frozen 38))
              obtain ⟨-, p3, c3, e3, hx3⟩ := RowAt.of_owns g2
              obtain ⟨b3, off3, e4, -, hr3⟩ := hx3 (show 0 < 1 by decide)
              simp only [Value.slice.injEq] at e3
              obtain ⟨rfl, -, rfl⟩ := e3
              subst e4
              have n3 : wr.cell? ⟨b3, off3, none⟩ = some (.int .i64 jd) := hr3 0 _ rfl
              have nst := g1.seatAt hss2
              have nst2 : wr.cell? ⟨b, off + (jd.toNat - 1), none⟩ = some (.pointer (some ⟨s2, 0, none⟩)) := by rw [jf.2.2.2]; exact nst
              have ib3 : jd ≤ (M.seats.length : Int) := jf.2.2.1
              have nq := g1.cells.2.2.1
              have ib1 : (0 : Int) ≤ jd - 1 := jf.1
              have ib2 : jd - 1 < (M.seats.length : Int) := jf.2.1
              have hnewT := hth2.set 0 (.int .i64 0) m2.wake.thr rfl rfl rfl rfl
              have hnewC := thr_chg hth2 (Chg.setCell (F := fun b => b = t2) (Chg.refl _ _) (p := ⟨t2, 38, none⟩) (.inl rfl) (.int .i64 0))
              have hnewW := g1.thread hts2 hm2 ⟨ov2, hnewT⟩ (g1.rec_.keep hnewC) (tt_ht hnewC) rfl rfl
              have HNW := Lib.hid (And.intro hnewW (g3.trans (wt_limH (tt_ht (B := B) hnewC) hth2.row hth2.base)))
              have HM' := Lib.hid hM'
              clear jf nst
              clear g1 g2 g3 hse2 hth2 hnewT hnewC hnewW hx3 hr3 hM' hm2 hts2 hss2 hi2 hs2
              simp only [wokN]
              go_wp2_with fail
              refine (CWK.out).mono ?_
              rintro en y ⟨rfl, rfl⟩
              go_wp2_with fail
              go_roundw
              case rel =>
                refine ⟨_, _, _, _, _, _, _, _, _, _, _, _, _, _, _, _, _, _, ?_, rfl⟩
                exact ⟨1, Nat.le_refl _, (by first | rfl | go_num | simp), fun h => (by cases h), fun _ => ⟨by rw [← HM'.out]; exact HNW.out.1, by first | exact trivial | rfl⟩, HNW.out.2⟩
              case measure => simp [intOf]
          · obtain ⟨g1, g2⟩ := gB rfl
            have HF := Lib.hid (And.intro g1 g3)
            clear gA gB hn1 g1 g3
            go_wp2_with fail
            refine bodyPost_end (results_none rfl _ _ _) rfl ⟨rfl, ⟨r, ent, _, _, ss, ts, HF.out.1⟩, HF.out.2⟩
end Go.Proofs.YteflpdhgojcmcaaGreatDoor
