/- The walks of trial's done and Order, of a world with one thread that is done. maps.Values, slices.Collect, SortedFunc at rows of history's 'told': of a map with one or none. No conditions but those that each theorem names. -/
import Derived.Test.YteflpdhgojcmcaaGreatDoorU01
import Derived.Test.YteflpdhgojcmcaaGreatDoorU42
import Derived.Test.YteflpdhgojcmcaaGreatDoorU10
namespace Go.Proofs.YteflpdhgojcmcaaGreatDoor
open Go.RowKit PSet PMat
theorem WorS.later {kd : Kd} {B : Nat} {w w' : World} {q : Nat} {M : WorM} (h : WorS kd B w q M) (hc : Below w.heap.size w w') : WorS kd B w' q M := by
  obtain ⟨r, ent, sv, pv, ss, ts, h⟩ := h
  exact ⟨r, ent, sv, pv, ss, ts, h.below hc⟩
theorem makeMap32 (w : World) : (Instr.makeMap 32 none).run Tryz.prog w = .ok (.map (some w.heap.size)) (w.alloc (.map #[] 0)) := by kernel_rfl
def doneE : Array MapEntry := #[{ key := .int .i64 1, val := .int .i64 1, born := 0 }]
set_option maxRecDepth 100000 in
theorem done45 {kd : Kd} {B : Nat} {w : World} {q : Nat} {M : WorM} (m : SeatM) (h : WorS kd B w q M) (hM : M.seats = [m]) (hfew : m.thr.ops.length ≤ 100000) (hs : m.thr.state = 3) (hid : m.thr.id = 1) :
    Calls Tryz.prog 45 #[.pointer (some ⟨q, 0, none⟩)] w fun en w' => ∃ mb, en = .returned (.map (some mb)) ∧ w'.heap[mb]? = some (.map doneE 1) ∧ Below w.heap.size w w' := by
  have hb0 : Below w.heap.size w (w.alloc (.map #[] 0)) := (Below.refl _ _).alloc (Nat.le_refl _) _
  have hm0 : (w.alloc (.map #[] 0)).heap[w.heap.size]? = some (.map #[] 0) := Go.heap_alloc_new _ _
  obtain ⟨W, hW⟩ : ∃ W, W = w.alloc (.map #[] 0) := ⟨_, rfl⟩
  rw [← hW] at hb0 hm0
  have hWS := h.later hb0
  have C1 := Lib.hid (scJobs m hWS hM hfew)
  have HW := Lib.hid hWS
  have HB := Lib.hid hb0
  have HM := Lib.hid hm0
  have HS := Lib.hid (And.intro hM (And.intro hs hid))
  have hmk := makeMap32 w
  rw [← hW] at hmk
  clear h hWS hb0 hm0 hM hs hid hW
  go_enter Tryz.func45, Tryz.ntmps45
  go_upto_region 2 with fail
  clear hmk
  go_wp2_with fail
  refine (C1.out).mono ?_
  rintro en y ⟨v, lv, rfl, hown, -, hby⟩
  obtain ⟨jb, jc, rfl, -, -, -, -⟩ := owns_block hown (by decide)
  have HBY := Lib.hid (HB.out.trans (hby.mono HB.out.size))
  have HMY := Lib.hid ((hby.block _ (block_lt HM.out)).trans HM.out)
  obtain ⟨t, r, hth, hcell, hc10⟩ := scThreadM (HW.out.later hby) 0 m (by rw [HS.out.1]; rfl)
  have hc11 := thState t m.thr.state y hcell
  rw [HS.out.2.1] at hc11
  obtain ⟨ov, hti⟩ := hth
  have hc12 := thId t (m.thr.row r ov) (.int .i64 1) y hti.at (by rw [show (39 : Nat) = 38 + 1 from rfl, ThrM.row_get hti.regs 1 (by decide)]; simp [ThrM.tail, HS.out.2.2])
  have C2 := Lib.hid hc10
  have C3 := Lib.hid hc11
  have C4 := Lib.hid hc12
  clear hby hown hti hcell hc10 hc11 hc12 C1
  go_wp2_with fail
  refine wp_loop_rounds 2 ?_
  rw [rounds_succ]
  go_wp2_with fail
  refine (C2.out).mono ?_
  rintro en y1 ⟨rfl, rfl⟩
  go_wp2_with fail
  refine (C3.out).mono ?_
  rintro en y1 ⟨rfl, rfl⟩
  go_wp2_with fail
  refine (C4.out).mono ?_
  rintro en z ⟨rfl, hbz⟩
  have hmz := (hbz.block _ (block_lt HMY.out)).trans HMY.out
  have hmu := run_put_first 32 3 3 w.heap.size 0 (.int .i64 1) 1 z Tryz.underlying32 Tryz.underlying3 hmz
  have hput := World.putObj_heap_same (w := z) (r := w.heap.size) (o := .map doneE 1) (block_lt hmz)
  have hbp : Below w.heap.size w (z.putObj w.heap.size (.map doneE 1)) := (HBY.out.trans (hbz.mono HBY.out.size)).trans (Chg.to_below (F := fun b => b = w.heap.size) ((Chg.refl _ _).grown (grownBy_putObj' z w.heap.size _) (fun k e => by cases e; exact .inl rfl)) (Nat.le_of_lt (block_lt hmz)) (fun _ hi => by rw [hi]; exact Nat.le_refl _))
  have HF := Lib.hid (And.intro hput hbp)
  clear hmz hput hbp hbz C2 C3 C4
  go_wp2_with fail
  clear hmu
  rw [rounds_succ]
  go_wp2_with fail
  go_ret
  exact ⟨_, rfl, HF.out.1, HF.out.2⟩
set_option maxRecDepth 100000 in
theorem order42 (B : Nat) (w : World) (q g : Nat) (M : WorM) (m : SeatM) (e0 : EntM) (h : WorS ⟨false, g⟩ B w q M) (hM : M.seats = [m]) (hfew : m.thr.ops.length ≤ 100000) (hs : m.thr.state = 3) (hid : m.thr.id = 1)
    (hl : M.eng.live = none) (hlog : M.eng.log = [e0]) (he : e0.id = 1) (hc : e0.com = true) :
    Calls Tryz.prog 42 #[.pointer (some ⟨q, 0, none⟩)] w fun en w' => ∃ v, en = .returned v ∧ w'.ownsRow w.heap.size 3 1 v 1 [.int .i64 1] ∧ Below w.heap.size w w' := by
  have C1 := Lib.hid (done45 m h hM hfew hs hid)
  have HW := Lib.hid h
  have HE := Lib.hid (And.intro hl (And.intro hlog (And.intro he hc)))
  obtain ⟨i0, z0, hi, hz0, hz1, hz2, hz3⟩ := info_3
  clear h hM hs hid hl hlog he hc
  go_enter Tryz.func42, Tryz.ntmps42
  go_wp2_with fail
  refine (C1.out).mono ?_
  rintro en y ⟨mb, rfl, hmb, hby⟩
  have hc2 := scEntries B y q g M e0 (HW.out.later hby) HE.out.1 HE.out.2.1
  rw [HE.out.2.2.1, HE.out.2.2.2] at hc2
  have C2 := Lib.hid hc2
  have HB := Lib.hid hby
  have HM := Lib.hid hmb
  clear hby hmb hc2 C1
  go_wp2_with fail
  refine (C2.out).mono ?_
  rintro en z ⟨v, rv, wv, rfl, hown, hrv, hwv, hbz⟩
  obtain ⟨b, bc, rfl, -, -, hr, -⟩ := owns_block hown (by decide)
  obtain ⟨-, ra, rc, rfl, -⟩ := RowAt.of_owns hrv
  obtain ⟨-, wa, wc, rfl, -⟩ := RowAt.of_owns hwv
  have c0 : z.cell? ⟨b, 0, none⟩ = some (.int .i64 1) := hr 0 _ rfl
  have c1 : z.cell? ⟨b, 1, none⟩ = some (.bool true) := hr 1 _ rfl
  have c2 : z.cell? ⟨b, 2, none⟩ = some (.bool true) := hr 2 _ rfl
  have c3 : z.cell? ⟨b, 3, none⟩ = some _ := hr 3 _ rfl
  have c4 : z.cell? ⟨b, 4, none⟩ = some _ := hr 4 _ rfl
  have HBZ := Lib.hid (HB.out.trans (hbz.mono HB.out.size))
  have HMZ := Lib.hid ((hbz.block _ (block_lt HM.out)).trans HM.out)
  clear hown hrv hwv hr hbz C2
  generalize optN e0.rd = rn at *
  generalize optN e0.wr = wn at *
  go_wp2_with fail
  refine wp_loop_rounds 2 ?_
  rw [rounds_succ]
  go_upto_region 5 with fail
  have hbU : Below z.heap.size z (z.alloc (.cells #[.int .i64 1, .bool true, .bool true, .slice ra rn rc, .slice wa wn wc] 42)) := (Below.refl _ _).alloc (Nat.le_refl _) _
  have hd := Go.heap_alloc_new z (.cells #[.int .i64 1, .bool true, .bool true, .slice ra rn rc, .slice wa wn wc] 42)
  generalize z.alloc (.cells #[.int .i64 1, .bool true, .bool true, .slice ra rn rc, .slice wa wn wc] 42) = U at *
  have hmU := (hbU.block _ (block_lt HMZ.out)).trans HMZ.out
  have HBU := Lib.hid (HBZ.out.trans (hbU.mono HBZ.out.size))
  have hwU := HBU.out.size
  generalize z.heap.size = d at *
  have d0 := cell_of_row _ _ 0 _ _ _ hd
  have d1 := cell_of_row _ _ 1 _ _ _ hd
  have hlk := run_look_one 32 3 3 mb 1 0 (.int .i64 1) 1 false U Tryz.underlying32 Tryz.underlying3 hmU
  simp only [Bool.false_eq_true, ↓reduceIte] at hlk
  clear hd hbU hmU c0 c1 c2 c3 c4
  go_wp2_with (at_builtin; refine wpList_append_own _ rfl _ _ 77 rfl w.heap.size 3 i0 z0 1 8 Tryz.underlying77 hi hz0 hz1 hz2 hz3 (by decide) _ 0 [] rfl (World.ownsRow_nil _ _ _ _) ⟨U.heap.size, 0, none⟩ 1 1 [.int .i64 1] rfl rfl (by exact news_new U [.int .i64 1] 3) (by intro u hu; simp at hu; subst hu; rfl) (by unfold maxLen; omega) (by omega) (by simp; omega) ?_)
  intro v2 z2 hown2 hgrow _
  obtain ⟨vb, vc, rfl, -, -, -, -⟩ := owns_block hown2 (by decide)
  have hbZ : Below U.heap.size U (U.alloc (.cells #[.int .i64 1] 3)) := (Below.refl _ _).alloc (Nat.le_refl _) _
  have hs3 : Below (U.alloc (.cells #[.int .i64 1] 3)).heap.size (U.alloc (.cells #[.int .i64 1] 3)) z2 := Chg.to_below (F := fun _ => False) ((Chg.refl _ _).grown hgrow (fun k e => by cases e)) (Nat.le_refl _) (fun _ hi => hi.elim)
  have HF := Lib.hid (And.intro hown2 (HBU.out.trans ((hbZ.trans (hs3.mono hbZ.size)).mono hwU)))
  clear hown2 hgrow hbZ hs3 hlk d0 d1
  go_wp2_with fail
  rw [rounds_succ]
  go_wp2_with fail
  go_ret
  exact ⟨_, rfl, HF.out.1, HF.out.2⟩
end Go.Proofs.YteflpdhgojcmcaaGreatDoor
namespace Go.Proofs.YteflpdhgojcmcaaGreatDoor
open Go.RowKit Go.Shelf
open Go.ChangeMaps (setBlock)
attribute [local go_sem] Oper.semAt_some
/-- A step, and where it was told. -/
structure ToldM where
  at_ : Int
  x : Int
  k : Int
  n : Int
  wr : Bool
def ToldM.cells (s : ToldM) : List Value := [.int .i64 s.at_, .int .i64 s.x, .int .i64 s.k, .int .i64 s.n, .bool s.wr]
theorem ToldM.len (s : ToldM) : s.cells.length = 5 := rfl
theorem ToldM.one (s : ToldM) : AllOne s.cells := by
  intro v hv
  simp [ToldM.cells] at hv
  rcases hv with rfl | rfl | rfl | rfl | rfl <;> rfl
theorem entT_of {es : Array MapEntry} {x : Ent es} {s : ToldM} (h : x.1.val = .agg s.cells.toArray) : entC x = s.cells := by simp [entC, h]
theorem info_300 : ∃ i z, Tryz.prog.info? 300 = some i ∧ i.zero = some z ∧ i.size = 5 ∧ i.bytes = 40 ∧ z.cells.size = 5 := by
  have h : (Tryz.prog.info? 300).map (fun i => (i.size, i.bytes, i.zero.map fun z => z.cells.size)) = some (5, 40, some 5) := by kernel_rfl
  cases hi : Tryz.prog.info? 300 with
  | none => rw [hi] at h; cases h
  | some i =>
    rw [hi] at h
    simp only [Option.map_some, Option.some.injEq, Prod.mk.injEq] at h
    obtain ⟨h1, h2, h3⟩ := h
    cases hz : i.zero with
    | none => rw [hz] at h3; cases h3
    | some z =>
      rw [hz] at h3
      exact ⟨i, z, rfl, hz, h1, h2, by simpa using h3⟩
/-- Steps as a map's entries. -/
def ToldsIn (es : Array MapEntry) : Prop := ∀ e ∈ es.toList, ∃ s : ToldM, e.val = .agg s.cells.toArray
set_option maxRecDepth 100000 in
set_option maxHeartbeats 1000000 in
theorem values222_in (F : Fence) (n : Nat) (h222 : F.fn 222) (hro : F.round = none) (hn : 1 ≤ n) (l Bm b : Nat) (es : Array MapEntry) (clock : Nat) (hnd : (es.toList.map (·.born)).Nodup) (hold : ∀ x ∈ es.toList, x.born < clock) (hst : ToldsIn es)
    (J Jx : List (Ent es) → World → Prop)
    (hY : ∀ pre x W, J pre W → pre.length < es.size → YieldAt F (n - 1) Tryz.prog l #[x.1.val] W fun e W' =>
      (e = .returned (.bool true) ∧ J (pre ++ [x]) W' ∧ KeepsWalks W W') ∨ (e = .returned (.bool false) ∧ Jx (pre ++ [x]) W'))
    (W : World) (hJ : AbidesFrom W.heap.size J) (hm : W.cell? ⟨Bm, 0, none⟩ = some (.map (some b))) (hb : W.heap[b]? = some (.map es clock)) (h0 : J [] W) :
    CallsIn F n Tryz.prog 222 #[.func (.yield l) #[] #[], .pointer (some ⟨Bm, 0, none⟩)] W fun e W' => (∃ v, e = .returned v) ∧
      ((∃ xs, (xs.map (·.1)).Perm es.toList ∧ J xs W') ∨ (∃ pre, Jx pre W')) := by
  have hbl : b < W.heap.size := block_lt hb
  have HR := Lib.hid hb
  clear hb
  refine callsIn_of_wp Tryz.func222 rfl h222 ?_ hro
  simp only [Tryz.ntmps222, List.size_toArray, List.length_cons, List.length_nil, Nat.reduceAdd, Nat.reduceSub, Array.replicate_succ, Array.replicate_zero, List.push_toArray, List.append_toArray, List.nil_append, List.cons_append]
  gi_wp2_with (first
    | (gi_at_range; refine wpListIn_range_raw _ rfl _ 253 rfl 3 300 Tryz.underlying253 b es clock rfl HR.out ?_)
    | gi_in)
  have hrt : (W.alloc (.mapIter (some b) clock #[] clock)).heap[W.heap.size]? = some (.mapIter (some b) clock #[] clock) := heap_alloc_new _ _
  have hbt : (W.alloc (.mapIter (some b) clock #[] clock)).heap[b]? = some (.map es clock) := (heap_alloc_old _ _ hbl).trans HR.out
  have hJt := hJ [] W (W.alloc (.mapIter (some b) clock #[] clock)) none h0 (World.grownBy_alloc W _ none) (fun r e => by cases e)
  have HB := Lib.hid (And.intro hrt (And.intro hbt hJt))
  clear hrt hbt hJt
  go_frame
  gi_loopw [4] (fun _ wr => ∃ (seen : Array Nat) (c0 : Nat) (xs : List (Ent es)), wr.heap[W.heap.size]? = some (.mapIter (some b) clock seen c0) ∧ wr.heap[b]? = some (.map es clock) ∧ clock ≤ c0 ∧ Came es seen xs ∧ J xs wr)
    (fun _ wr => wr.rangeLeft b W.heap.size)
  case atStart =>
    exact ⟨_, _, [], HB.out.1, HB.out.2.1, Nat.le_refl _, Came.start es, HB.out.2.2⟩
  case round =>
    obtain ⟨seen, c0, xs, hr, hb, hc0, hC, hJs⟩ := hrel
    have HM := Lib.hid (left_of hb hr)
    have HRR := Lib.hid (And.intro hr hb)
    clear hr hb
    gi_wp2_with (first
      | (gi_at_next; refine wpListIn_next_raw _ rfl _ rfl W.heap.size b clock c0 seen es clock rfl HRR.out.1 HRR.out.2 hold hc0 ?_ ?_)
      | gi_in)
    · intro hz
      gi_wp2
      go_end0
      exact ⟨⟨_, rfl⟩, .inl ⟨xs, hC.perm hnd (by rw [hz]; rfl), hJs⟩⟩
    · intro e he w2 hr2 hgr
      have he := Array.mem_toList_iff.2 he
      obtain ⟨hem, hes⟩ := mem_left he
      have hJ2 : J xs w2 := hJ xs wr _ (some W.heap.size) hJs hgr (fun r e => by cases e; exact ⟨Nat.le_refl _, _, HRR.out.1, rfl⟩)
      have hb2 : w2.heap[b]? = some (.map es clock) := (hgr.block b (block_lt HRR.out.2) (by simp; omega)).trans HRR.out.2
      have hlt := left_shrinks es seen e he
      have hlen := hC.length hem hes
      have hC2 := hC.step hem hes
      have hen := run_entry_at (P := Tryz.prog) _ W.heap.size b clock seen es clock e hr2 hb2 hem hnd
      obtain ⟨s, hs⟩ := hst e hem
      rw [hs] at hen
      have hY2 := hY xs ⟨e, hem⟩
      simp only [hs] at hY2
      have HY := Lib.hid hY2
      have HR2 := Lib.hid (And.intro hr2 hb2)
      have hJ3 := hJ xs w2 (w2.alloc (.cells s.cells.toArray 300)) none hJ2 (World.grownBy_alloc w2 _ none) (fun r e => by cases e)
      have HJ3 := Lib.hid hJ3
      clear hJ2 hr2 hb2 hgr hs hY2 hJ3
      obtain ⟨sa, sx, sk, sn, sw⟩ := s
      simp only [ToldM.cells] at hen HY HJ3
      obtain ⟨fn, tmps, assign, body, hy, hR⟩ := HY.out _ HJ3.out hlen
      gi_wp2
      refine hR.mono ?_
      have hk0 : KeepsWalks w2 (w2.alloc (.cells #[.int .i64 sa, .int .i64 sx, .int .i64 sk, .int .i64 sn, .bool sw] 300)) := KeepsWalks.alloc _ _
      rintro e3 W3 (⟨rfl, hJ4, hk3⟩ | ⟨rfl, hJx3⟩)
      · have hr3 := hk3.same _ _ (hk0.same _ _ HR2.out.1 rfl) rfl
        have hb3 := hk3.same _ _ (hk0.same _ _ HR2.out.2 rfl) rfl
        gi_wp2
        go_roundw
        case rel => exact ⟨_, clock, xs ++ [⟨e, hem⟩], hr3, hb3, Nat.le_refl _, hC2, hJ4⟩
        case measure => rw [left_of hb3 hr3, HM.out]; exact hlt
      · gi_wp2
        refine bodyPost_ret (results_none rfl _ _ _) rfl ?_
        exact ⟨⟨_, rfl⟩, .inr ⟨_, hJx3⟩⟩
theorem values222_stops (F : Fence) (n : Nat) (h222 : F.fn 222) (hro : F.round = none) (hn : 1 ≤ n) (Bm b : Nat) (es : Array MapEntry) (clock : Nat) (hnd : (es.toList.map (·.born)).Nodup) (hold : ∀ x ∈ es.toList, x.born < clock) (hst : ToldsIn es) (w : World) (hBm : Bm < w.heap.size)
    (hm : w.cell? ⟨Bm, 0, none⟩ = some (.map (some b))) (hb : w.heap[b]? = some (.map es clock)) :
    SeqStopsK F n Tryz.prog 222 #[.pointer (some ⟨Bm, 0, none⟩)] (fun x : Ent es => #[x.1.val]) KeepsWalks (fun xs => (xs.map (·.1)).Perm es.toList) (fun _ => True) es.size w := by
  intro l J Jx W hW hJ _ hY h0
  refine (values222_in F n h222 hro hn l Bm b es clock hnd hold hst J Jx hY W hJ ((hW.cell (p := ⟨Bm, 0, none⟩) hBm).trans hm) ((hW.block _ (block_lt hb)).trans hb) h0).mono fun e W' h => ⟨h.1, ?_⟩
  rcases h.2 with h | ⟨pre, h⟩
  · exact .inl h
  · exact .inr ⟨pre, trivial, h⟩
set_option maxRecDepth 100000 in
set_option maxHeartbeats 1000000 in
theorem append242 (F : Fence) (n : Nat) (h242 : F.fn 242) (h222 : F.fn 222) (hro : F.round = none) (hn : 3 ≤ n) (Bm b : Nat) (es : Array MapEntry) (clock : Nat) (hnd : (es.toList.map (·.born)).Nodup) (hold : ∀ x ∈ es.toList, x.born < clock) (hst : ToldsIn es) (hN : es.size ≤ 1000) (w : World)
    (hm : w.cell? ⟨Bm, 0, none⟩ = some (.map (some b))) (hBm : Bm < w.heap.size) (hb : w.heap[b]? = some (.map es clock)) :
    CallsIn F n Tryz.prog 242 #[.slice none 0 0, .func (.func 222) #[] #[.pointer (some ⟨Bm, 0, none⟩)]] w fun e w' => ∃ (xs : List (Ent es)) (v : Value), (xs.map (·.1)).Perm es.toList ∧ e = .returned v ∧ w'.ownsRow w.heap.size 300 5 v xs.length (xs.flatMap entC) ∧ (v = .slice none 0 0 ↔ xs = []) ∧ Below w.heap.size w w' := by
  have h1 : 1 ≤ n := by omega
  obtain ⟨i0, z, hi, hz0, hz1, hz2, hz3⟩ := info_300
  refine callsIn_of_wp_marks Tryz.func242 rfl h242 ?_ hro
  simp only [Tryz.ntmps242, List.size_toArray, List.length_cons, List.length_nil, Nat.reduceAdd, Nat.reduceSub, Array.replicate_succ, Array.replicate_zero, List.push_toArray, List.append_toArray, List.nil_append, List.cons_append]
  gi_wp2
  have hB0 : Boxed (w.alloc (.cells #[.slice none 0 0] 306)) w.heap.size 306 (.slice none 0 0) := Boxed.new w 306 _
  have hsz : (w.alloc (.cells #[.slice none 0 0] 306)).heap.size = w.heap.size + 1 := by simp
  have hbel : Below w.heap.size w (w.alloc (.cells #[.slice none 0 0] 306)) := (Below.refl _ _).alloc (Nat.le_refl _) _
  have hm0 := (hbel.cell (p := ⟨Bm, 0, none⟩) hBm).trans hm
  have hb0 := (hbel.block _ (block_lt hb)).trans hb
  generalize w.alloc (.cells #[.slice none 0 0] 306) = W0 at *
  refine wpIn_rangeFunc_ownH hro h1 (gf := 222) (lb := #[.pointer (some ⟨Bm, 0, none⟩)]) rfl h222 (enters_of Tryz.func222 (by kernel_rfl) rfl)
    (values222_stops F (n - 1) h222 hro (by omega) Bm b es clock hnd hold hst W0 (by omega) hm0 hb0) walksK_t walksK_b (Below.refl _ _) (fun _ => rfl)
    (fun pre W => (∃ v, Boxed W w.heap.size 306 v ∧ W.ownsRow w.heap.size 300 5 v pre.length (pre.flatMap entC) ∧ (v = .slice none 0 0 ↔ pre = [])) ∧ Below w.heap.size w W)
    (fun _ _ _ => False)
    (OwnFrom.and (Own.from (holdsRow_own w.heap.size w.heap.size 306 300 5 (fun pre : List (Ent es) => pre.length) (fun pre => pre.flatMap entC) (fun pre v => v = .slice none 0 0 ↔ pre = [])) _) (ownFrom_below (Nat.le_refl _) (by omega)))
    (fun _ _ _ _ _ hs _ _ => hs)
    ⟨⟨_, hB0, ⟨rfl, .inl ⟨rfl, rfl⟩⟩, by simp⟩, hbel⟩
    (fun x a' W => ∃ (Bx : Nat) (s : ToldM), x.1.val = .agg s.cells.toArray ∧ w.heap.size < Bx ∧ W.heap[Bx]? = some (.cells s.cells.toArray 300 (0, 0)) ∧ a' = { tmps := #[.slice none 0 0, .func (.func 222) #[] #[.pointer (some ⟨Bm, 0, none⟩)], .pointer (some ⟨w.heap.size, 0, none⟩), undef, .slice none 0 0, .pointer (some ⟨Bx, 0, none⟩), .func (.func 222) #[] #[.pointer (some ⟨Bm, 0, none⟩)], .agg s.cells.toArray, undef, undef, undef, undef, undef], defers := [] })
    (fun x a' _ X Y row hs hg hr => by obtain ⟨Bx, s, h1, h2, h3, h4⟩ := hs; exact ⟨Bx, s, h1, h2, (grownBy_keeps_cells hg (fun r e => (hr r e).2) h3 rfl).trans h3, h4⟩)
    ?assign ?body ?done ?stop
  case assign =>
    rintro l pre x W K ⟨⟨v, hv, hrow, hnil⟩, hB⟩ hK
    obtain ⟨s, hs⟩ := hst x.1 x.2
    rw [hs]
    have hlt := hv.lt
    have hk := hK { tmps := #[.slice none 0 0, .func (.func 222) #[] #[.pointer (some ⟨Bm, 0, none⟩)], .pointer (some ⟨w.heap.size, 0, none⟩), undef, .slice none 0 0, .pointer (some ⟨W.heap.size, 0, none⟩), .func (.func 222) #[] #[.pointer (some ⟨Bm, 0, none⟩)], .agg s.cells.toArray, undef, undef, undef, undef, undef], defers := [] } (W.alloc (.cells s.cells.toArray 300)) ((KeepsOthers.alloc _ _).from _) (KeepsWalks.alloc _ _) ⟨⟨v, hv.alloc _, hrow.alloc _, hnil⟩, hB.alloc hB.size _⟩ ⟨W.heap.size, s, hs, hlt, Go.heap_alloc_new _ _, rfl⟩
    have HK := Lib.hid hk
    clear hk hK hs hv hrow hnil hB
    obtain ⟨sa, sx, sk, sn, sw⟩ := s
    simp only [ToldM.cells] at HK ⊢
    gi_wp2
    exact HK.out
  case body =>
    rintro l pre x a' W hl ⟨r, hr⟩ ⟨⟨v, hv, hrow, hnil⟩, hB⟩ ⟨Bx, s, hs, hBx, hX, rfl⟩ hlt
    have hlen : pre.length ≤ 1000 := by omega
    have hcv := hv.cell
    have x0 := cell_of_row _ _ 0 _ _ _ hX
    have x1 := cell_of_row _ _ 1 _ _ _ hX
    have x2 := cell_of_row _ _ 2 _ _ _ hX
    have x3 := cell_of_row _ _ 3 _ _ _ hX
    have x4 := cell_of_row _ _ 4 _ _ _ hX
    have HV := Lib.hid hv
    have HRW := Lib.hid hrow
    have HBB := Lib.hid hB
    have HE := Lib.hid (entT_of hs)
    have hone := s.one
    have hsl := s.len
    clear hX hs hv hrow hB hr
    have hXX : ∃ cs, cs = s.cells := ⟨_, rfl⟩
    obtain ⟨sa, sx, sk, sn, sw⟩ := s
    simp only [ToldM.cells, List.getElem?_toArray, List.getElem?_cons_zero, List.getElem?_cons_succ] at x0 x1 x2 x3 x4
    simp only [ToldM.cells] at HE hone hsl ⊢
    gi_wp2_with (first
      | (gi_at_builtin; refine wpListIn_append_own _ rfl _ _ 306 rfl w.heap.size 300 i0 z 5 40 Tryz.underlying306 hi hz0 hz1 hz2 hz3 (by decide) v pre.length (pre.flatMap entC) rfl (HRW.out.alloc _) ⟨W.heap.size, 0, none⟩ 1 1 [.int .i64 sa, .int .i64 sx, .int .i64 sk, .int .i64 sn, .bool sw] rfl rfl (by exact news_new W [.int .i64 sa, .int .i64 sx, .int .i64 sk, .int .i64 sn, .bool sw] 300) hone (by unfold maxLen; omega) (by omega) (by have := HBB.out.size; simp; omega) ?_; intro v' w1 hown' hgrow _; obtain ⟨g', cap', rfl⟩ := ownsRow_succ hown'; obtain ⟨hv1, hv2, hr2, hk2, hb2⟩ := HV.out.appended (by decide) HRW.out HBB.out.size (Nat.le_refl _) hown' hgrow; have hc1 := hv1.cell; have hf1 := hv1.frozen; have HF := Lib.hid (And.intro hv2 (And.intro hr2 (And.intro hk2 hb2))); clear hv2 hr2 hk2 hb2 hv1 hown' hgrow)
      | gi_in)
    have hx2 : (pre ++ [x]).flatMap entC = pre.flatMap entC ++ [.int .i64 sa, .int .i64 sx, .int .i64 sk, .int .i64 sn, .bool sw] := by rw [List.flatMap_append]; simp [HE.out]
    refine ⟨HF.out.2.2.1.from _, HF.out.2.2.1.walks, ⟨_, HF.out.1, ?_, by simp⟩, HBB.out.trans HF.out.2.2.2⟩
    rw [hx2, List.length_append]
    exact HF.out.2.1
  case done =>
    rintro D ys W hD hS ⟨⟨v, hv, hrow, hnil⟩, hB⟩ hK
    have hcv := hv.cell
    gi_wp2
    refine ⟨by simp, .inl ⟨_, _, rfl, run_takeDeferred hK, ?_⟩⟩
    exact ⟨_, results_tmp rfl _ _ _, ys, v, hS, rfl, ownsRow_putObj hrow _ hK rfl, hnil, hB.trans (belowK_b (w := w) (Nat.le_refl _) W D _ _ (by omega) hK rfl rfl)⟩
  case stop =>
    rintro D c pre W _ _ h _
    exact h.elim
set_option maxRecDepth 100000 in
theorem collect220 (F : Fence) (n : Nat) (h220 : F.fn 220) (h242 : F.fn 242) (h222 : F.fn 222) (hro : F.round = none) (hn : 4 ≤ n) (Bm b : Nat) (es : Array MapEntry) (clock : Nat) (hnd : (es.toList.map (·.born)).Nodup) (hold : ∀ x ∈ es.toList, x.born < clock) (hst : ToldsIn es) (hN : es.size ≤ 1000) (w : World)
    (hm : w.cell? ⟨Bm, 0, none⟩ = some (.map (some b))) (hBm : Bm < w.heap.size) (hb : w.heap[b]? = some (.map es clock)) :
    CallsIn F n Tryz.prog 220 #[.func (.func 222) #[] #[.pointer (some ⟨Bm, 0, none⟩)]] w fun e w' => ∃ (xs : List (Ent es)) (v : Value), (xs.map (·.1)).Perm es.toList ∧ e = .returned v ∧ w'.ownsRow w.heap.size 300 5 v xs.length (xs.flatMap entC) ∧ (v = .slice none 0 0 ↔ xs = []) ∧ Below w.heap.size w w' := by
  have h1 : 1 ≤ n := by omega
  have hc := append242 F (n - 1) h242 h222 hro (by omega) Bm b es clock hnd hold hst hN w hm hBm hb
  have HC := Lib.hid hc
  clear hc hm hb hold hnd hst
  refine callsIn_of_wp Tryz.func220 rfl h220 ?_ hro
  simp only [Tryz.ntmps220, List.size_toArray, List.length_cons, List.length_nil, Nat.reduceAdd, Nat.reduceSub, Array.replicate_succ, Array.replicate_zero, List.push_toArray, List.append_toArray, List.nil_append, List.cons_append]
  gi_wp2_with (gi_at_call 242; refine (HC.out).mono ?_; rintro e w' ⟨xs, v, hp, rfl, hown, hnil, hB⟩; have HF := Lib.hid (And.intro hp (And.intro hown (And.intro hnil hB))); clear hp hown hnil hB)
  go_ret
  exact ⟨xs, v, HF.out.1, rfl, HF.out.2.1, HF.out.2.2.1, HF.out.2.2.2⟩
theorem insertion_told (v f : Value) (n : Nat) (w : World) (hn : n ≤ 1) :
    Calls Tryz.prog 260 #[v, .int .i64 0, .int .i64 n, f] w fun e w' => e = .returned (.tuple #[]) ∧ w = w' := by
  have g : (n : Int) ≤ 1 := by omega
  go_enter Tryz.func260, Tryz.ntmps260
  go_wp2_with fail
  refine wp_loop_rounds 1 ?_
  rw [rounds_succ]
  go_wp2_with fail
  refine bodyPost_end (results_none rfl _ _ _) rfl ⟨rfl, rfl⟩
theorem pdq_told (v f : Value) (n : Nat) (i : Value) (w : World) (hn : n ≤ 1) :
    Calls Tryz.prog 243 #[v, .int .i64 0, .int .i64 n, i, f] w fun e w' => e = .returned (.tuple #[]) ∧ w = w' := by
  have C := Lib.hid (insertion_told v f n w hn)
  have g : (n : Int) ≤ 12 := by omega
  clear hn
  go_enter Tryz.func243, Tryz.ntmps243
  go_wp2_with fail
  refine wp_loop_rounds 1 ?_
  rw [rounds_succ]
  go_wp2_with fail
  refine (C.out).mono ?_
  rintro e w1 ⟨rfl, rfl⟩
  go_wp2_with fail
  refine bodyPost_ret (results_none rfl _ _ _) rfl ⟨rfl, rfl⟩
theorem sort_told (a : Option Addr) (c : Nat) (f : Value) (n : Nat) (w : World) (hn : n ≤ 1) :
    Calls Tryz.prog 221 #[.slice a n c, f] w fun e w' => e = .returned (.tuple #[]) ∧ w = w' := by
  have C := Lib.hid (fun i => pdq_told (.slice a n c) f n i w hn)
  have hw : IntKind.u64.wrap (n : Int) = 0 ∨ IntKind.u64.wrap (n : Int) = 1 := by
    have h : n = 0 ∨ n = 1 := by omega
    rcases h with rfl | rfl
    · exact Or.inl (by kernel_rfl)
    · exact Or.inr (by kernel_rfl)
  have C2 := Lib.hid (len_few (IntKind.u64.wrap (n : Int)) w hw)
  clear hn hw
  go_enter Tryz.func221, Tryz.ntmps221
  go_wp2_with fail
  refine (C2.out).mono ?_
  rintro e w1 ⟨⟨i, rfl⟩, rfl⟩
  go_wp2_with fail
  refine (C.out _).mono ?_
  rintro e w1 ⟨rfl, rfl⟩
  go_wp2_with fail
  refine bodyPost_end (results_none rfl _ _ _) rfl ⟨rfl, rfl⟩
def optT : Option ToldM → List Value | none => [] | some s => s.cells
def optTN : Option ToldM → Nat | none => 0 | some _ => 1
def optTE : Option ToldM → Array MapEntry | none => #[] | some s => #[{ key := .int .i64 s.x, val := .agg s.cells.toArray, born := 0 }]
theorem optTE_came {o : Option ToldM} {xs : List (Ent (optTE o))} (h : (xs.map (·.1)).Perm (optTE o).toList) : xs.length = optTN o ∧ xs.flatMap entC = optT o ∧ (xs = [] ↔ o = none) := by
  cases o with
  | none =>
    have : xs = [] := by
      have := h.length_eq
      rw [List.length_map] at this
      exact List.length_eq_zero_iff.1 this
    subst this
    exact ⟨rfl, rfl, by simp⟩
  | some s =>
    have hl : xs.length = 1 := by
      have := h.length_eq
      rw [List.length_map] at this
      exact this
    match xs, hl with
    | [x], _ =>
      have hx := x.2
      simp [optTE] at hx
      refine ⟨rfl, ?_, by simp⟩
      simp [entC, hx, optT]
theorem collect220_any (o : Option ToldM) (Bm b : Nat) (w : World) (hm : w.cell? ⟨Bm, 0, none⟩ = some (.map (some b))) (hBm : Bm < w.heap.size) (hb : w.heap[b]? = some (.map (optTE o) (optTN o))) :
    Calls Tryz.prog 220 #[.func (.func 222) #[] #[.pointer (some ⟨Bm, 0, none⟩)]] w fun e w' => ∃ v, e = .returned v ∧ w'.ownsRow w.heap.size 300 5 v (optTN o) (optT o) ∧ (v = .slice none 0 0 ↔ o = none) ∧ Below w.heap.size w w' := by
  have hnd : ((optTE o).toList.map (·.born)).Nodup := by cases o <;> simp [optTE]
  have hold : ∀ x ∈ (optTE o).toList, x.born < optTN o := by cases o <;> simp [optTE, optTN]
  have hst : ToldsIn (optTE o) := by
    intro e he
    cases o with
    | none => simp [optTE] at he
    | some s => simp [optTE] at he; subst he; exact ⟨s, rfl⟩
  have h := calls_of_every_depth (L := [220, 242, 222]) (n := 4) fun D => collect220 (Fence.list [220, 242, 222] (some D)) 4 (by simp [Fence.list]) (by simp [Fence.list]) (by simp [Fence.list]) rfl (by omega) Bm b (optTE o) (optTN o) hnd hold hst (by cases o <;> simp [optTE]) w hm hBm hb
  refine h.mono ?_
  rintro e w' ⟨xs, v, hp, rfl, hown, hnil, hB⟩
  obtain ⟨h1, h2, h3⟩ := optTE_came hp
  rw [h1, h2] at hown
  exact ⟨v, rfl, hown, hnil.trans h3, hB⟩
theorem sorted182 (o : Option ToldM) (Bm b : Nat) (f : Value) (w : World) (hm : w.cell? ⟨Bm, 0, none⟩ = some (.map (some b))) (hBm : Bm < w.heap.size) (hb : w.heap[b]? = some (.map (optTE o) (optTN o))) :
    Calls Tryz.prog 182 #[.func (.func 222) #[] #[.pointer (some ⟨Bm, 0, none⟩)], f] w fun e w' => ∃ v, e = .returned v ∧ w'.ownsRow w.heap.size 300 5 v (optTN o) (optT o) ∧ (v = .slice none 0 0 ↔ o = none) ∧ Below w.heap.size w w' := by
  have C1 := Lib.hid (collect220_any o Bm b w hm hBm hb)
  have hn : optTN o ≤ 1 := by cases o <;> simp [optTN]
  clear hm hb
  generalize optTN o = n at *
  go_enter Tryz.func182, Tryz.ntmps182
  go_wp2_with fail
  refine (C1.out).mono ?_
  rintro e y ⟨v, rfl, hown, hnil, hB⟩
  obtain ⟨_, va, vc, rfl, _⟩ := RowAt.of_owns hown
  have C2 := Lib.hid (sort_told va vc f n y hn)
  have HF := Lib.hid (And.intro hown (And.intro hnil hB))
  clear hown hnil hB
  go_wp2_with fail
  refine (C2.out).mono ?_
  rintro e y2 ⟨rfl, rfl⟩
  go_wp2_with fail
  go_ret
  exact ⟨_, rfl, HF.out.1, HF.out.2.1, HF.out.2.2⟩
theorem values183_any (mb : Option Nat) (w : World) :
    Calls Tryz.prog 183 #[.map mb] w fun e w' => e = .returned (.func (.func 222) #[] #[.pointer (some ⟨w.heap.size, 0, none⟩)]) ∧ w' = w.alloc (.cells #[.map mb] 253) := by
  have hmf : ∀ (fn : Fn) (first cap : Array Value) (w : World), (Instr.makeFunc fn first cap).run Tryz.prog w = .ok (.func fn first cap) w := fun _ _ _ _ => rfl
  go_enter Tryz.func183, Tryz.ntmps183
  go_wp2_with fail
  go_ret
  exact ⟨rfl, rfl⟩
end Go.Proofs.YteflpdhgojcmcaaGreatDoor
