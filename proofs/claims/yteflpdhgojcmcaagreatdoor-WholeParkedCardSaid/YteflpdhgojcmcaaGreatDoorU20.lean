/- The clock's engine as it lies in memory, while one transaction at most is live; its Begin. The clock's Values, Write, Abort, late over an engine as a model. No conditions but those that each theorem names. -/
import Derived.Test.YteflpdhgojcmcaaGreatDoorU01
import Derived.Test.YteflpdhgojcmcaaGreatDoorU19
import Derived.Test.YteflpdhgojcmcaaGreatDoorU12
namespace Go.Proofs.YteflpdhgojcmcaaGreatDoor
open Go.RowKit PSet PMat
def ptrV (k : Nat) : Value := .pointer (some ⟨k, 0, none⟩)
def ptrsC (ks : List Nat) : List Value := ks.map ptrV
/-- A transaction of the clock's. -/
def WorkAt (w : World) (k : Nat) (tv : Value) (stamp : Int) (over com : Bool) : Prop := w.heap[k]? = some (.cells #[tv, .int .i64 stamp, .bool over, .bool com] 136 (0, 0))
structure ClI (B : Nat) (w : World) (g : Nat) (e : EngM) (many clk : Nat) (v wv : Value) (ks : List Nat) (s : List VarM) : Prop where
  eng : w.heap[g]? = some (.cells #[.int .i64 many, v, .int .i64 clk, wv] 126 (0, 0))
  base : B ≤ g
  pos : 1 ≤ many
  store : w.ownsRow B 197 5 v s.length (storeC s)
  vals : s.map (fun m => ((m.k, m.n) : Reg)) = e.vals
  norm : ∀ m ∈ s, m.ver ≤ clk ∧ rightV m.k m.n = true
  len : s.length ≤ 64
  works : w.ownsRow B 129 1 wv ks.length (ptrsC ks)
  cnt : ks.length = e.cnt
  few : e.cnt ≤ 100000
  clkb : clk + (if e.live.isSome then 1 else 0) ≤ e.cnt
  nodup : ks.Nodup
  each : ∀ k ∈ ks, B ≤ k
  over : ∀ i k, ks[i]? = some k → (e.live = none ∨ i + 1 < ks.length) → ∃ tv st cm, WorkAt w k tv st true cm
  tx : ∀ t, e.live = some t → 1 ≤ e.cnt ∧ ∃ k ta tc, ks[e.cnt - 1]? = some k ∧ WorkAt w k (.slice ta (optN t) tc) clk false false ∧ w.ownsRow B 155 4 (.slice ta (optN t) tc) (optN t) (optC t) ∧ (t = none → ta = none ∧ tc = 0) ∧ ∀ st, t = some st → 0 ≤ st.x ∧ st.x < s.length ∧ rightV st.k st.n = true
def ClS (B : Nat) (w : World) (g : Nat) (e : EngM) : Prop := ∃ many clk v wv ks s, ClI B w g e many clk v wv ks s
/-- The types of the blocks that an engine of the clock changes. -/
def CT (t : Nat) : Bool := t == 126 || t == 129 || t == 136
theorem WorkAt.lim {E : Nat → Bool} {B : Nat} {w w' : World} {k : Nat} {tv : Value} {st : Int} {o c : Bool} (h : WorkAt w k tv st o c) (hc : Lim E B w w') (he : E 136 = false) : WorkAt w' k tv st o c := block_lim h hc he
theorem ClI.lim {E : Nat → Bool} {B B' : Nat} {w w' : World} {g : Nat} {e : EngM} {many clk : Nat} {v wv : Value} {ks : List Nat} {s : List VarM} (h : ClI B w g e many clk v wv ks s) (hc : Lim E B' w w')
    (h1 : E 126 = false) (h2 : E 129 = false) (h3 : E 136 = false) (h4 : E 155 = false) (h5 : E 197 = false) : ClI B w' g e many clk v wv ks s where
  eng := block_lim h.eng hc h1
  base := h.base
  pos := h.pos
  store := owns_lim h.store hc h5
  vals := h.vals
  norm := h.norm
  len := h.len
  works := owns_lim h.works hc h2
  cnt := h.cnt
  few := h.few
  clkb := h.clkb
  nodup := h.nodup
  each := h.each
  over := fun i k hk ho => by
    obtain ⟨tv, st, cm, hw⟩ := h.over i k hk ho
    exact ⟨tv, st, cm, hw.lim hc h3⟩
  tx := fun t ht => by
    obtain ⟨a1, k, ta, tc, a2, a3, a4, a5⟩ := h.tx t ht
    exact ⟨a1, k, ta, tc, a2, a3.lim hc h3, owns_lim a4 hc h4, a5⟩
theorem ClS.lim {E : Nat → Bool} {B B' : Nat} {w w' : World} {g : Nat} {e : EngM} (h : ClS B w g e) (hc : Lim E B' w w') (h1 : E 126 = false) (h2 : E 129 = false) (h3 : E 136 = false) (h4 : E 155 = false) (h5 : E 197 = false) : ClS B w' g e := by
  obtain ⟨many, clk, v, wv, ks, s, h⟩ := h
  exact ⟨many, clk, v, wv, ks, s, h.lim hc h1 h2 h3 h4 h5⟩
/-- The blocks of a clock's engine that a method may change: its own, its row of transactions, one transaction. -/
theorem ClI.foot {B : Nat} {w : World} {g : Nat} {e : EngM} {many clk : Nat} {v wv : Value} {ks : List Nat} {s : List VarM} (h : ClI B w g e many clk v wv ks s) (i : Nat) (hi : i = g ∨ wv.ownBlock = some i) : InT CT B w i := by
  rcases hi with rfl | hi
  · exact ⟨h.base, _, _, _, h.eng, rfl⟩
  · obtain ⟨_, h2⟩ := h.works
    rcases h2 with ⟨e, _⟩ | ⟨b, cap, cur, e1, hb, hg, rest⟩
    · rw [e] at hi; cases hi
    · rw [e1] at hi
      simp only [Value.ownBlock, Option.some.injEq] at hi
      subst hi
      exact ⟨hb, _, _, _, hg, rfl⟩
theorem work_chg {B : Nat} {w w' : World} {g k n : Nat} {tv wv : Value} {st : Int} {o c : Bool} {cs : Array Value} {xs : List Value} (h : WorkAt w k tv st o c) (hc : Chg (fun b => b = g ∨ wv.ownBlock = some b) w w') (hg : w.heap[g]? = some (.cells cs 126 (0, 0))) (ho : w.ownsRow B 129 1 wv n xs) : WorkAt w' k tv st o c := by
  refine (hc.block k (block_lt h) ?_).trans h
  rintro (rfl | e)
  · unfold WorkAt at h
    rw [hg] at h
    cases h
  · exact owns_type ho h (by decide) e
theorem info129 : (Tryz.prog.info? 129).map (fun i => (i.zero.map (·.cells.size), i.size, i.bytes)) = some (some 1, 1, 8) := by kernel_rfl
theorem info_129 : ∃ i z, Tryz.prog.info? 129 = some i ∧ i.zero = some z ∧ i.size = 1 ∧ i.bytes = 8 ∧ z.cells.size = 1 := by
  have h := info129
  cases hi : Tryz.prog.info? 129 with
  | none => rw [hi] at h; cases h
  | some i =>
    rw [hi] at h
    simp only [Option.map_some, Option.some.injEq, Prod.mk.injEq] at h
    obtain ⟨hz, h1, h2⟩ := h
    obtain ⟨z, hz1, hz2⟩ := Option.map_eq_some_iff.1 hz
    exact ⟨i, z, rfl, hz1, h1, h2, hz2⟩
theorem ptrs_at {w : World} {b off : Nat} {ks : List Nat} (h : w.rangeAt b off (ptrsC ks)) {i k : Nat} (hi : ks[i]? = some k) : w.cell? ⟨b, off + i, none⟩ = some (.pointer (some ⟨k, 0, none⟩)) :=
  h i _ (by simp [ptrsC, ptrV, hi])
set_option maxRecDepth 100000 in
set_option maxHeartbeats 2000000 in
theorem csBegin (B : Nat) (w : World) (g : Nat) (e : EngM) (h : ClS B w g e) (hB : B ≤ w.heap.size) (hl : e.live = none) (hc : e.cnt < 100000) :
    Calls Tryz.prog 310 #[.pointer (some ⟨g, 0, none⟩)] w fun en w' => en = .returned (.tuple #[.int .i64 ((e.cnt + 1 : Nat) : Int), .int .i64 0]) ∧ ClS B w' g { e with live := some none, cnt := e.cnt + 1 } ∧ Lim CT B w w' := by
  obtain ⟨many, clk, v, wv, ks, s, h⟩ := h
  obtain ⟨i0, z, hi, hz0, hz1, hz2, hz3⟩ := info_129
  have hgl := block_lt h.eng
  have c0 := cell_of_row _ _ 0 _ _ _ h.eng
  have c2 := cell_of_row _ _ 2 _ _ _ h.eng
  have c3 := cell_of_row _ _ 3 _ _ _ h.eng
  have f3 := frozen_of_row _ _ 3 _ _ h.eng
  have C1 := Lib.hid (clGood g many w c0 (by have := h.pos; omega))
  obtain ⟨_, wa, wc, rfl, hwr⟩ := RowAt.of_owns h.works
  have hov : ∀ i, i < ks.length → ∃ b off k, wa = some ⟨b, off, none⟩ ∧ w.cell? ⟨b, off + i, none⟩ = some (.pointer (some ⟨k, 0, none⟩)) ∧ w.cell? ⟨k, 2, none⟩ = some (.bool true) := by
    intro i hil
    obtain ⟨b, off, rfl, _, hr⟩ := hwr (by omega)
    have hk : ks[i]? = some ks[i] := List.getElem?_eq_getElem hil
    obtain ⟨tv, st, cm, hw⟩ := h.over i _ hk (.inl hl)
    exact ⟨b, off, ks[i], rfl, ptrs_at hr hk, cell_of_row _ _ 2 _ _ _ hw⟩
  have HH := Lib.hid h
  have HOV := Lib.hid hov
  have hkn := Lib.hid h.cnt
  have hks : ks.length ≤ 100000 := by have := h.cnt; omega
  have hpos := h.pos
  clear h hov hwr
  go_enter Tryz.func310, Tryz.ntmps310
  go_wp2_with fail
  refine (C1.out).mono ?_
  rintro en y ⟨rfl, rfl⟩
  go_wp2_with fail
  go_loopw [15, 4] (fun i l wr => ∃ j : Nat, j ≤ ks.length ∧ i = .int .i64 j ∧ l = .int .i64 0 ∧ w = wr) (fun i _ _ => ks.length - (intOf i).toNat)
  case atStart => exact ⟨0, Nat.zero_le _, rfl, rfl, rfl⟩
  case round =>
    obtain ⟨j, hj, rfl, rfl, rfl⟩ := hrel
    by_cases hlt : j < ks.length
    · obtain ⟨b, off, k, rfl, q1, q2⟩ := HOV.out j hlt
      have h0 : (0 : Int) ≤ (j : Int) := by omega
      have h1 : (j : Int) < (ks.length : Int) := by omega
      go_wp2_with fail
      go_roundw
      case rel => exact ⟨j + 1, by omega, by go_num, rfl, trivial⟩
      case measure => simp [intOf]; omega
    · have e1 : j = ks.length := by omega
      subst e1
      go_wp2_with fail
      have hS0 : (fun w' : World => w'.cell? ⟨g, 2, none⟩ = some (.int .i64 clk) ∧ w'.cell? ⟨g, 3, none⟩ = some (.slice wa ks.length wc)) w.drew := ⟨c2, c3⟩
      refine zRegion 15 (S := fun w' => w'.cell? ⟨g, 2, none⟩ = some (.int .i64 clk) ∧ w'.cell? ⟨g, 3, none⟩ = some (.slice wa ks.length wc)) (by kernel_rfl) hS0 (fun hHeld => ?_)
      clear hS0
      refine zd 0 (v := ?_) ?_ ?_
      rotate_left
      · rintro w ⟨hS1, hS2⟩; go_simp; try with_reducible rfl
      simp only [Act.put, pt1, pt2, pt3]
      refine zd 1 (v := ?_) ?_ ?_
      rotate_left
      · rintro w ⟨hS1, hS2⟩; go_simp; try with_reducible rfl
      simp only [Act.put, pt1, pt2, pt3]
      refine zd 2 (v := ?_) ?_ ?_
      rotate_left
      · rintro w ⟨hS1, hS2⟩; go_simp; try with_reducible rfl
      simp only [Act.put, pt1, pt2, pt3]
      refine zd 3 (v := ?_) ?_ ?_
      rotate_left
      · rintro w ⟨hS1, hS2⟩; go_simp; try with_reducible rfl
      simp only [Act.put, pt1, pt2, pt3]
      refine zd 4 (v := ?_) ?_ ?_
      rotate_left
      · rintro w ⟨hS1, hS2⟩; go_simp; try with_reducible rfl
      simp only [Act.put, pt1, pt2, pt3]
      refine zd 5 (v := ?_) ?_ ?_
      rotate_left
      · rintro w ⟨hS1, hS2⟩; go_simp; try with_reducible rfl
      simp only [Act.put, pt1, pt2, pt3]
      refine zd 6 (v := ?_) ?_ ?_
      rotate_left
      · rintro w ⟨hS1, hS2⟩; go_simp; try with_reducible rfl
      simp only [Act.put, pt1, pt2, pt3]
      refine zd 7 (v := ?_) ?_ ?_
      rotate_left
      · rintro w ⟨hS1, hS2⟩; go_simp; try with_reducible rfl
      simp only [Act.put, pt1, pt2, pt3]
      refine zd 8 (v := ?_) ?_ ?_
      rotate_left
      · rintro w ⟨hS1, hS2⟩; go_simp; try with_reducible rfl
      simp only [Act.put, pt1, pt2, pt3]
      refine zd 9 (v := ?_) ?_ ?_
      rotate_left
      · rintro w ⟨hS1, hS2⟩; go_simp; try with_reducible rfl
      simp only [Act.put, pt1, pt2, pt3]
      refine zcl 10 (fun K' hK => ?_)
      go_simp
      refine hK.out _ _ ?_ (fun hHeld => ?_)
      · exact ⟨(World.cell?_alloc_past _ _ _ (by exact hgl)).trans c2, (World.cell?_alloc_past _ _ _ (by exact hgl)).trans c3⟩
      clear hK K'
      try simp only [Act.put, pt1, pt2, pt3]
      refine zcl 11 (fun K' hK => ?_)
      go_simp
      refine hK.out _ _ ?_ (fun hHeld => ?_)
      · exact ⟨(World.cell?_alloc_past _ _ _ (by simp; omega)).trans ((World.cell?_alloc_past _ _ _ (by exact hgl)).trans c2), (World.cell?_alloc_past _ _ _ (by simp; omega)).trans ((World.cell?_alloc_past _ _ _ (by exact hgl)).trans c3)⟩
      clear hK K'
      try simp only [Act.put, pt1, pt2, pt3]
      have hw2 : ∀ W2 : World, W2 = (((w.alloc (.cells #[.slice none 0 0, .int .i64 clk, .bool false, .bool false] 136)).alloc (.cells #[.pointer (some ⟨w.heap.size, 0, none⟩)] 129)).drew) → Below w.heap.size w W2 ∧ WorkAt W2 w.heap.size (.slice none 0 0) clk false false ∧ W2.heap[w.heap.size + 1]? = some (.cells #[.pointer (some ⟨w.heap.size, 0, none⟩)] 129 (0, 0)) ∧ W2.heap.size = w.heap.size + 2 := by
        rintro W2 rfl
        refine ⟨(((Below.refl _ _).alloc (Nat.le_refl _) _).alloc (by simp) _).drew, (heap_alloc_old _ _ (by simp)).trans (Go.heap_alloc_new _ _), ?_, by simp⟩
        have := Go.heap_alloc_new (w.alloc (.cells #[.slice none 0 0, .int .i64 clk, .bool false, .bool false] 136)) (.cells #[.pointer (some ⟨w.heap.size, 0, none⟩)] 129)
        rw [World.size_alloc] at this
        exact this
      have HW2 := Lib.hid hw2
      clear hw2 hHeld
      have hX := HW2.out _ rfl
      clear HW2
      generalize ((w.alloc (.cells #[.slice none 0 0, .int .i64 clk, .bool false, .bool false] 136)).alloc (.cells #[.pointer (some ⟨w.heap.size, 0, none⟩)] 129)).drew = W2 at *
      obtain ⟨hb2, hk2, hp2, hs2⟩ := hX
      have hol : W2.ownsRow B 129 1 (.slice wa ks.length wc) ks.length (ptrsC ks) := owns_below HH.out.works hb2
      have hnb : ∀ b, (Value.slice wa ks.length wc).ownBlock = some b → b < w.heap.size := fun b hb => (HH.out.works.lt b hb).2
      have hne : (Value.slice wa ks.length wc).ownBlock ≠ some g := owns_type HH.out.works HH.out.eng (by decide)
      refine zcl 12 (fun K' hK => ?_)
      rw [if_pos (by rfl)]
      refine wp_append_own _ _ _ 124 rfl B 129 i0 z 1 8 Tryz.underlying124 hi hz0 hz1 hz2 hz3 (by decide) (.slice wa ks.length wc) ks.length (ptrsC ks) rfl hol ⟨w.heap.size + 1, 0, none⟩ 1 1 [.pointer (some ⟨w.heap.size, 0, none⟩)] rfl rfl (fun j u hj => by
        have hj0 : j = 0 := by
          rcases j with _ | j
          · rfl
          · simp at hj
        subst hj0
        cases hj
        exact cell_of_row _ _ 0 _ _ _ hp2) (by intro u hu; simp at hu; subst hu; rfl) (by have := hkn.out; unfold maxLen; omega) (by have := hkn.out; omega) (by omega) ?_
      intro wv' w9 hown9 hgrow9 _
      have hE9 : w9.heap[g]? = some (.cells #[.int .i64 many, v, .int .i64 clk, .slice wa ks.length wc] 126 (0, 0)) := (hgrow9.block g (by omega) hne.symm).trans ((hb2.block g hgl).trans HH.out.eng)
      have hch9 : Chg (fun b => (Value.slice wa ks.length wc).ownBlock = some b) w w9 := (Chg.of_below hb2).grown hgrow9 (fun k e => .inl e)
      have hk9 : WorkAt w9 w.heap.size (.slice none 0 0) clk false false := (hgrow9.block _ (by omega) (fun e => by have := hnb _ e.symm; omega)).trans hk2
      obtain ⟨_, wa', wc', rfl, hwr'⟩ := RowAt.of_owns hown9
      have d3 := cell_of_row _ _ 3 _ _ _ hE9
      have g3 := frozen_of_row _ _ 3 _ _ hE9
      have HO9 := Lib.hid hown9
      have HE9 := Lib.hid hE9
      have HC9 := Lib.hid hch9
      have HK9 := Lib.hid hk9
      have HWR := Lib.hid hwr'
      have d2 := cell_of_row _ _ 2 _ _ _ hE9
      clear hown9 hgrow9 hE9 hch9 hk9 hwr' hol
      refine hK.out _ _ ?_ (fun hHeld => ?_)
      · exact ⟨d2, d3⟩
      clear hK K'
      try simp only [Act.put, pt1, pt2, pt3]
      refine zcl 13 (fun K' hK => ?_)
      go_simp
      refine hK.out _ _ (by assumption) (fun hHeld => ?_)
      clear hK K'
      try simp only [Act.put, pt1, pt2, pt3]
      refine zcl 14 (fun K' hK => ?_)
      go_simp
      refine hK.out _ _ (by assumption) (fun hHeld => ?_)
      clear hK K'
      try simp only [Act.put, pt1, pt2, pt3]
      refine zla (fun K' hK => ?_)
      go_simp
      refine hK.out _ _ ?_
      clear hK K'
      try simp only [Act.put, pt1, pt2, pt3]
      have hE10 : (w9.setCell ⟨g, 3, none⟩ (.slice wa' (ks.length + 1) wc')).heap[g]? = some (.cells #[.int .i64 many, v, .int .i64 clk, .slice wa' (ks.length + 1) wc'] 126 (0, 0)) := heap_setCell_same _ _ 3 _ _ _ HE9.out
      have hC10 : Chg (fun b => b = g ∨ (Value.slice wa ks.length wc).ownBlock = some b) w (w9.setCell ⟨g, 3, none⟩ (.slice wa' (ks.length + 1) wc')) := (HC9.out.weak (G := fun b => b = g ∨ (Value.slice wa ks.length wc).ownBlock = some b) (fun i e => .inl (.inr e))).setCell (p := ⟨g, 3, none⟩) (.inl (.inl rfl)) _
      have hO10 := ownsRow_setCell_other HO9.out (a := ⟨g, 3, none⟩) (owns_type HO9.out HE9.out (by decide)) (.slice wa' (ks.length + 1) wc')
      have hk10 : WorkAt (w9.setCell ⟨g, 3, none⟩ (.slice wa' (ks.length + 1) wc')) w.heap.size (.slice none 0 0) clk false false := (heap_setCell_other _ _ _ _ (show w.heap.size ≠ g by omega)).trans HK9.out
      generalize w9.setCell ⟨g, 3, none⟩ (.slice wa' (ks.length + 1) wc') = W10 at *
      have e3 := cell_of_row _ _ 3 _ _ _ hE10
      have HF := Lib.hid (And.intro hE10 (And.intro hC10 (And.intro hO10 hk10)))
      clear hE10 hC10 hO10 hk10 hHeld
      go_wp2_with fail
      go_ret2
      have hlim : Lim CT B w W10 := Chg.weak (F := fun b => b = g ∨ (Value.slice wa ks.length wc).ownBlock = some b) (G := InT CT B w) HF.out.2.1 fun i hi => .inl (HH.out.foot i hi)
      have hlt : ∀ k ∈ ks, k < w.heap.size := by
        intro k hk
        obtain ⟨i, hi⟩ := List.getElem?_of_mem hk
        obtain ⟨tv, st, cm, hw⟩ := HH.out.over i k hi (.inl hl)
        exact block_lt hw
      refine ⟨by rw [← hkn.out]; rfl, ⟨many, clk, v, .slice wa' (ks.length + 1) wc', ks ++ [w.heap.size], s, ?_⟩, hlim⟩
      exact {
        eng := HF.out.1
        base := HH.out.base
        pos := HH.out.pos
        store := owns_lim HH.out.store hlim rfl
        vals := HH.out.vals
        norm := HH.out.norm
        len := HH.out.len
        works := by
          have := HF.out.2.2.1
          simp only [List.length_append, List.length_cons, List.length_nil, ptrsC, List.map_append, List.map_cons, List.map_nil]
          exact this
        cnt := by simp [hkn.out]
        few := by simp only; omega
        clkb := by
          have := HH.out.clkb
          rw [hl] at this
          simp at this ⊢
          omega
        nodup := by
          rw [List.nodup_append]
          refine ⟨HH.out.nodup, by simp, ?_⟩
          intro a ha b hb
          simp at hb
          subst hb
          have := hlt a ha
          omega
        each := by
          intro k hk
          rcases List.mem_append.1 hk with hk | hk
          · exact HH.out.each k hk
          · simp at hk
            omega
        over := by
          intro i k hk ho
          have hi : i < ks.length := by
            rcases ho with ho | ho
            · cases ho
            · simp at ho; omega
          rw [List.getElem?_append_left hi] at hk
          obtain ⟨tv, st, cm, hw⟩ := HH.out.over i k hk (.inl hl)
          exact ⟨tv, st, cm, work_chg hw HF.out.2.1 HH.out.eng HH.out.works⟩
        tx := by
          intro t ht
          simp only [Option.some.injEq] at ht
          subst ht
          refine ⟨by simp, w.heap.size, none, 0, ?_, HF.out.2.2.2, ⟨rfl, .inl ⟨rfl, rfl⟩⟩, fun _ => ⟨rfl, rfl⟩, fun st hst => by cases hst⟩
          simp only [Nat.add_sub_cancel]
          rw [← hkn.out]
          simp }
end Go.Proofs.YteflpdhgojcmcaaGreatDoor
namespace Go.Proofs.YteflpdhgojcmcaaGreatDoor
open Go.RowKit PSet PMat
theorem csValues (B : Nat) (w : World) (g : Nat) (e : EngM) (h : ClS B w g e) :
    Calls Tryz.prog 315 #[.pointer (some ⟨g, 0, none⟩)] w fun en w' => ∃ v', en = .returned v' ∧ w'.ownsRow w.heap.size 53 2 v' e.vals.length (regsC e.vals) ∧ Below w.heap.size w w' := by
  obtain ⟨many, clk, v, wv, ks, s, h⟩ := h
  refine (clValues g v many s w (cell_of_row _ _ 0 _ _ _ h.eng) (by have := h.pos; omega) (cell_of_row _ _ 1 _ _ _ h.eng) (RowAt.of_owns h.store) (by have := h.len; omega)).mono ?_
  rintro en w' ⟨v', rfl, ho, hb⟩
  refine ⟨v', rfl, ?_, hb⟩
  rw [← h.vals, List.length_map]
  have : valsC s = regsC (s.map fun m => ((m.k, m.n) : Reg)) := by
    unfold valsC regsC
    rw [List.flatMap_map]
    rfl
  rw [← this]
  exact ho
/-- The live transaction, by its place in the row. -/
theorem ClI.live {B : Nat} {w : World} {g : Nat} {e : EngM} {many clk : Nat} {v wv : Value} {ks : List Nat} {s : List VarM} (h : ClI B w g e many clk v wv ks s) {t : Option StepM} (ht : e.live = some t) :
    ∃ k ta tc b off c, ks[e.cnt - 1]? = some k ∧ 1 ≤ e.cnt ∧ wv = .slice (some ⟨b, off, none⟩) ks.length c ∧ w.cell? ⟨b, off + (e.cnt - 1), none⟩ = some (.pointer (some ⟨k, 0, none⟩)) ∧ WorkAt w k (.slice ta (optN t) tc) clk false false ∧ w.ownsRow B 155 4 (.slice ta (optN t) tc) (optN t) (optC t) ∧ (t = none → ta = none ∧ tc = 0) ∧ (∀ st, t = some st → 0 ≤ st.x ∧ st.x < s.length ∧ rightV st.k st.n = true) ∧ InT CT B w k := by
  obtain ⟨h1, k, ta, tc, hk, hw, ho, hn, hx⟩ := h.tx t ht
  obtain ⟨_, a, c, rfl, hr⟩ := RowAt.of_owns h.works
  obtain ⟨b, off, rfl, _, hr⟩ := hr (by have := h.cnt; omega)
  have hB : B ≤ k := h.each k (List.mem_of_getElem? hk)
  exact ⟨k, ta, tc, b, off, c, hk, h1, rfl, ptrs_at hr hk, hw, ho, hn, hx, hB, _, _, _, hw, rfl⟩
theorem work_not {w : World} {g k : Nat} {tv : Value} {st : Int} {o c : Bool} {cs : Array Value} {t : Nat} (h : WorkAt w k tv st o c) (hg : w.heap[g]? = some (.cells cs t (0, 0))) (ht : t ≠ 136) : k ≠ g := by
  rintro rfl
  unfold WorkAt at h
  rw [hg] at h
  cases h
  exact ht rfl
theorem ClI.fin {B : Nat} {w w' : World} {g : Nat} {e : EngM} {many clk clk2 : Nat} {v v2 wv : Value} {ks : List Nat} {s s2 : List VarM} {t : Option StepM} {k : Nat} {tv' : Value} {st' : Int} {cm' : Bool} (h : ClI B w g e many clk v wv ks s) (hl : e.live = some t) (hk : ks[e.cnt - 1]? = some k)
    (hE' : w'.heap[g]? = some (.cells #[.int .i64 many, v2, .int .i64 clk2, wv] 126 (0, 0))) (hst : w'.ownsRow B 197 5 v2 s2.length (storeC s2)) (hn2 : ∀ m ∈ s2, m.ver ≤ clk2 ∧ rightV m.k m.n = true) (hlen : s2.length ≤ 64) (hclk : clk2 ≤ e.cnt)
    (hwk : WorkAt w' k tv' st' true cm') (hch : Chg (fun b => b = g ∨ b = k) w w') (l : List EntM) :
    ClS B w' g { vals := s2.map (fun m : VarM => ((m.k, m.n) : Reg)), cnt := e.cnt, live := none, log := l } ∧ Lim CT B w w' := by
  obtain ⟨h1, k0, ta, tc, hk0, hw, ho, _, _⟩ := h.tx t hl
  rw [hk] at hk0
  cases hk0
  have hlim : Lim CT B w w' := Chg.weak (F := fun b => b = g ∨ b = k) (G := InT CT B w) hch fun i hi => .inl (by
    rcases hi with rfl | rfl
    · exact h.foot _ (.inl rfl)
    · exact ⟨h.each _ (List.mem_of_getElem? hk), _, _, _, hw, rfl⟩)
  refine ⟨⟨many, clk2, v2, wv, ks, s2, ?_⟩, hlim⟩
  exact {
    eng := hE'
    base := h.base
    pos := h.pos
    store := hst
    vals := rfl
    norm := hn2
    len := hlen
    works := owns_chg h.works hch fun b cs hb hs => by
      rcases hb with rfl | rfl
      · rw [h.eng] at hs; cases hs
      · rw [show w.heap[b]? = _ from hw] at hs; cases hs
    cnt := h.cnt
    few := h.few
    clkb := by simpa using hclk
    nodup := h.nodup
    each := h.each
    over := by
      intro i k' hk' _
      by_cases hi : i = e.cnt - 1
      · subst hi
        rw [hk] at hk'
        cases hk'
        exact ⟨_, _, _, hwk⟩
      · have hil := (List.getElem?_eq_some_iff.1 hk').1
        have hne : k' ≠ k := by
          rintro rfl
          have h2 := (List.getElem?_inj hil h.nodup).1 (hk'.trans hk.symm)
          exact hi h2
        obtain ⟨tv, st, cm, hw2⟩ := h.over i k' hk' (.inr (by have := h.cnt; omega))
        exact ⟨tv, st, cm, (hch.block k' (block_lt hw2) (by rintro (rfl | e2); exact work_not hw2 h.eng (by decide) rfl; exact hne e2)).trans hw2⟩
    tx := fun t ht => by cases ht }
/-- The live transaction has one step now. -/
theorem ClI.again {B : Nat} {w w' : World} {g : Nat} {e : EngM} {many clk : Nat} {v wv : Value} {ks : List Nat} {s : List VarM} {k : Nat} {ta tb : Option Addr} {tc tn tm td : Nat} {st : StepM} {t0 : Option StepM} (h : ClI B w g e many clk v wv ks s) (hl : e.live = some t0) (hk : ks[e.cnt - 1]? = some k) (hw : WorkAt w k (.slice ta tn tc) clk false false)
    (hw' : WorkAt w' k (.slice tb tm td) clk false false) (ho' : w'.ownsRow B 155 4 (.slice tb tm td) 1 st.cells) (hch : Chg (fun b => b = k) w w') (hst : 0 ≤ st.x ∧ st.x < s.length ∧ rightV st.k st.n = true) :
    ClI B w' g { e with live := some (some st) } many clk v wv ks s := by
  have hkg := work_not hw h.eng (by decide)
  obtain ⟨h1, _⟩ := h.tx t0 hl
  have hm : tm = 1 := by
    obtain ⟨_, a, c, e1, _⟩ := RowAt.of_owns ho'
    cases e1
    rfl
  subst hm
  exact {
    eng := (hch.block g (block_lt h.eng) (fun e => hkg e.symm)).trans h.eng
    base := h.base
    pos := h.pos
    store := owns_chg h.store hch fun b cs hb hs => by
      subst hb
      rw [show w.heap[b]? = _ from hw] at hs
      cases hs
    vals := h.vals
    norm := h.norm
    len := h.len
    works := owns_chg h.works hch fun b cs hb hs => by
      subst hb
      rw [show w.heap[b]? = _ from hw] at hs
      cases hs
    cnt := h.cnt
    few := h.few
    clkb := by
      have := h.clkb
      rw [hl] at this
      simpa using this
    nodup := h.nodup
    each := h.each
    over := by
      intro i k' hk' hi
      have hi2 : i + 1 < ks.length := by
        rcases hi with hi | hi
        · cases hi
        · exact hi
      have hne : k' ≠ k := by
        rintro rfl
        have h2 := (List.getElem?_inj (by omega) h.nodup).1 (hk'.trans hk.symm)
        have := h.cnt
        omega
      obtain ⟨tv, st, cm, hw2⟩ := h.over i k' hk' (.inr hi2)
      exact ⟨tv, st, cm, (hch.block k' (block_lt hw2) hne).trans hw2⟩
    tx := by
      intro t ht
      simp only [Option.some.injEq] at ht
      subst ht
      refine ⟨h1, k, tb, td, hk, hw', ho', fun e => (by cases e), fun st' hst' => ?_⟩
      cases hst'
      exact hst }
set_option maxRecDepth 100000 in
theorem csAbort (B : Nat) (w : World) (g : Nat) (e : EngM) (t : Option StepM) (h : ClS B w g e) (hl : e.live = some t) :
    Calls Tryz.prog 308 #[.pointer (some ⟨g, 0, none⟩), .int .i64 (e.cnt : Int)] w fun en w' => en = .returned (.int .i64 0) ∧ ClS B w' g (e.over false t) ∧ Lim CT B w w' := by
  obtain ⟨many, clk, v, wv, ks, s, h⟩ := h
  obtain ⟨k, ta, tc, b, off, c, hk, h1, rfl, hp, hw, ho, _, _, hin⟩ := h.live hl
  have hcn := h.cnt
  have C1 := Lib.hid (clWho g b off ks.length c k (e.cnt - 1) many w (cell_of_row _ _ 0 _ _ _ h.eng) (by have := h.pos; omega) (cell_of_row _ _ 3 _ _ _ h.eng) (by omega) (by have := h.few; omega) hp (cell_of_row _ _ 2 _ _ _ hw))
  rw [show ((e.cnt - 1 + 1 : Nat) : Int) = (e.cnt : Int) from by omega] at C1
  have k2 := cell_of_row _ _ 2 _ _ _ hw
  have f2 := frozen_of_row _ _ 2 _ _ hw
  have hkg := work_not hw h.eng (by decide)
  have hfin := h.fin hl hk (w' := w.setCell ⟨k, 2, none⟩ (.bool true)) ((heap_setCell_other _ _ _ _ (fun e => hkg e.symm)).trans h.eng) (ownsRow_setCell_other h.store (a := ⟨k, 2, none⟩) (owns_type h.store hw (by decide)) _) h.norm h.len (by have := h.clkb; rw [hl] at this; simp at this; omega) (heap_setCell_same _ _ 2 _ _ _ hw) (Chg.setCell (F := fun b => b = g ∨ b = k) (Chg.refl _ _) (p := ⟨k, 2, none⟩) (.inl (.inr rfl)) _) (e.over false t).log
  rw [h.vals] at hfin
  have HF := Lib.hid hfin
  clear h hk h1 hp hw ho hin hl hfin hcn hkg
  unfold EngM.over at HF
  unfold EngM.over
  generalize (e.cnt : Int) = cc at *
  go_enter Tryz.func308, Tryz.ntmps308
  go_wp2_with fail
  refine (C1.out).mono ?_
  rintro en y ⟨rfl, rfl⟩
  go_wp2_with fail
  go_ret
  exact ⟨rfl, HF.out.1, HF.out.2⟩
theorem csWrite (B : Nat) (w : World) (g : Nat) (e : EngM) (x : Nat) (k n : Int) (h : ClS B w g e) (hB : B ≤ w.heap.size) (hl : e.live = some none) (hx : x < e.vals.length) (hv : rightV k n = true) :
    Calls Tryz.prog 316 #[.pointer (some ⟨g, 0, none⟩), .int .i64 (e.cnt : Int), .int .i64 (x : Int), .agg #[.int .i64 k, .int .i64 n]] w fun en w' => en = .returned (.int .i64 0) ∧ ClS B w' g { e with live := some (some ⟨x, k, n, true⟩) } ∧ Lim CT B w w' := by
  obtain ⟨many, clk, v, wv, ks, s, h⟩ := h
  obtain ⟨kk, ta, tc, b, off, c, hk, h1, rfl, hp, hw, ho, hn, _, hin⟩ := h.live hl
  obtain ⟨rfl, rfl⟩ := hn rfl
  obtain ⟨_, va, vc, rfl, _⟩ := RowAt.of_owns h.store
  have hcn := h.cnt
  have hlen := h.len
  rw [← h.vals, List.length_map] at hx
  have hc := clWrite g b off ks.length c kk (e.cnt - 1) va s.length vc [.slice none 0 0, .int .i64 clk, .bool false, .bool false] many x k n w (cell_of_row _ _ 0 _ _ _ h.eng) (by have := h.pos; omega) (cell_of_row _ _ 1 _ _ _ h.eng) (cell_of_row _ _ 3 _ _ _ h.eng) (by omega) (by have := h.few; omega) hp hw rfl rfl (by omega) (by omega) (by omega) hv
  rw [show ((e.cnt - 1 + 1 : Nat) : Int) = (e.cnt : Int) from by omega] at hc
  refine hc.mono ?_
  rintro en w' ⟨rfl, v', hw', ho', hch⟩
  obtain ⟨_, ta', tc', rfl, _⟩ := RowAt.of_owns ho'
  have hkg := work_not hw h.eng (by decide)
  have hlim : Lim CT B w w' := Chg.weak (F := fun b => b = kk) (G := InT CT B w) hch fun i hi => .inl (by subst hi; exact hin)
  refine ⟨rfl, ⟨many, clk, .slice va s.length vc, .slice (some ⟨b, off, none⟩) ks.length c, ks, s, ?_⟩, hlim⟩
  exact ClI.again h hl hk hw hw' (owns_mono ho' hB) hch ⟨by simp, by simpa using hx, hv⟩
end Go.Proofs.YteflpdhgojcmcaaGreatDoor
