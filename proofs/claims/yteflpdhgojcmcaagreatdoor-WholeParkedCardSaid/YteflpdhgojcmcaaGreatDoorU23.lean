/- The clock's Commit over an engine as a model. No conditions but those that each theorem names. -/
import Derived.Test.YteflpdhgojcmcaaGreatDoorU01
import Derived.Test.YteflpdhgojcmcaaGreatDoorU21
import Derived.Test.YteflpdhgojcmcaaGreatDoorU22
namespace Go.Proofs.YteflpdhgojcmcaaGreatDoor
open Go.RowKit PSet PMat
theorem index166_empty (f : Value) (a : Option Addr) (c : Nat) (w : World) :
    Calls Tryz.prog 166 #[.slice a 0 c, f] w fun e w' => e = .returned (.int .i64 (-1)) ∧ w = w' := by
  go_enter Tryz.func166, Tryz.ntmps166
  go_wp2_with fail
  refine wp_loop_rounds 1 ?_
  rw [rounds_succ]
  go_wp2_with fail
  go_ret
  exact ⟨rfl, rfl⟩
theorem contains131_empty (f : Value) (a : Option Addr) (c : Nat) (w : World) :
    Calls Tryz.prog 131 #[.slice a 0 c, f] w fun e w' => e = .returned (.bool false) ∧ w = w' := by
  have C := Lib.hid (index166_empty f a c w)
  go_enter Tryz.func131, Tryz.ntmps131
  go_wp2_with fail
  refine (C.out).mono ?_
  rintro e y ⟨rfl, rfl⟩
  go_wp2_with fail
  go_ret
  exact ⟨rfl, rfl⟩
set_option maxRecDepth 100000 in
set_option maxHeartbeats 1000000 in
theorem csCommit_none (B : Nat) (w : World) (g : Nat) (e : EngM) (t : Option StepM) (h : ClS B w g e) (hl : e.live = some t) (hwt : writesM t = none) :
    Calls Tryz.prog 312 #[.pointer (some ⟨g, 0, none⟩), .int .i64 (e.cnt : Int)] w fun en w' => en = .returned (.int .i64 0) ∧ ClS B w' g (e.over true t) ∧ Lim CT B w w' := by
  obtain ⟨many, clk, v, wv, ks, s, h⟩ := h
  obtain ⟨kk, ta, tc, b, off, c, hk, h1, rfl, hp, hw, ho, _, htx, hin⟩ := h.live hl
  have hcn := h.cnt
  have hlen := h.len
  have hgl := block_lt h.eng
  have hkl := block_lt hw
  have hkg := work_not hw h.eng (by decide)
  have C1 := Lib.hid (fun (W : World) (hb : Below w.heap.size w W) => clWho g b off ks.length c kk (e.cnt - 1) many W ((hb.cell (p := ⟨g, 0, none⟩) hgl).trans (cell_of_row _ _ 0 _ _ _ h.eng)) (by have := h.pos; omega) ((hb.cell (p := ⟨g, 3, none⟩) hgl).trans (cell_of_row _ _ 3 _ _ _ h.eng)) (by omega) (by have := h.few; omega) ((hb.cell (p := ⟨b, off + (e.cnt - 1), none⟩) (block_lt_of_cell hp)).trans hp) ((hb.cell (p := ⟨kk, 2, none⟩) hkl).trans (cell_of_row _ _ 2 _ _ _ hw)))
  rw [show ((e.cnt - 1 + 1 : Nat) : Int) = (e.cnt : Int) from by omega] at C1
  have hro : ∀ W : World, Chg (fun b => b = kk) w W → RowAt W (.slice ta (optN t) tc) (optN t) 4 (optC t) := fun W hc => (RowAt.of_owns ho).chg hc (fun b hb e => owns_type ho hw (by decide) (by rw [hb, e]))
  have C2 := Lib.hid (fun (W : World) (hc : Chg (fun b => b = kk) w W) => txnWrites t (.slice ta (optN t) tc) W (hro W hc) (fun st hst => ⟨(htx st hst).1, by have := (htx st hst).2.1; omega⟩))
  rw [hwt] at C2
  have HFIN := Lib.hid (fun (w' : World) (hE' : w'.heap[g]? = w.heap[g]?) (hst : w'.ownsRow B 197 5 v s.length (storeC s)) (hwk : ∃ tv, WorkAt w' kk tv clk true true) (hch : Chg (fun b => b = g ∨ b = kk) w w') => by
    obtain ⟨tv, hwk⟩ := hwk
    have := h.fin hl hk (hE'.trans h.eng) hst h.norm h.len (by have := h.clkb; rw [hl] at this; simp at this; omega) hwk hch (e.over true t).log
    rw [h.vals] at this
    exact this)
  have HW := Lib.hid hw
  have HE := Lib.hid h.eng
  have HST := Lib.hid h.store
  unfold EngM.over at HFIN
  unfold EngM.over
  clear h hk h1 hp hw ho hin hl hro htx hwt
  generalize (e.cnt : Int) = cc at *
  generalize optN t = tnn at *
  have hb1 : Below w.heap.size w (w.alloc (.cells #[.pointer (some ⟨g, 0, none⟩)] 98)) := (Below.refl _ _).alloc (Nat.le_refl _) _
  have hr1 := Go.heap_alloc_new w (.cells #[.pointer (some ⟨g, 0, none⟩)] 98)
  go_enter Tryz.func312, Tryz.ntmps312
  go_upto_region 1 with (fail)
  generalize w.alloc (.cells #[.pointer (some ⟨g, 0, none⟩)] 98) = W1 at *
  have C1' := Lib.hid (C1.out W1 hb1)
  have q1 := cell_of_row _ _ 0 _ _ _ hr1
  have HB1 := Lib.hid hb1
  have HR1 := Lib.hid hr1
  have l1 : w.heap.size < W1.heap.size := block_lt hr1
  clear hb1 hr1 C1
  go_wp2_with fail
  refine (C1'.out).mono ?_
  rintro en y ⟨rfl, rfl⟩
  go_upto_region 2 with (fail)
  have hr2 := Go.heap_alloc_new W1 (.cells #[.pointer (some ⟨kk, 0, none⟩)] 129)
  have hbA : Below W1.heap.size W1 (W1.alloc (.cells #[.pointer (some ⟨kk, 0, none⟩)] 129)) := (Below.refl _ _).alloc (Nat.le_refl _) _
  generalize W1.alloc (.cells #[.pointer (some ⟨kk, 0, none⟩)] 129) = W2 at *
  have hb2 := HB1.out.trans (hbA.mono HB1.out.size)
  have r1 := (hbA.block _ l1).trans HR1.out
  have hw2 := (hb2.block _ hkl).trans HW.out
  have q2 := cell_of_row _ _ 0 _ _ _ hr2
  have k2 := cell_of_row _ _ 2 _ _ _ hw2
  have f2 := frozen_of_row _ _ 2 _ _ hw2
  have l2 : W1.heap.size < W2.heap.size := block_lt hr2
  have hc3 : Chg (fun b => b = kk) w (W2.setCell ⟨kk, 2, none⟩ (.bool true)) := Chg.setCell (F := fun b => b = kk) (Chg.of_below hb2) (p := ⟨kk, 2, none⟩) (.inl rfl) _
  have hw3 : WorkAt (W2.setCell ⟨kk, 2, none⟩ (.bool true)) kk (.slice ta tnn tc) clk true false := heap_setCell_same _ _ 2 _ _ _ hw2
  have r13 : (W2.setCell ⟨kk, 2, none⟩ (.bool true)).heap[w.heap.size]? = _ := (heap_setCell_other _ _ _ _ (show w.heap.size ≠ kk by omega)).trans r1
  have r23 : (W2.setCell ⟨kk, 2, none⟩ (.bool true)).heap[W1.heap.size]? = _ := (heap_setCell_other _ _ _ _ (show W1.heap.size ≠ kk by omega)).trans hr2
  have HC3 := Lib.hid hc3
  have HW3 := Lib.hid hw3
  have HR13 := Lib.hid r13
  have HR23 := Lib.hid r23
  have s3 : W2.heap.size ≤ (W2.setCell ⟨kk, 2, none⟩ (.bool true)).heap.size := by simp [World.setCell]
  clear hc3 hw3 r13 r23 hb2 r1 hw2 hr2 hbA
  go_upto_region 5 with (fail)
  generalize W2.setCell ⟨kk, 2, none⟩ (.bool true) = W3 at *
  clear q1 q2 k2 f2
  have p1 := cell_of_row _ _ 0 _ _ _ HR13.out
  have p2 := cell_of_row _ _ 0 _ _ _ HR23.out
  have k0 := cell_of_row _ _ 0 _ _ _ HW3.out
  have C2' := Lib.hid (C2.out W3 HC3.out)
  clear C2
  go_wp2_with fail
  refine (C2'.out).mono ?_
  rintro en y4 ⟨v', rfl, hown, hnil, hb4⟩
  have hv' : v' = .slice none 0 0 := hnil.2 trivial
  subst hv'
  have hw4 := (hb4.block _ (block_lt HW3.out)).trans HW3.out
  have hc4 := HC3.out.below hb4 HC3.out.size
  have r4 := (hb4.block _ (block_lt HR23.out)).trans HR23.out
  have p4 := cell_of_row _ _ 0 _ _ _ r4
  have k3 := cell_of_row _ _ 3 _ _ _ hw4
  have f3 := frozen_of_row _ _ 3 _ _ hw4
  have hw5 : WorkAt (y4.setCell ⟨kk, 3, none⟩ (.bool true)) kk (.slice ta tnn tc) clk true true := heap_setCell_same _ _ 3 _ _ _ hw4
  have hc5 : Chg (fun b => b = kk) w (y4.setCell ⟨kk, 3, none⟩ (.bool true)) := hc4.setCell (p := ⟨kk, 3, none⟩) (.inl rfl) _
  have hfin := HFIN.out _ (hc5.block g hgl (fun e => hkg e.symm)) (owns_chg HST.out hc5 (fun b cs hb hs => by
    subst hb
    rw [show w.heap[b]? = _ from HW.out] at hs
    cases hs)) ⟨_, hw5⟩ (hc5.weak (fun i e => .inl (.inr e)))
  have HF := Lib.hid hfin
  clear hown hnil hb4 hw4 hc4 r4 hw5 hc5 hfin k0 p1 p2
  go_wp2_with fail
  go_ret
  exact ⟨rfl, HF.out.1, HF.out.2⟩
set_option maxRecDepth 100000 in
set_option maxHeartbeats 2000000 in
theorem csCommit_some (B : Nat) (w : World) (g : Nat) (e : EngM) (t : Option StepM) (st : StepM) (h : ClS B w g e) (hB : B ≤ w.heap.size) (hl : e.live = some t) (hwt : writesM t = some st) :
    Calls Tryz.prog 312 #[.pointer (some ⟨g, 0, none⟩), .int .i64 (e.cnt : Int)] w fun en w' => en = .returned (.int .i64 0) ∧ ClS B w' g (EngM.over { e with vals := e.vals.set st.x.toNat (st.k, st.n) } true t) ∧ Lim CT B w w' := by
  obtain ⟨many, clk, v, wv, ks, s, h⟩ := h
  obtain ⟨kk, ta, tc, b, off, c, hk, h1, rfl, hp, hw, ho, _, htx, hin⟩ := h.live hl
  have hcn := h.cnt
  have hlen := h.len
  have hgl := block_lt h.eng
  have hkl := block_lt hw
  have hkg := work_not hw h.eng (by decide)
  have C1 := Lib.hid (fun (W : World) (hb : Below w.heap.size w W) => clWho g b off ks.length c kk (e.cnt - 1) many W ((hb.cell (p := ⟨g, 0, none⟩) hgl).trans (cell_of_row _ _ 0 _ _ _ h.eng)) (by have := h.pos; omega) ((hb.cell (p := ⟨g, 3, none⟩) hgl).trans (cell_of_row _ _ 3 _ _ _ h.eng)) (by omega) (by have := h.few; omega) ((hb.cell (p := ⟨b, off + (e.cnt - 1), none⟩) (block_lt_of_cell hp)).trans hp) ((hb.cell (p := ⟨kk, 2, none⟩) hkl).trans (cell_of_row _ _ 2 _ _ _ hw)))
  rw [show ((e.cnt - 1 + 1 : Nat) : Int) = (e.cnt : Int) from by omega] at C1
  have hro : ∀ W : World, Chg (fun b => b = kk) w W → RowAt W (.slice ta (optN t) tc) (optN t) 4 (optC t) := fun W hc => (RowAt.of_owns ho).chg hc (fun b hb e => owns_type ho hw (by decide) (by rw [hb, e]))
  have C2 := Lib.hid (fun (W : World) (hc : Chg (fun b => b = kk) w W) => txnWrites t (.slice ta (optN t) tc) W (hro W hc) (fun st hst => ⟨(htx st hst).1, by have := (htx st hst).2.1; omega⟩))
  rw [hwt] at C2
  have hst : t = some st ∧ st.wr = true := by
    unfold writesM at hwt
    exact Option.filter_eq_some_iff.1 hwt
  have hrt : readsM t = none := by rw [hst.1, readsM]; simp [hst.2]
  obtain ⟨tx0, tx1, trv⟩ := htx st hst.1
  have C6 := Lib.hid (fun (W : World) (hc : Chg (fun b => b = kk) w W) => txnReads t (.slice ta (optN t) tc) W (hro W hc) (fun st hst => ⟨(htx st hst).1, by have := (htx st hst).2.1; omega⟩))
  rw [hrt] at C6
  obtain ⟨sx, sk, sn, sw⟩ := st
  simp only at tx0 tx1 trv
  obtain ⟨x, rfl⟩ := Int.eq_ofNat_of_zero_le tx0
  have hxl : x < s.length := by omega
  have hclk : clk < e.cnt := by have := h.clkb; rw [hl] at this; simp at this; omega
  have hfew := h.few
  obtain ⟨_, va, vc, rfl, _⟩ := RowAt.of_owns h.store
  have C5 := Lib.hid (fun (W : World) (hc : Chg (fun b => b = g ∨ b = kk) w W) => put_yes' (.slice va s.length vc) s x sk sn ((clk : Int) + 1) (-1) W (RowAt.of_owns (owns_chg h.store hc fun b cs hb hs => by
    rcases hb with rfl | rfl
    · rw [h.eng] at hs; cases hs
    · rw [show w.heap[b]? = _ from hw] at hs; cases hs)) hxl (by omega) trv (.inl rfl))
  have HFIN := Lib.hid (fun (w' : World) (v2 : Value) (hE' : w'.heap[g]? = some (.cells #[.int .i64 many, v2, .int .i64 ((clk : Int) + 1), .slice (some ⟨b, off, none⟩) ks.length c] 126 (0, 0))) (hs2 : w'.ownsRow B 197 5 v2 s.length (storeC (s.set x ⟨sk, sn, (clk : Int) + 1, -1, 0⟩))) (hwk : ∃ tv, WorkAt w' kk tv ((clk : Int) + 1) true true) (hch : Chg (fun b => b = g ∨ b = kk) w w') => by
    obtain ⟨tv, hwk⟩ := hwk
    have hlen2 : (s.set x ⟨sk, sn, (clk : Int) + 1, -1, 0⟩).length = s.length := List.length_set
    have hn2 : ∀ m ∈ s.set x ⟨sk, sn, (clk : Int) + 1, -1, 0⟩, m.ver ≤ ((clk + 1 : Nat) : Int) ∧ rightV m.k m.n = true := by
      intro m hm
      rcases List.mem_or_eq_of_mem_set hm with hm | rfl
      · exact ⟨by have := (h.norm m hm).1; omega, (h.norm m hm).2⟩
      · exact ⟨by simp, trv⟩
    have := h.fin (clk2 := clk + 1) hl hk (by rw [show ((clk + 1 : Nat) : Int) = (clk : Int) + 1 from by omega]; exact hE') (by rw [hlen2]; exact hs2) hn2 (by rw [hlen2]; exact hlen) (by omega) hwk hch (EngM.over { e with vals := e.vals.set x (sk, sn) } true t).log
    rw [List.map_set, h.vals] at this
    exact this)
  have HW := Lib.hid hw
  have HE := Lib.hid h.eng
  simp only [Int.toNat_natCast]
  unfold EngM.over at HFIN
  unfold EngM.over
  clear h hk h1 hp hw ho hin hl hro htx hwt hst hrt trv
  generalize (e.cnt : Int) = cc at *
  generalize optN t = tnn at *
  have hb1 : Below w.heap.size w (w.alloc (.cells #[.pointer (some ⟨g, 0, none⟩)] 98)) := (Below.refl _ _).alloc (Nat.le_refl _) _
  have hr1 := Go.heap_alloc_new w (.cells #[.pointer (some ⟨g, 0, none⟩)] 98)
  go_enter Tryz.func312, Tryz.ntmps312
  go_upto_region 1 with (fail)
  generalize w.alloc (.cells #[.pointer (some ⟨g, 0, none⟩)] 98) = W1 at *
  have C1' := Lib.hid (C1.out W1 hb1)
  have q1 := cell_of_row _ _ 0 _ _ _ hr1
  have HB1 := Lib.hid hb1
  have HR1 := Lib.hid hr1
  have l1 : w.heap.size < W1.heap.size := block_lt hr1
  clear hb1 hr1 C1
  go_wp2_with fail
  refine (C1'.out).mono ?_
  rintro en y ⟨rfl, rfl⟩
  go_upto_region 2 with (fail)
  have hr2 := Go.heap_alloc_new W1 (.cells #[.pointer (some ⟨kk, 0, none⟩)] 129)
  have hbA : Below W1.heap.size W1 (W1.alloc (.cells #[.pointer (some ⟨kk, 0, none⟩)] 129)) := (Below.refl _ _).alloc (Nat.le_refl _) _
  generalize W1.alloc (.cells #[.pointer (some ⟨kk, 0, none⟩)] 129) = W2 at *
  have hb2 := HB1.out.trans (hbA.mono HB1.out.size)
  have r1 := (hbA.block _ l1).trans HR1.out
  have hw2 := (hb2.block _ hkl).trans HW.out
  have q2 := cell_of_row _ _ 0 _ _ _ hr2
  have k2 := cell_of_row _ _ 2 _ _ _ hw2
  have f2 := frozen_of_row _ _ 2 _ _ hw2
  have l2 : W1.heap.size < W2.heap.size := block_lt hr2
  have hc3 : Chg (fun b => b = kk) w (W2.setCell ⟨kk, 2, none⟩ (.bool true)) := Chg.setCell (F := fun b => b = kk) (Chg.of_below hb2) (p := ⟨kk, 2, none⟩) (.inl rfl) _
  have hw3 : WorkAt (W2.setCell ⟨kk, 2, none⟩ (.bool true)) kk (.slice ta tnn tc) clk true false := heap_setCell_same _ _ 2 _ _ _ hw2
  have r13 : (W2.setCell ⟨kk, 2, none⟩ (.bool true)).heap[w.heap.size]? = _ := (heap_setCell_other _ _ _ _ (show w.heap.size ≠ kk by omega)).trans r1
  have r23 : (W2.setCell ⟨kk, 2, none⟩ (.bool true)).heap[W1.heap.size]? = _ := (heap_setCell_other _ _ _ _ (show W1.heap.size ≠ kk by omega)).trans hr2
  have HC3 := Lib.hid hc3
  have HW3 := Lib.hid hw3
  have HR13 := Lib.hid r13
  have HR23 := Lib.hid r23
  have s3 : W2.heap.size ≤ (W2.setCell ⟨kk, 2, none⟩ (.bool true)).heap.size := by simp [World.setCell]
  clear hc3 hw3 r13 r23 hb2 r1 hw2 hr2 hbA
  go_upto_region 5 with (fail)
  generalize W2.setCell ⟨kk, 2, none⟩ (.bool true) = W3 at *
  clear q1 q2 k2 f2
  have p1 := cell_of_row _ _ 0 _ _ _ HR13.out
  have p2 := cell_of_row _ _ 0 _ _ _ HR23.out
  have k0 := cell_of_row _ _ 0 _ _ _ HW3.out
  have C2' := Lib.hid (C2.out W3 HC3.out)
  clear C2
  go_wp2_with fail
  refine (C2'.out).mono ?_
  rintro en y4 ⟨v', rfl, hown, hnil, hb4⟩
  obtain ⟨_, ra, rc, rfl, hr⟩ := RowAt.of_owns hown
  obtain ⟨rb, ro, rfl, hrl, hr⟩ := hr (by simp [optN])
  have hrg : W3.heap.size ≤ rb := (hown.lt rb rfl).1
  have l3 : W2.heap.size ≤ W3.heap.size := by omega
  have hw4 := (hb4.block _ (block_lt HW3.out)).trans HW3.out
  have hc4 := HC3.out.below hb4 HC3.out.size
  have r14 := (hb4.block _ (block_lt HR13.out)).trans HR13.out
  have r24 := (hb4.block _ (block_lt HR23.out)).trans HR23.out
  have p14 := cell_of_row _ _ 0 _ _ _ r14
  have p24 := cell_of_row _ _ 0 _ _ _ r24
  have k04 := cell_of_row _ _ 0 _ _ _ hw4
  have C6' := Lib.hid (C6.out y4 hc4)
  have HW4 := Lib.hid hw4
  have HC4 := Lib.hid hc4
  have HR14 := Lib.hid r14
  have HR24 := Lib.hid r24
  have HRW := Lib.hid hr
  have hmf : ∀ (fn : Fn) (first cap : Array Value) (w : World), (Instr.makeFunc fn first cap).run Tryz.prog w = .ok (.func fn first cap) w := fun _ _ _ _ => rfl
  clear hown hnil hb4 hw4 hc4 r14 r24 hr k0 p1 p2 C6
  simp only [optN]
  go_wp2_with fail
  refine (C6'.out).mono ?_
  rintro en y5 ⟨v5, rfl, _, hnil5, hb5⟩
  have hv5 : v5 = .slice none 0 0 := hnil5.2 trivial
  subst hv5
  have hw5 := (hb5.block _ (block_lt HW4.out)).trans HW4.out
  have hc5 := HC4.out.below hb5 HC4.out.size
  have r15 := (hb5.block _ (block_lt HR14.out)).trans HR14.out
  have r25 := (hb5.block _ (block_lt HR24.out)).trans HR24.out
  have hrw5 := range_keep HRW.out (hb5.block rb hrl)
  have C7 := Lib.hid (fun f => contains131_empty f none 0 y5)
  have p15 := cell_of_row _ _ 0 _ _ _ r15
  have hE5 := (hc5.block g hgl (fun e => hkg e.symm)).trans HE.out
  have e25 := cell_of_row _ _ 2 _ _ _ hE5
  have ef5 := frozen_of_row _ _ 2 _ _ hE5
  have ly : y4.heap.size ≤ y5.heap.size := hb5.size
  have hE6 : (y5.setCell ⟨g, 2, none⟩ (.int .i64 ((clk : Int) + 1))).heap[g]? = some (.cells #[.int .i64 many, .slice va s.length vc, .int .i64 ((clk : Int) + 1), .slice (some ⟨b, off, none⟩) ks.length c] 126 (0, 0)) := heap_setCell_same _ _ 2 _ _ _ hE5
  have hc6 : Chg (fun b => b = g ∨ b = kk) w (y5.setCell ⟨g, 2, none⟩ (.int .i64 ((clk : Int) + 1))) := Chg.setCell (F := fun b => b = g ∨ b = kk) (hc5.weak (fun i e => .inl (.inr e))) (p := ⟨g, 2, none⟩) (.inl (.inl rfl)) _
  have oth : ∀ j, j ≠ g → (y5.setCell ⟨g, 2, none⟩ (.int .i64 ((clk : Int) + 1))).heap[j]? = y5.heap[j]? := fun j hj => heap_setCell_other _ _ _ _ hj
  have hw6 := (oth kk hkg).trans hw5
  have r16 := (oth w.heap.size (by omega)).trans r15
  have r26 := (oth W1.heap.size (by omega)).trans r25
  have hrw6 := range_keep hrw5 (oth rb (by omega))
  have s6 : y5.heap.size ≤ (y5.setCell ⟨g, 2, none⟩ (.int .i64 ((clk : Int) + 1))).heap.size := by simp [World.setCell]
  have HF6 := Lib.hid (And.intro hE6 (And.intro hc6 (And.intro hw6 (And.intro r16 (And.intro r26 hrw6)))))
  clear hw5 hc5 r15 r25 hrw5 hb5 hE5 hE6 hc6 oth hw6 r16 r26 hrw6 hnil5 p14 p24 k04
  go_wp2_with (refine (C7.out _).mono ?_; rintro en y6 ⟨rfl, rfl⟩)
  generalize y5.setCell ⟨g, 2, none⟩ (.int .i64 ((clk : Int) + 1)) = W6 at *
  clear p15 e25 ef5 C7
  have hr6 := HF6.out.2.2.2.2.2
  have z0 : W6.cell? ⟨rb, ro, none⟩ = some (.int .i64 (x : Int)) := hr6 0 _ rfl
  have z1 : W6.cell? ⟨rb, ro + 1, none⟩ = some (.int .i64 sk) := hr6 1 _ rfl
  have z2 : W6.cell? ⟨rb, ro + 2, none⟩ = some (.int .i64 sn) := hr6 2 _ rfl
  have z3 : W6.cell? ⟨rb, ro + 3, none⟩ = some (.bool sw) := hr6 3 _ rfl
  clear hr6
  refine wp_loop_rounds 2 ?_
  rw [rounds_succ]
  go_upto_region 15 with (fail)
  have hpA := Go.heap_alloc_new W6 (.cells #[.int .i64 (x : Int), .int .i64 sk, .int .i64 sn, .bool sw] 155)
  have hbA : Below W6.heap.size W6 (W6.alloc (.cells #[.int .i64 (x : Int), .int .i64 sk, .int .i64 sn, .bool sw] 155)) := (Below.refl _ _).alloc (Nat.le_refl _) _
  generalize W6.alloc (.cells #[.int .i64 (x : Int), .int .i64 sk, .int .i64 sn, .bool sw] 155) = W7 at *
  have hE7 := (hbA.block _ (block_lt HF6.out.1)).trans HF6.out.1
  have hc7 := HF6.out.2.1.below hbA HF6.out.2.1.size
  have hw7 := (hbA.block _ (block_lt HF6.out.2.2.1)).trans HF6.out.2.2.1
  have r17 := (hbA.block _ (block_lt HF6.out.2.2.2.1)).trans HF6.out.2.2.2.1
  have r27 := (hbA.block _ (block_lt HF6.out.2.2.2.2.1)).trans HF6.out.2.2.2.2.1
  have a0 := cell_of_row _ _ 0 _ _ _ hpA
  have a1 := cell_of_row _ _ 1 _ _ _ hpA
  have a2 := cell_of_row _ _ 2 _ _ _ hpA
  have e1 := cell_of_row _ _ 1 _ _ _ hE7
  have e2 := cell_of_row _ _ 2 _ _ _ hE7
  have p17 := cell_of_row _ _ 0 _ _ _ r17
  have lA : W6.heap.size < W7.heap.size := block_lt hpA
  have HE7 := Lib.hid hE7
  have HC7 := Lib.hid hc7
  have HW7 := Lib.hid hw7
  have HR17 := Lib.hid r17
  have HR27 := Lib.hid r27
  have HPA := Lib.hid hpA
  clear hE7 hc7 hw7 r17 r27 hpA hbA HF6 z0 z1 z2 z3
  have hS0 : (fun w' : World => w'.cell? ⟨w.heap.size, 0, none⟩ = some (.pointer (some ⟨g, 0, none⟩)) ∧ w'.cell? ⟨g, 1, none⟩ = some (.slice va s.length vc) ∧ w'.cell? ⟨g, 2, none⟩ = some (.int .i64 ((clk : Int) + 1)) ∧ w'.cell? ⟨W6.heap.size, 0, none⟩ = some (.int .i64 (x : Int)) ∧ w'.cell? ⟨W6.heap.size, 1, none⟩ = some (.int .i64 sk) ∧ w'.cell? ⟨W6.heap.size, 2, none⟩ = some (.int .i64 sn)) W7.drew := ⟨p17, e1, e2, a0, a1, a2⟩
  refine zRegion 19 (S := fun w' : World => w'.cell? ⟨w.heap.size, 0, none⟩ = some (.pointer (some ⟨g, 0, none⟩)) ∧ w'.cell? ⟨g, 1, none⟩ = some (.slice va s.length vc) ∧ w'.cell? ⟨g, 2, none⟩ = some (.int .i64 ((clk : Int) + 1)) ∧ w'.cell? ⟨W6.heap.size, 0, none⟩ = some (.int .i64 (x : Int)) ∧ w'.cell? ⟨W6.heap.size, 1, none⟩ = some (.int .i64 sk) ∧ w'.cell? ⟨W6.heap.size, 2, none⟩ = some (.int .i64 sn)) (by kernel_rfl) hS0 (fun hHeld => ?_)
  clear hS0
  refine zd 0 (v := ?_) ?_ ?_
  rotate_left
  · rintro w ⟨hS1, hS2, hS3, hS4, hS5, hS6⟩; go_simp; try with_reducible rfl
  simp only [Act.put, pt1, pt2, pt3]
  refine zd 1 (v := ?_) ?_ ?_
  rotate_left
  · rintro w ⟨hS1, hS2, hS3, hS4, hS5, hS6⟩; go_simp; try with_reducible rfl
  simp only [Act.put, pt1, pt2, pt3]
  refine zd 2 (v := ?_) ?_ ?_
  rotate_left
  · rintro w ⟨hS1, hS2, hS3, hS4, hS5, hS6⟩; go_simp; try with_reducible rfl
  simp only [Act.put, pt1, pt2, pt3]
  refine zd 3 (v := ?_) ?_ ?_
  rotate_left
  · rintro w ⟨hS1, hS2, hS3, hS4, hS5, hS6⟩; go_simp; try with_reducible rfl
  simp only [Act.put, pt1, pt2, pt3]
  refine zd 4 (v := ?_) ?_ ?_
  rotate_left
  · rintro w ⟨hS1, hS2, hS3, hS4, hS5, hS6⟩; go_simp; try with_reducible rfl
  simp only [Act.put, pt1, pt2, pt3]
  refine zd 5 (v := ?_) ?_ ?_
  rotate_left
  · rintro w ⟨hS1, hS2, hS3, hS4, hS5, hS6⟩; go_simp; try with_reducible rfl
  simp only [Act.put, pt1, pt2, pt3]
  refine zd 6 (v := ?_) ?_ ?_
  rotate_left
  · rintro w ⟨hS1, hS2, hS3, hS4, hS5, hS6⟩; go_simp; try with_reducible rfl
  simp only [Act.put, pt1, pt2, pt3]
  refine zd 7 (v := ?_) ?_ ?_
  rotate_left
  · rintro w ⟨hS1, hS2, hS3, hS4, hS5, hS6⟩; go_simp; try with_reducible rfl
  simp only [Act.put, pt1, pt2, pt3]
  refine zd 8 (v := ?_) ?_ ?_
  rotate_left
  · rintro w ⟨hS1, hS2, hS3, hS4, hS5, hS6⟩; go_simp; try with_reducible rfl
  simp only [Act.put, pt1, pt2, pt3]
  refine zd 9 (v := ?_) ?_ ?_
  rotate_left
  · rintro w ⟨hS1, hS2, hS3, hS4, hS5, hS6⟩; go_simp; try with_reducible rfl
  simp only [Act.put, pt1, pt2, pt3]
  refine zd 10 (v := ?_) ?_ ?_
  rotate_left
  · rintro w ⟨hS1, hS2, hS3, hS4, hS5, hS6⟩; go_simp; try with_reducible rfl
  simp only [Act.put, pt1, pt2, pt3]
  refine zd 11 (v := ?_) ?_ ?_
  rotate_left
  · rintro w ⟨hS1, hS2, hS3, hS4, hS5, hS6⟩; go_simp; try with_reducible rfl
  simp only [Act.put, pt1, pt2, pt3]
  refine zd 12 (v := ?_) ?_ ?_
  rotate_left
  · rintro w ⟨hS1, hS2, hS3, hS4, hS5, hS6⟩; go_simp; try with_reducible rfl
  simp only [Act.put, pt1, pt2, pt3]
  have C5' := Lib.hid (C5.out W7.drew HC7.out.drew)
  refine zcl 13 (fun K' hK => ?_)
  go_simp
  go_at_call 320
  refine (C5'.out).mono ?_
  rintro en y8 ⟨v2, rfl, hown2, hb8⟩
  obtain ⟨_, ua, uc, rfl, _⟩ := RowAt.of_owns hown2
  have hE8 := (hb8.block _ (block_lt HE7.out)).trans HE7.out
  have hc8 := HC7.out.drew.below hb8 HC7.out.drew.size
  have hw8 := (hb8.block _ (block_lt HW7.out)).trans HW7.out
  have r18 := (hb8.block _ (block_lt HR17.out)).trans HR17.out
  have r28 := (hb8.block _ (block_lt HR27.out)).trans HR27.out
  have p8 := (hb8.block _ lA).trans HPA.out
  have hS8 : (fun w' : World => w'.cell? ⟨w.heap.size, 0, none⟩ = some (.pointer (some ⟨g, 0, none⟩)) ∧ w'.cell? ⟨g, 1, none⟩ = some (.slice va s.length vc) ∧ w'.cell? ⟨g, 2, none⟩ = some (.int .i64 ((clk : Int) + 1)) ∧ w'.cell? ⟨W6.heap.size, 0, none⟩ = some (.int .i64 (x : Int)) ∧ w'.cell? ⟨W6.heap.size, 1, none⟩ = some (.int .i64 sk) ∧ w'.cell? ⟨W6.heap.size, 2, none⟩ = some (.int .i64 sn)) y8 := ⟨cell_of_row _ _ 0 _ _ _ r18, cell_of_row _ _ 1 _ _ _ hE8, cell_of_row _ _ 2 _ _ _ hE8, cell_of_row _ _ 0 _ _ _ p8, cell_of_row _ _ 1 _ _ _ p8, cell_of_row _ _ 2 _ _ _ p8⟩
  have u1 := cell_of_row _ _ 1 _ _ _ hE8
  have uf := frozen_of_row _ _ 1 _ _ hE8
  have HE8 := Lib.hid hE8
  have HC8 := Lib.hid hc8
  have HW8 := Lib.hid hw8
  have HR18 := Lib.hid r18
  have HR28 := Lib.hid r28
  have HO8 := Lib.hid (owns_mono hown2 (show B ≤ _ by have := HC7.out.size; simp; omega))
  clear hE8 hc8 hw8 r18 r28 p8 hown2 hb8 C5' C5
  go_wp2_with fail
  refine hK.out _ _ ?_ (fun hHeld => ?_)
  · exact hS8
  clear hK K'
  try simp only [Act.put, pt1, pt2, pt3]
  refine zd 14 (v := ?_) ?_ ?_
  rotate_left
  · rintro w ⟨hS1, hS2, hS3, hS4, hS5, hS6⟩; go_simp; try with_reducible rfl
  simp only [Act.put, pt1, pt2, pt3]
  refine zd 15 (v := ?_) ?_ ?_
  rotate_left
  · rintro w ⟨hS1, hS2, hS3, hS4, hS5, hS6⟩; go_simp; try with_reducible rfl
  simp only [Act.put, pt1, pt2, pt3]
  refine zp 16 (v := ?_) ?_ ?_
  rotate_left
  · intro w; go_simp; try with_reducible rfl
  simp only [Act.put, pt1, pt2, pt3]
  refine zcl 17 (fun K' hK => ?_)
  go_simp
  refine hK.out _ _ (by assumption) (fun hHeld => ?_)
  clear hK K'
  try simp only [Act.put, pt1, pt2, pt3]
  refine zcl 18 (fun K' hK => ?_)
  go_simp
  refine hK.out _ _ (by assumption) (fun hHeld => ?_)
  clear hK K'
  try simp only [Act.put, pt1, pt2, pt3]
  refine zla (fun K' hK => ?_)
  go_simp
  refine hK.out _ _ ?_
  clear hK K'
  try simp only [Act.put, pt1, pt2, pt3]
  have hE9 : (y8.setCell ⟨g, 1, none⟩ (.slice ua s.length uc)).heap[g]? = some (.cells #[.int .i64 many, .slice ua s.length uc, .int .i64 ((clk : Int) + 1), .slice (some ⟨b, off, none⟩) ks.length c] 126 (0, 0)) := heap_setCell_same _ _ 1 _ _ _ HE8.out
  have hc9 : Chg (fun b => b = g ∨ b = kk) w (y8.setCell ⟨g, 1, none⟩ (.slice ua s.length uc)) := Chg.setCell (F := fun b => b = g ∨ b = kk) HC8.out (p := ⟨g, 1, none⟩) (.inl (.inl rfl)) _
  have ho9 := ownsRow_setCell_other HO8.out (a := ⟨g, 1, none⟩) (owns_type HO8.out HE8.out (by decide)) (.slice ua s.length uc)
  have oth : ∀ j, j ≠ g → (y8.setCell ⟨g, 1, none⟩ (.slice ua s.length uc)).heap[j]? = y8.heap[j]? := fun j hj => heap_setCell_other _ _ _ _ hj
  have hw9 := (oth kk hkg).trans HW8.out
  have r19 := (oth w.heap.size (by omega)).trans HR18.out
  have r29 := (oth W1.heap.size (by omega)).trans HR28.out
  generalize y8.setCell ⟨g, 1, none⟩ (.slice ua s.length uc) = W9 at *
  have v1 := cell_of_row _ _ 0 _ _ _ r19
  have v2 := cell_of_row _ _ 0 _ _ _ r29
  have v3 := cell_of_row _ _ 2 _ _ _ hE9
  have v4 := cell_of_row _ _ 1 _ _ _ hw9
  have v5 := cell_of_row _ _ 3 _ _ _ hw9
  have vf := fun j => frozen_of_row _ _ j _ _ hw9
  have HF9 := Lib.hid (And.intro hE9 (And.intro hc9 (And.intro ho9 (And.intro hw9 r29))))
  clear hE9 hc9 ho9 oth hw9 r19 r29 hS8 hHeld u1 uf p17 e1 e2
  go_wp2_with fail
  rw [rounds_succ]
  go_wp2_with fail
  have hS0 : (fun w' : World => w'.cell? ⟨w.heap.size, 0, none⟩ = some (.pointer (some ⟨g, 0, none⟩)) ∧ w'.cell? ⟨W1.heap.size, 0, none⟩ = some (.pointer (some ⟨kk, 0, none⟩)) ∧ w'.cell? ⟨g, 2, none⟩ = some (.int .i64 ((clk : Int) + 1))) W9.drew := ⟨v1, v2, v3⟩
  refine zRegion 11 (S := fun w' : World => w'.cell? ⟨w.heap.size, 0, none⟩ = some (.pointer (some ⟨g, 0, none⟩)) ∧ w'.cell? ⟨W1.heap.size, 0, none⟩ = some (.pointer (some ⟨kk, 0, none⟩)) ∧ w'.cell? ⟨g, 2, none⟩ = some (.int .i64 ((clk : Int) + 1))) (by kernel_rfl) hS0 (fun hHeld => ?_)
  clear hS0
  refine zd 0 (v := ?_) ?_ ?_
  rotate_left
  · rintro w ⟨hS1, hS2, hS3⟩; go_simp; try with_reducible rfl
  simp only [Act.put, pt1, pt2, pt3]
  refine zd 1 (v := ?_) ?_ ?_
  rotate_left
  · rintro w ⟨hS1, hS2, hS3⟩; go_simp; try with_reducible rfl
  simp only [Act.put, pt1, pt2, pt3]
  refine zd 2 (v := ?_) ?_ ?_
  rotate_left
  · rintro w ⟨hS1, hS2, hS3⟩; go_simp; try with_reducible rfl
  simp only [Act.put, pt1, pt2, pt3]
  refine zd 3 (v := ?_) ?_ ?_
  rotate_left
  · rintro w ⟨hS1, hS2, hS3⟩; go_simp; try with_reducible rfl
  simp only [Act.put, pt1, pt2, pt3]
  refine zd 4 (v := ?_) ?_ ?_
  rotate_left
  · rintro w ⟨hS1, hS2, hS3⟩; go_simp; try with_reducible rfl
  simp only [Act.put, pt1, pt2, pt3]
  refine zd 5 (v := ?_) ?_ ?_
  rotate_left
  · rintro w ⟨hS1, hS2, hS3⟩; go_simp; try with_reducible rfl
  simp only [Act.put, pt1, pt2, pt3]
  refine zd 6 (v := ?_) ?_ ?_
  rotate_left
  · rintro w ⟨hS1, hS2, hS3⟩; go_simp; try with_reducible rfl
  simp only [Act.put, pt1, pt2, pt3]
  refine zd 7 (v := ?_) ?_ ?_
  rotate_left
  · rintro w ⟨hS1, hS2, hS3⟩; go_simp; try with_reducible rfl
  simp only [Act.put, pt1, pt2, pt3]
  refine zcl 8 (fun K' hK => ?_)
  go_simp
  have hwA : WorkAt (W9.setCell ⟨kk, 1, none⟩ (.int .i64 ((clk : Int) + 1))).drew kk (.slice ta tnn tc) ((clk : Int) + 1) true false := heap_setCell_same _ _ 1 _ _ _ HF9.out.2.2.2.1
  have othA : ∀ j, j ≠ kk → (W9.setCell ⟨kk, 1, none⟩ (.int .i64 ((clk : Int) + 1))).drew.heap[j]? = W9.heap[j]? := fun j hj => heap_setCell_other _ _ _ _ hj
  have hcA : Chg (fun b => b = g ∨ b = kk) w (W9.setCell ⟨kk, 1, none⟩ (.int .i64 ((clk : Int) + 1))).drew := (Chg.setCell (F := fun b => b = g ∨ b = kk) HF9.out.2.1 (p := ⟨kk, 1, none⟩) (.inl (.inr rfl)) _).drew
  have hEA := (othA g (fun e => hkg e.symm)).trans HF9.out.1
  have hoA : (W9.setCell ⟨kk, 1, none⟩ (.int .i64 ((clk : Int) + 1))).drew.ownsRow B 197 5 (.slice ua s.length uc) s.length (storeC (s.set x ⟨sk, sn, (clk : Int) + 1, -1, 0⟩)) := ownsRow_setCell_other HF9.out.2.2.1 (a := ⟨kk, 1, none⟩) (owns_type HF9.out.2.2.1 HF9.out.2.2.2.1 (by decide)) _
  have hSA : (fun w' : World => w'.cell? ⟨w.heap.size, 0, none⟩ = some (.pointer (some ⟨g, 0, none⟩)) ∧ w'.cell? ⟨W1.heap.size, 0, none⟩ = some (.pointer (some ⟨kk, 0, none⟩)) ∧ w'.cell? ⟨g, 2, none⟩ = some (.int .i64 ((clk : Int) + 1))) (W9.setCell ⟨kk, 1, none⟩ (.int .i64 ((clk : Int) + 1))).drew := ⟨(World.cell?_of_block (a := ⟨w.heap.size, 0, none⟩) (othA _ (show w.heap.size ≠ kk by omega))).trans v1, (World.cell?_of_block (a := ⟨W1.heap.size, 0, none⟩) (othA _ (show W1.heap.size ≠ kk by omega))).trans v2, (World.cell?_of_block (a := ⟨g, 2, none⟩) (othA _ (show g ≠ kk from fun e => hkg e.symm))).trans v3⟩
  generalize (W9.setCell ⟨kk, 1, none⟩ (.int .i64 ((clk : Int) + 1))).drew = WA at *
  have kA := cell_of_row _ _ 3 _ _ _ hwA
  have fA := fun j => frozen_of_row _ _ j _ _ hwA
  have HFA := Lib.hid (And.intro hwA (And.intro hcA (And.intro hEA hoA)))
  clear hwA othA hcA hEA hoA
  refine hK.out _ _ ?_ (fun hHeld => ?_)
  · exact hSA
  clear hK K'
  try simp only [Act.put, pt1, pt2, pt3]
  refine zcl 9 (fun K' hK => ?_)
  go_simp
  refine hK.out _ _ (by assumption) (fun hHeld => ?_)
  clear hK K'
  try simp only [Act.put, pt1, pt2, pt3]
  refine zd 10 (v := ?_) ?_ ?_
  rotate_left
  · rintro w ⟨hS1, hS2, hS3⟩; go_simp; try with_reducible rfl
  simp only [Act.put, pt1, pt2, pt3]
  refine zla (fun K' hK => ?_)
  go_simp
  refine hK.out _ _ ?_
  clear hK K'
  try simp only [Act.put, pt1, pt2, pt3]
  have hwB : WorkAt (WA.setCell ⟨kk, 3, none⟩ (.bool true)) kk (.slice ta tnn tc) ((clk : Int) + 1) true true := heap_setCell_same _ _ 3 _ _ _ HFA.out.1
  have hcB : Chg (fun b => b = g ∨ b = kk) w (WA.setCell ⟨kk, 3, none⟩ (.bool true)) := Chg.setCell (F := fun b => b = g ∨ b = kk) HFA.out.2.1 (p := ⟨kk, 3, none⟩) (.inl (.inr rfl)) _
  have hEB : (WA.setCell ⟨kk, 3, none⟩ (.bool true)).heap[g]? = _ := (heap_setCell_other _ _ _ _ (fun e => hkg e.symm)).trans HFA.out.2.2.1
  have hoB := ownsRow_setCell_other HFA.out.2.2.2 (a := ⟨kk, 3, none⟩) (owns_type HFA.out.2.2.2 HFA.out.1 (by decide)) (.bool true)
  have HF := Lib.hid (HFIN.out _ _ hEB hoB ⟨_, hwB⟩ hcB)
  clear hwB hcB hEB hoB hHeld hSA
  go_wp2_with fail
  go_ret
  exact ⟨rfl, HF.out.1, HF.out.2⟩
end Go.Proofs.YteflpdhgojcmcaaGreatDoor
