/- The walk of block.Step, where an operation gives up, or ends. The walk of core.does, of an operation that writes. The walks of core.does, of an operation that jumps by a number. The walks of core.does, of an operation that gives up, or ends. No conditions but those that each theorem names. -/
import Derived.Test.YteflpdhgojcmcaaGreatDoorU01
import Derived.Test.YteflpdhgojcmcaaGreatDoorU17
import Derived.Test.YteflpdhgojcmcaaGreatDoorU16
import Derived.StillTailTactics
namespace Go.Proofs.YteflpdhgojcmcaaGreatDoor
open Go.RowKit
set_option maxRecDepth 100000 in
theorem step_panic (b off c : Nat) (ops : List OpM) (L : List Value) (vars fuel : Int) (p : Nat) (us : Int) (op : OpM) (w : World) (hl : rightL ops = true) (hn : 1 ≤ ops.length) (hn2 : ops.length ≤ 200) (hat : OpsAt w b off ops)
    (hL : L.length = 19) (h1 : L.toArray.all (·.oneCell') = true) (hpc : L[0]? = some (.int .i64 p)) (hst : L[18]? = some (.slice none 0 0)) (hpn : p < ops.length) (hop : ops.getD p OpM.zero = op) (hus : L[1]? = some (.int .i64 us)) (hu0 : 0 ≤ us) (hu1 : us < fuel) (hu2 : us ≤ 1000000) (k : Int) (hdoes : ∀ W q u, q ≠ u → CoreAt W q u op vars → W.heap[u]? = some (.cells (used1 L us).toArray 94 (0, 0)) → Calls Tryz.prog 156 #[.pointer (some ⟨q, 0, none⟩)] W fun e w' => e = .panicked [{ v := .iface 274 (.int .i64 k), recovered := false }] ∧ Chg (· = u) W w') :
    Calls Tryz.prog 113 #[.slice (some ⟨b, off, none⟩) ops.length c, .agg L.toArray, .int .i64 vars, .int .i64 fuel] w fun e w' =>
      e = .returned (.tuple #[.agg (used1 L us).toArray, .agg (askC 5 0 0 0 0 0 k)]) ∧ Below w.heap.size w w' := by
  have HR := Lib.hid (fun W (hb : Below w.heap.size w W) => Right_any (some ⟨b, off, none⟩) c ops W (by omega) (fun _ => ⟨b, off, rfl, hat.below hb⟩))
  rw [hl] at HR
  have HAT := Lib.hid hat
  have HST := Lib.hid hst
  have HD := Lib.hid hdoes
  clear hat hl hdoes
  generalize hnn : ops.length = n at *
  have HNN := Lib.hid hnn
  clear hnn
  go_enter_defers Tryz.func113, Tryz.ntmps113
  go_upto_region 1 with (fail)
  change Code.wp _ _ _ _ (stepped w L)
  have hb := stepped_is w L
  generalize stepped w L = W at *
  have s18 : W.cell? ⟨w.heap.size, 18, none⟩ = some (.slice none 0 0) := (cell_of_row _ _ _ _ _ _ hb.cpu).trans (by simpa using hst)
  have sf : ∀ j, W.frozen? ⟨w.heap.size, j, none⟩ = false := fun j => frozen_of_row _ _ j _ _ hb.cpu
  have hb1 := stepped_again hb hst
  have HB1 := Lib.hid hb1
  clear hb hb1 hst
  go_wp2_with (go_at_call 153; refine (clone153_nil _).mono ?_; rintro e w' ⟨rfl, rfl⟩)
  refine (HR.out _ HB1.out.below).mono ?_
  rintro e w2 ⟨rfl, hb2⟩
  have hb2 := HB1.out.to hb2
  have t0 : w2.cell? ⟨w.heap.size, 0, none⟩ = some (.int .i64 p) := (cell_of_row _ _ _ _ _ _ hb2.cpu).trans (by simpa using hpc)
  have HB2 := Lib.hid hb2
  have HPC := Lib.hid hpc
  clear hb2 s18 sf hpc HR HB1
  have t1 : w2.cell? ⟨w.heap.size, 1, none⟩ = some (.int .i64 us) := (cell_of_row _ _ _ _ _ _ HB2.out.cpu).trans (by simpa using hus)
  have tf : ∀ j, w2.frozen? ⟨w.heap.size, j, none⟩ = false := fun j => frozen_of_row _ _ j _ _ HB2.out.cpu
  have hne : ((p : Int) == (n : Int)) = false := by simp; have := HNN.out; omega
  have hpn2 : p < n := by have := HNN.out; omega
  have hmf : ∀ (fn : Fn) (first cap : Array Value) (w : World), (Instr.makeFunc fn first cap).run Tryz.prog w = .ok (.func fn first cap) w := fun _ _ _ _ => rfl
  have HOP := Lib.hid hop
  have HUS := Lib.hid hus
  have HPN := Lib.hid hpn
  clear hop hus hpn
  go_upto_region 9 with (fail)
  change Code.wp _ _ _ _ (w2.setCell ⟨w.heap.size, 1, none⟩ (.int .i64 (us + 1)))
  have hb3 := stepped_used HB2.out us
  have HL1 := Lib.hid (used1_length L us)
  have HO1 := Lib.hid (used1_one h1 us)
  generalize w2.setCell ⟨w.heap.size, 1, none⟩ (.int .i64 (us + 1)) = w3 at *
  generalize hLL : used1 L us = L1 at *
  have HLL := Lib.hid hLL
  have HB3 := Lib.hid hb3
  have t30 : w3.cell? ⟨w.heap.size, 0, none⟩ = some (.int .i64 p) := by
    refine (cell_of_row _ _ _ _ _ _ hb3.cpu).trans ?_
    have := HPC.out
    rw [← hLL]
    simpa [used1] using this
  clear hLL hb3 t0 t1 tf HB2 HPC
  go_upto_region 10 with (fail)
  have hz := Go.heap_alloc_new w3 (.cells zeroCpu 94)
  have HZ := Lib.hid hz
  clear hz
  go_upto_region 11 with (first
    | (refine wpList_load_row rfl 94 _ rfl w.heap.size rfl 94 L1.toArray (0, 0) _ HB3.out.cpu Tryz.underlying94 rfl (info94 (HL1.out.trans hL)) ?_)
    | (refine wpList_store_row rfl 94 _ _ rfl w3.heap.size L1.toArray rfl rfl 94 zeroCpu HZ.out (info94 (HL1.out.trans hL)) (by simp [HL1.out, hL, zeroCpu]) HO1.out ?_))
  change Code.wp _ _ _ _ ((w3.alloc (.cells zeroCpu 94)).setRow w3.heap.size L1.toArray)
  have hb3 := HB3.out
  have q1 : w.heap.size + 2 < w3.heap.size := block_lt hb3.ask
  have hk : ∀ j, j < w3.heap.size → ((w3.alloc (.cells zeroCpu 94)).setRow w3.heap.size L1.toArray).heap[j]? = w3.heap[j]? := fun j hj =>
    (setRow_other _ _ _ _ (by omega)).trans (heap_alloc_old _ _ hj)
  have hb4 : Stepped w ((w3.alloc (.cells zeroCpu 94)).setRow w3.heap.size L1.toArray) L1 (askC 0 0 0 0 0 0 0) :=
    ⟨(hk _ (by omega)).trans hb3.cpu, (hk _ (by omega)).trans hb3.out, (hk _ (by omega)).trans hb3.ask, below_setRow' (hb3.below.alloc hb3.below.size _) hb3.below.size _⟩
  have hu4 : ((w3.alloc (.cells zeroCpu 94)).setRow w3.heap.size L1.toArray).heap[w3.heap.size]? = some (.cells L1.toArray 94 (0, 0)) := setRow_heap _ _ _ _ _ _ (Go.heap_alloc_new w3 (.cells zeroCpu 94))
  have t40 : ((w3.alloc (.cells zeroCpu 94)).setRow w3.heap.size L1.toArray).cell? ⟨w.heap.size, 0, none⟩ = some (.int .i64 p) := (World.cell?_of_block (a := ⟨w.heap.size, 0, none⟩) (hk _ (by show w.heap.size < _; omega))).trans t30
  have hs4 : ((w3.alloc (.cells zeroCpu 94)).setRow w3.heap.size L1.toArray).heap.size = w3.heap.size + 1 := by simp [World.setRow]
  generalize (w3.alloc (.cells zeroCpu 94)).setRow w3.heap.size L1.toArray = w4 at *
  generalize w3.heap.size = g at *
  have hop4 : w4.rangeAt b (off + p * 5) op.cells := by
    have := (HAT.out.below hb4.below).2 p (by have := HNN.out; omega)
    rw [HOP.out] at this
    exact this
  have HB4 := Lib.hid hb4
  have HU4 := Lib.hid hu4
  have HOP4 := Lib.hid hop4
  have HS4 := Lib.hid hs4
  clear hk hb3 hb4 hu4 t30 HB3 HZ hop4 hs4
  obtain ⟨x0, x1, x2, x3, x4⟩ := op
  have i1 : (0 : Int) ≤ (p : Int) := by omega
  have i2 : (p : Int) < (n : Int) := by omega
  go_wp2_with (refine wpList_load_mid rfl 50 _ rfl b (off + p * 5) rfl [.int .i64 x0, .int .i64 x1, .int .i64 x2, .int .i64 x3, .int .i64 x4] _ HOP4.out Tryz.underlying50 rfl (by kernel_rfl) ?_)
  change Calls Tryz.prog 156 _ (w4.alloc (.cells (coreC g ⟨x0, x1, x2, x3, x4⟩ vars) 278)) _
  have hg4 : g < w4.heap.size := by have := HS4.out; omega
  have hb5 := HB4.out.to ((Below.refl w4.heap.size w4).alloc (Nat.le_refl _) (.cells (coreC g ⟨x0, x1, x2, x3, x4⟩ vars) 278))
  have hu5 := (heap_alloc_old w4 (.cells (coreC g ⟨x0, x1, x2, x3, x4⟩ vars) 278) hg4).trans HU4.out
  refine (HD.out (w4.alloc (.cells (coreC g ⟨x0, x1, x2, x3, x4⟩ vars) 278)) w4.heap.size g (by omega) (boxed_core _ _ _ _) (by exact hu5)).mono ?_
  rintro e w6 ⟨rfl, hc6⟩
  have hb6 := hb5.chg hc6 (by omega)
  clear hc6 hb5 hu5
  refine leaves_cons (f := 155) (args := #[.pointer (some ⟨w.heap.size, 0, none⟩), .pointer (some ⟨w.heap.size + 1, 0, none⟩), .pointer (some ⟨w.heap.size + 1 + 1, 0, none⟩)]) (by simp) (by simp [go_sem]) ?_
  refine (step1_panic w.heap.size (w.heap.size + 1) (w.heap.size + 2) L1.toArray zeroCpu k _ _ _ _ _ _ _ [] w6 hb6.cpu HO1.out (by simpa [HL1.out] using hL) hb6.out rfl hb6.ask (by omega) (by omega) (by omega)).mono ?_
  rintro e u' w8 ⟨rfl, rfl, h8, h9, hc8⟩
  have hbz : Below w.heap.size w w8 := ⟨hc8.os.trans hb6.below.os, hc8.tape.trans hb6.below.tape, hc8.output.trans hb6.below.output, Nat.le_trans hb6.below.size hc8.size, fun i hi => (hc8.block i (by have := hb6.below.size; omega) (by omega)).trans (hb6.below.block i hi)⟩
  exact ⟨_, results_cell_cell rfl _ _ (w.heap.size + 1) (w.heap.size + 2) 94 217 L1.toArray (askC 5 0 0 0 0 0 k) (0, 0) (0, 0) _ _ rfl h8 Tryz.underlying94 rfl (info94 (HL1.out.trans hL)) rfl h9 Tryz.underlying217 rfl (by kernel_rfl), by rw [HLL.out], hbz⟩
end Go.Proofs.YteflpdhgojcmcaaGreatDoor
namespace Go.Proofs.YteflpdhgojcmcaaGreatDoor
open Go.RowKit
set_option maxRecDepth 100000 in
theorem does_write (q u : Nat) (A B : Nat) (x3 n m vk vn : Int) (vars pc : Int) (cs : Array Value) (w : World) (hc : CoreAt w q u ⟨9, A, B, x3, n⟩ vars)
    (hu : w.heap[u]? = some (.cells cs 94 (0, 0))) (hpc : cs[0]? = some (.int .i64 pc)) (hp0 : 0 ≤ pc) (hp1 : pc ≤ 1000) (hqu : q ≠ u) (hA : A < 8) (hB : B < 8) (hk : cs[2 + A * 2]? = some (.int .i64 2)) (hm : cs[2 + A * 2 + 1]? = some (.int .i64 m)) (hm0 : 0 ≤ m) (hmv : m < vars) (hv1 : cs[2 + B * 2]? = some (.int .i64 vk)) (hv2 : cs[2 + B * 2 + 1]? = some (.int .i64 vn)) :
    Calls Tryz.prog 156 #[.pointer (some ⟨q, 0, none⟩)] w fun e w' => e = .returned (.agg (askC 2 m 0 0 vk vn 0)) ∧ w'.heap[u]? = some (.cells (cs.setIfInBounds 0 (.int .i64 (pc + 1))) 94 (0, 0)) ∧ Chg (· = u) w w' := by
  obtain ⟨c0, c1, c2, c3, c4, c5, c6, l0⟩ := hc.cells
  have d0 : w.cell? ⟨u, 0, none⟩ = some (.int .i64 pc) := (cell_of_row _ _ _ _ _ _ hu).trans hpc
  have f0 : ∀ j, w.frozen? ⟨u, j, none⟩ = false := fun j => frozen_of_row _ _ j _ _ hu
  have l1 : u < w.heap.size := block_lt hu
  have HC := Lib.hid hc
  have HU := Lib.hid hu
  clear hc hu hpc
  go_enter Tryz.func156, Tryz.ntmps156
  go_upto_region 3 with (fail)
  change Code.wp _ _ _ _ (begun w u ⟨9, A, B, x3, n⟩ pc)
  have hb := begun_is (pc := pc) HC.out HU.out hqu
  generalize begun w u ⟨9, A, B, x3, n⟩ pc = W at *
  have HB := Lib.hid hb
  clear hb
  go_wp2_with fail
  refine (worth_other q u _ _ _ _ _ _ W HB.out.core (by omega)).mono ?_
  rintro e w2 ⟨rfl, hb2⟩
  have hc2 := HB.out.core.keep (hb2.block q (block_lt HB.out.core))
  have hu2 := (hb2.block u (block_lt HB.out.cpu)).trans HB.out.cpu
  have ho2 := (hb2.block _ (block_lt HB.out.op)).trans HB.out.op
  have ha2 := (hb2.block _ (block_lt HB.out.ask)).trans HB.out.ask
  have hg2 := HB.out.chg.below hb2 HB.out.chg.size
  have o0 := cell_of_row _ _ 0 _ _ _ ho2
  have o1 := cell_of_row _ _ 1 _ _ _ ho2
  have o2 := cell_of_row _ _ 2 _ _ _ ho2
  have o3 := cell_of_row _ _ 3 _ _ _ ho2
  have o4 := cell_of_row _ _ 4 _ _ _ ho2
  dsimp only [OpM.cells] at o0 o1 o2 o3 o4
  simp at o0 o1 o2 o3 o4
  have l2 : w.heap.size + 1 < w2.heap.size := block_lt ho2
  have l3 : q < w2.heap.size := block_lt hc2
  have l4 : u < w2.heap.size := block_lt hu2
  have l5 : w.heap.size < w2.heap.size := block_lt ha2
  have HC2 := Lib.hid hc2
  have HU2 := Lib.hid hu2
  have HO2 := Lib.hid ho2
  have HA2 := Lib.hid ha2
  clear hc2 hu2 ho2 ha2 hb2
  clear HB c0 c1 c2 c3 c4 c5 c6 d0 f0
  have HG2 := Lib.hid hg2
  clear hg2
  go_upto_region 18 with (fail)
  refine name_world ?_
  intro W3 hW3
  have hb3 : Below w2.heap.size w2 W3 := by rw [hW3]; exact (Below.refl _ _).alloc (Nat.le_refl _) _
  have hc3 := HC2.out.keep (hb3.block q l3)
  have hu3 := (hb3.block u l4).trans HU2.out
  have ha3 := (hb3.block _ l5).trans HA2.out
  have hg3 := HG2.out.below hb3 HG2.out.size
  replace o0 := (hb3.cell (p := ⟨w.heap.size + 1, 0, none⟩) l2).trans o0
  replace o1 := (hb3.cell (p := ⟨w.heap.size + 1, 1, none⟩) l2).trans o1
  replace o2 := (hb3.cell (p := ⟨w.heap.size + 1, 2, none⟩) l2).trans o2
  replace o3 := (hb3.cell (p := ⟨w.heap.size + 1, 3, none⟩) l2).trans o3
  replace o4 := (hb3.cell (p := ⟨w.heap.size + 1, 4, none⟩) l2).trans o4
  replace l2 := Nat.lt_of_lt_of_le l2 hb3.size
  replace l3 := Nat.lt_of_lt_of_le l3 hb3.size
  replace l4 := Nat.lt_of_lt_of_le l4 hb3.size
  replace l5 := Nat.lt_of_lt_of_le l5 hb3.size
  have HC3 := Lib.hid hc3
  have HU3 := Lib.hid hu3
  have HA3 := Lib.hid ha3
  have HG3 := Lib.hid hg3
  have n1 : ¬ w.heap.size = u := by omega
  clear hW3 hb3 hc3 hu3 ha3 hg3 HC2 HU2 HO2 HA2 HG2
  have r0 : W3.cell? ⟨u, 2 + A * 2, none⟩ = some (.int .i64 2) := by
    rw [cell_of_row _ _ _ _ _ _ HU3.out]
    rw [Array.getElem?_setIfInBounds_ne (by omega)]
    exact hk
  have r1 : W3.cell? ⟨u, 2 + A * 2 + 1, none⟩ = some (.int .i64 m) := by
    rw [cell_of_row _ _ _ _ _ _ HU3.out]
    rw [Array.getElem?_setIfInBounds_ne (by omega)]
    exact hm
  have r2 : W3.cell? ⟨u, 2 + B * 2, none⟩ = some (.int .i64 vk) := by
    rw [cell_of_row _ _ _ _ _ _ HU3.out]
    rw [Array.getElem?_setIfInBounds_ne (by omega)]
    exact hv1
  have r3 : W3.cell? ⟨u, 2 + B * 2 + 1, none⟩ = some (.int .i64 vn) := by
    rw [cell_of_row _ _ _ _ _ _ HU3.out]
    rw [Array.getElem?_setIfInBounds_ne (by omega)]
    exact hv2
  have e0 := HC3.out.cells.1
  have e6 := HC3.out.cells.2.2.2.2.2.2.1
  have E0 := Lib.hid e0
  have E6 := Lib.hid e6
  have R0 := Lib.hid r0
  have R1 := Lib.hid r1
  have g1 : (0 : Int) ≤ (B : Int) := by omega
  have g2 : (B : Int) < 8 := by omega
  have g3 : (0 : Int) ≤ (A : Int) := by omega
  have g4 : (A : Int) < 8 := by omega
  have n2 : ¬ q = w.heap.size := by omega
  have n3 : ¬ u = w.heap.size := by omega
  have n4 : ¬ w.heap.size = q := by omega
  clear hk hm hv1 hv2 r0 r1 e6
  go_region_held3 (fun w' => w'.cell? ⟨w.heap.size + 1, 1, none⟩ = some (.int .i64 A) ∧ w'.cell? ⟨w.heap.size + 1, 2, none⟩ = some (.int .i64 B) ∧ w'.cell? ⟨q, 0, none⟩ = some (.pointer (some ⟨u, 0, none⟩)) ∧ w'.cell? ⟨u, 2 + B * 2, none⟩ = some (.int .i64 vk) ∧ w'.cell? ⟨u, 2 + B * 2 + 1, none⟩ = some (.int .i64 vn))
    (first | go_keep | (exact ⟨(hb5.cell (p := ⟨w.heap.size + 1, 1, none⟩) l2).trans o1, (hb5.cell (p := ⟨w.heap.size + 1, 2, none⟩) l2).trans o2, (hb5.cell (p := ⟨q, 0, none⟩) l3).trans e0, (hb5.cell (p := ⟨u, 2 + B * 2, none⟩) l4).trans r2, (hb5.cell (p := ⟨u, 2 + B * 2 + 1, none⟩) l4).trans r3⟩))
    ((go_at_call 190; refine (variable_yes q u A hA m vars _ (by exact E0.out) (by exact E6.out) (by exact R0.out) (by exact R1.out) hm0 hmv).mono ?_; rintro e w5 ⟨rfl, hb5⟩; obtain ⟨p0, p1, p2, p3, p4, p5, p6, pf⟩ := ask_cells ((hb5.block _ l5).trans HA3.out)))
  have HA5 := (hb5.block _ l5).trans HA3.out
  have HU5 := (hb5.block _ l4).trans HU3.out
  have HG5 := (HG3.out.drew).below hb5 HG3.out.size
  have H5 := Lib.hid (And.intro HA5 (And.intro HU5 HG5))
  clear HA5 HU5 HG5 hb5 p0 p1 p2 p3 p4 p5 p6 pf
  go_wp2
  refine bodyPost_ret (results_cell_row rfl _ _ w.heap.size 217 (askC 2 m 0 0 vk vn 0) (0, 0) _ rfl (setAsk_same H5.out.1 2 m 0 0 vk vn 0) Tryz.underlying217 rfl (by kernel_rfl)) rfl ⟨rfl, ?_, ?_⟩
  · exact (setAsk_other _ _ _ _ _ _ _ _ _ _ (fun e => n1 e.symm)).trans H5.out.2.1
  · exact setAsk_chg H5.out.2.2 (.inr (Nat.le_refl _)) _ _ _ _ _ _ _
end Go.Proofs.YteflpdhgojcmcaaGreatDoor
namespace Go.Proofs.YteflpdhgojcmcaaGreatDoor
open Go.RowKit
set_option maxRecDepth 100000 in
theorem does_if0 (q u : Nat) (A : Nat) (x2 x3 n : Int) (vars pc : Int) (cs : Array Value) (w : World) (hc : CoreAt w q u ⟨11, A, x2, x3, n⟩ vars)
    (hu : w.heap[u]? = some (.cells cs 94 (0, 0))) (hpc : cs[0]? = some (.int .i64 pc)) (hp0 : 0 ≤ pc) (hp1 : pc ≤ 1000) (hqu : q ≠ u) (hA : A < 8) (hk : cs[2 + A * 2]? = some (.int .i64 1)) (hm : cs[2 + A * 2 + 1]? = some (.int .i64 0)) :
    Calls Tryz.prog 156 #[.pointer (some ⟨q, 0, none⟩)] w fun e w' => e = .returned (.agg (askC 0 0 0 0 0 0 0)) ∧ w'.heap[u]? = some (.cells (cs.setIfInBounds 0 (.int .i64 (pc + 1))) 94 (0, 0)) ∧ Chg (· = u) w w' := by
  obtain ⟨c0, c1, c2, c3, c4, c5, c6, l0⟩ := hc.cells
  have d0 : w.cell? ⟨u, 0, none⟩ = some (.int .i64 pc) := (cell_of_row _ _ _ _ _ _ hu).trans hpc
  have f0 : ∀ j, w.frozen? ⟨u, j, none⟩ = false := fun j => frozen_of_row _ _ j _ _ hu
  have l1 : u < w.heap.size := block_lt hu
  have HC := Lib.hid hc
  have HU := Lib.hid hu
  clear hc hu hpc
  go_enter Tryz.func156, Tryz.ntmps156
  go_upto_region 3 with (fail)
  change Code.wp _ _ _ _ (begun w u ⟨11, A, x2, x3, n⟩ pc)
  have hb := begun_is (pc := pc) HC.out HU.out hqu
  generalize begun w u ⟨11, A, x2, x3, n⟩ pc = W at *
  have HB := Lib.hid hb
  clear hb
  go_wp2_with fail
  refine (worth_other q u _ _ _ _ _ _ W HB.out.core (by omega)).mono ?_
  rintro e w2 ⟨rfl, hb2⟩
  have hc2 := HB.out.core.keep (hb2.block q (block_lt HB.out.core))
  have hu2 := (hb2.block u (block_lt HB.out.cpu)).trans HB.out.cpu
  have ho2 := (hb2.block _ (block_lt HB.out.op)).trans HB.out.op
  have ha2 := (hb2.block _ (block_lt HB.out.ask)).trans HB.out.ask
  have hg2 := HB.out.chg.below hb2 HB.out.chg.size
  have o0 := cell_of_row _ _ 0 _ _ _ ho2
  have o1 := cell_of_row _ _ 1 _ _ _ ho2
  have o2 := cell_of_row _ _ 2 _ _ _ ho2
  have o3 := cell_of_row _ _ 3 _ _ _ ho2
  have o4 := cell_of_row _ _ 4 _ _ _ ho2
  dsimp only [OpM.cells] at o0 o1 o2 o3 o4
  simp at o0 o1 o2 o3 o4
  have l2 : w.heap.size + 1 < w2.heap.size := block_lt ho2
  have l3 : q < w2.heap.size := block_lt hc2
  have l4 : u < w2.heap.size := block_lt hu2
  have l5 : w.heap.size < w2.heap.size := block_lt ha2
  have HC2 := Lib.hid hc2
  have HU2 := Lib.hid hu2
  have HO2 := Lib.hid ho2
  have HA2 := Lib.hid ha2
  clear hc2 hu2 ho2 ha2 hb2
  clear HB c0 c1 c2 c3 c4 c5 c6 d0 f0
  have HG2 := Lib.hid hg2
  clear hg2
  go_upto_region 19 with (fail)
  refine name_world ?_
  intro W3 hW3
  have hb3 : Below w2.heap.size w2 W3 := by rw [hW3]; exact (Below.refl _ _).alloc (Nat.le_refl _) _
  have hc3 := HC2.out.keep (hb3.block q l3)
  have hu3 := (hb3.block u l4).trans HU2.out
  have ha3 := (hb3.block _ l5).trans HA2.out
  have hg3 := HG2.out.below hb3 HG2.out.size
  replace o0 := (hb3.cell (p := ⟨w.heap.size + 1, 0, none⟩) l2).trans o0
  replace o1 := (hb3.cell (p := ⟨w.heap.size + 1, 1, none⟩) l2).trans o1
  replace o2 := (hb3.cell (p := ⟨w.heap.size + 1, 2, none⟩) l2).trans o2
  replace o3 := (hb3.cell (p := ⟨w.heap.size + 1, 3, none⟩) l2).trans o3
  replace o4 := (hb3.cell (p := ⟨w.heap.size + 1, 4, none⟩) l2).trans o4
  replace l2 := Nat.lt_of_lt_of_le l2 hb3.size
  replace l3 := Nat.lt_of_lt_of_le l3 hb3.size
  replace l4 := Nat.lt_of_lt_of_le l4 hb3.size
  replace l5 := Nat.lt_of_lt_of_le l5 hb3.size
  have HC3 := Lib.hid hc3
  have HU3 := Lib.hid hu3
  have HA3 := Lib.hid ha3
  have HG3 := Lib.hid hg3
  have n1 : ¬ w.heap.size = u := by omega
  clear hW3 hb3 hc3 hu3 ha3 hg3 HC2 HU2 HO2 HA2 HG2
  have r0 : W3.cell? ⟨u, 2 + A * 2, none⟩ = some (.int .i64 1) := by
    rw [cell_of_row _ _ _ _ _ _ HU3.out]
    rw [Array.getElem?_setIfInBounds_ne (by omega)]
    exact hk
  have r1 : W3.cell? ⟨u, 2 + A * 2 + 1, none⟩ = some (.int .i64 0) := by
    rw [cell_of_row _ _ _ _ _ _ HU3.out]
    rw [Array.getElem?_setIfInBounds_ne (by omega)]
    exact hm
  have e0 := HC3.out.cells.1
  have E0 := Lib.hid e0
  have R0 := Lib.hid r0
  have R1 := Lib.hid r1
  have hfd : ∀ (x y : Int) (W : World), (Instr.field 53 (.agg #[.int .i64 x, .int .i64 y]) 1).run Tryz.prog W = .ok (.int .i64 y) W := fun _ _ _ => by kernel_rfl
  clear hk hm e0 r0 r1
  go_wp2_with fail
  refine (number_yes q u A hA _ _ (by exact E0.out) (by exact R0.out) (by exact R1.out)).mono ?_
  rintro e w5 ⟨rfl, hb5⟩
  have ha5 := (hb5.block _ l5).trans HA3.out
  obtain ⟨p0, p1, p2, p3, p4, p5, p6, pf⟩ := ask_cells ha5
  have hu5 := (hb5.block _ l4).trans HU3.out
  have hc5 := HC3.out.keep (hb5.block _ l3)
  have HG5 := Lib.hid (HG3.out.below hb5 HG3.out.size)
  have HA5 := Lib.hid ha5
  have HU5 := Lib.hid hu5
  have HC5 := Lib.hid hc5
  clear ha5 hu5 hc5 hb5
  go_wp2_with fail
  refine bodyPost_ret (results_cell_row rfl _ _ w.heap.size 217 (askC 0 0 0 0 0 0 0) (0, 0) _ rfl (setAsk_same HA5.out 0 0 0 0 0 0 0) Tryz.underlying217 rfl (by kernel_rfl)) rfl ⟨rfl, ?_, ?_⟩
  · exact (setAsk_other _ _ _ _ _ _ _ _ _ _ (fun e => n1 e.symm)).trans HU5.out
  · exact setAsk_chg HG5.out (.inr (Nat.le_refl _)) _ _ _ _ _ _ _
set_option maxRecDepth 100000 in
theorem does_if1 (q u : Nat) (A : Nat) (x2 n m C : Int) (vars pc : Int) (cs : Array Value) (w : World) (hc : CoreAt w q u ⟨11, A, x2, C, n⟩ vars)
    (hu : w.heap[u]? = some (.cells cs 94 (0, 0))) (hs : cs.size = 19) (hpc : cs[0]? = some (.int .i64 pc)) (hp0 : 0 ≤ pc) (hp1 : pc ≤ 1000) (hqu : q ≠ u) (hA : A < 8) (hk : cs[2 + A * 2]? = some (.int .i64 1)) (hm : cs[2 + A * 2 + 1]? = some (.int .i64 m)) (hne : (m == 0) = false) :
    Calls Tryz.prog 156 #[.pointer (some ⟨q, 0, none⟩)] w fun e w' => e = .returned (.agg (askC 0 0 0 0 0 0 0)) ∧ w'.heap[u]? = some (.cells (cs.setIfInBounds 0 (.int .i64 C)) 94 (0, 0)) ∧ Chg (· = u) w w' := by
  obtain ⟨c0, c1, c2, c3, c4, c5, c6, l0⟩ := hc.cells
  have d0 : w.cell? ⟨u, 0, none⟩ = some (.int .i64 pc) := (cell_of_row _ _ _ _ _ _ hu).trans hpc
  have f0 : ∀ j, w.frozen? ⟨u, j, none⟩ = false := fun j => frozen_of_row _ _ j _ _ hu
  have l1 : u < w.heap.size := block_lt hu
  have HC := Lib.hid hc
  have HU := Lib.hid hu
  clear hc hu hpc
  go_enter Tryz.func156, Tryz.ntmps156
  go_upto_region 3 with (fail)
  change Code.wp _ _ _ _ (begun w u ⟨11, A, x2, C, n⟩ pc)
  have hb := begun_is (pc := pc) HC.out HU.out hqu
  generalize begun w u ⟨11, A, x2, C, n⟩ pc = W at *
  have HB := Lib.hid hb
  clear hb
  go_wp2_with fail
  refine (worth_other q u _ _ _ _ _ _ W HB.out.core (by omega)).mono ?_
  rintro e w2 ⟨rfl, hb2⟩
  have hc2 := HB.out.core.keep (hb2.block q (block_lt HB.out.core))
  have hu2 := (hb2.block u (block_lt HB.out.cpu)).trans HB.out.cpu
  have ho2 := (hb2.block _ (block_lt HB.out.op)).trans HB.out.op
  have ha2 := (hb2.block _ (block_lt HB.out.ask)).trans HB.out.ask
  have hg2 := HB.out.chg.below hb2 HB.out.chg.size
  have o0 := cell_of_row _ _ 0 _ _ _ ho2
  have o1 := cell_of_row _ _ 1 _ _ _ ho2
  have o2 := cell_of_row _ _ 2 _ _ _ ho2
  have o3 := cell_of_row _ _ 3 _ _ _ ho2
  have o4 := cell_of_row _ _ 4 _ _ _ ho2
  dsimp only [OpM.cells] at o0 o1 o2 o3 o4
  simp at o0 o1 o2 o3 o4
  have l2 : w.heap.size + 1 < w2.heap.size := block_lt ho2
  have l3 : q < w2.heap.size := block_lt hc2
  have l4 : u < w2.heap.size := block_lt hu2
  have l5 : w.heap.size < w2.heap.size := block_lt ha2
  have HC2 := Lib.hid hc2
  have HU2 := Lib.hid hu2
  have HO2 := Lib.hid ho2
  have HA2 := Lib.hid ha2
  clear hc2 hu2 ho2 ha2 hb2
  clear HB c0 c1 c2 c3 c4 c5 c6 d0 f0
  have HG2 := Lib.hid hg2
  clear hg2
  go_upto_region 19 with (fail)
  refine name_world ?_
  intro W3 hW3
  have hb3 : Below w2.heap.size w2 W3 := by rw [hW3]; exact (Below.refl _ _).alloc (Nat.le_refl _) _
  have hc3 := HC2.out.keep (hb3.block q l3)
  have hu3 := (hb3.block u l4).trans HU2.out
  have ha3 := (hb3.block _ l5).trans HA2.out
  have hg3 := HG2.out.below hb3 HG2.out.size
  replace o0 := (hb3.cell (p := ⟨w.heap.size + 1, 0, none⟩) l2).trans o0
  replace o1 := (hb3.cell (p := ⟨w.heap.size + 1, 1, none⟩) l2).trans o1
  replace o2 := (hb3.cell (p := ⟨w.heap.size + 1, 2, none⟩) l2).trans o2
  replace o3 := (hb3.cell (p := ⟨w.heap.size + 1, 3, none⟩) l2).trans o3
  replace o4 := (hb3.cell (p := ⟨w.heap.size + 1, 4, none⟩) l2).trans o4
  replace l2 := Nat.lt_of_lt_of_le l2 hb3.size
  replace l3 := Nat.lt_of_lt_of_le l3 hb3.size
  replace l4 := Nat.lt_of_lt_of_le l4 hb3.size
  replace l5 := Nat.lt_of_lt_of_le l5 hb3.size
  have HC3 := Lib.hid hc3
  have HU3 := Lib.hid hu3
  have HA3 := Lib.hid ha3
  have HG3 := Lib.hid hg3
  have n1 : ¬ w.heap.size = u := by omega
  clear hW3 hb3 hc3 hu3 ha3 hg3 HC2 HU2 HO2 HA2 HG2
  have r0 : W3.cell? ⟨u, 2 + A * 2, none⟩ = some (.int .i64 1) := by
    rw [cell_of_row _ _ _ _ _ _ HU3.out]
    rw [Array.getElem?_setIfInBounds_ne (by omega)]
    exact hk
  have r1 : W3.cell? ⟨u, 2 + A * 2 + 1, none⟩ = some (.int .i64 m) := by
    rw [cell_of_row _ _ _ _ _ _ HU3.out]
    rw [Array.getElem?_setIfInBounds_ne (by omega)]
    exact hm
  have e0 := HC3.out.cells.1
  have E0 := Lib.hid e0
  have R0 := Lib.hid r0
  have R1 := Lib.hid r1
  have hfd : ∀ (x y : Int) (W : World), (Instr.field 53 (.agg #[.int .i64 x, .int .i64 y]) 1).run Tryz.prog W = .ok (.int .i64 y) W := fun _ _ _ => by kernel_rfl
  clear hk hm e0 r0 r1
  go_wp2_with fail
  refine (number_yes q u A hA _ _ (by exact E0.out) (by exact R0.out) (by exact R1.out)).mono ?_
  rintro e w5 ⟨rfl, hb5⟩
  have ha5 := (hb5.block _ l5).trans HA3.out
  obtain ⟨p0, p1, p2, p3, p4, p5, p6, pf⟩ := ask_cells ha5
  have hu5 := (hb5.block _ l4).trans HU3.out
  have hc5 := HC3.out.keep (hb5.block _ l3)
  have HG5 := Lib.hid (HG3.out.below hb5 HG3.out.size)
  have HA5 := Lib.hid ha5
  have HU5 := Lib.hid hu5
  have HC5 := Lib.hid hc5
  have q0 := hc5.cells.1
  have q3 : w5.cell? ⟨w.heap.size + 1, 3, none⟩ = some (.int .i64 C) := (hb5.cell (p := ⟨w.heap.size + 1, 3, none⟩) l2).trans o3
  have u0 : w5.cell? ⟨u, 0, none⟩ = some ((cs.setIfInBounds 0 (.int .i64 (pc + 1))).getD 0 undef) := by
    rw [cell_of_row _ _ _ _ _ _ hu5]
    exact arr_get _ _ (by rw [Array.size_setIfInBounds, hs]; omega)
  have uf : w5.frozen? ⟨u, 0, none⟩ = false := frozen_of_row _ _ _ _ _ hu5
  have n2 : ¬ u = w.heap.size := by omega
  generalize (cs.setIfInBounds 0 (.int .i64 (pc + 1))).getD 0 undef = y0 at u0
  clear ha5 hu5 hc5 hb5
  go_wp2_with fail
  go_still_tail 8, (by kernel_rfl)
  change wpList _ _ _ _ _ w5.drew
  go_upto_region 30 with (fail)
  refine name_world ?_
  intro W6 hW6
  have ha6 : W6.heap[w.heap.size]? = some (.cells (askC 0 0 0 0 0 0 0) 217 (0, 0)) := by
    rw [hW6]
    exact (heap_setCell_other _ _ _ _ n1).trans HA5.out
  have hu6 : W6.heap[u]? = some (.cells (cs.setIfInBounds 0 (.int .i64 C)) 94 (0, 0)) := by
    rw [hW6]
    refine (heap_setCell_same _ _ _ _ _ _ HU5.out).trans ?_
    rw [Array.setIfInBounds_setIfInBounds]
  have hg6 : Chg (· = u) w W6 := by
    rw [hW6]
    exact HG5.out.drew.setCell (p := ⟨u, 0, none⟩) (.inl rfl) _
  obtain ⟨z0, z1, z2, z3, z4, z5, z6, zf⟩ := ask_cells ha6
  have HA6 := Lib.hid ha6
  have HU6 := Lib.hid hu6
  have HG6 := Lib.hid hg6
  clear ha6 hu6 hg6 hW6 p0 p1 p2 p3 p4 p5 p6 pf
  go_wp2_with fail
  refine bodyPost_ret (results_cell_row rfl _ _ w.heap.size 217 (askC 0 0 0 0 0 0 0) (0, 0) _ rfl (setAsk_same HA6.out 0 0 0 0 0 0 0) Tryz.underlying217 rfl (by kernel_rfl)) rfl ⟨rfl, ?_, ?_⟩
  · exact (setAsk_other _ _ _ _ _ _ _ _ _ _ (fun e => n1 e.symm)).trans HU6.out
  · exact setAsk_chg HG6.out (.inr (Nat.le_refl _)) _ _ _ _ _ _ _
end Go.Proofs.YteflpdhgojcmcaaGreatDoor
namespace Go.Proofs.YteflpdhgojcmcaaGreatDoor
open Go.RowKit
set_option maxRecDepth 100000 in
theorem does_retry (q u : Nat) (x1 x2 x3 n : Int) (sa : Option Addr) (sc : Nat) (vars pc : Int) (cs : Array Value) (w : World) (hc : CoreAt w q u ⟨14, x1, x2, x3, n⟩ vars)
    (hu : w.heap[u]? = some (.cells cs 94 (0, 0))) (hpc : cs[0]? = some (.int .i64 pc)) (hp0 : 0 ≤ pc) (hp1 : pc ≤ 1000) (hqu : q ≠ u) (hst : cs[18]? = some (.slice sa 0 sc)) :
    Calls Tryz.prog 156 #[.pointer (some ⟨q, 0, none⟩)] w fun e w' => e = .panicked [{ v := .iface 274 (.int .i64 1), recovered := false }] ∧ Chg (· = u) w w' := by
  obtain ⟨c0, c1, c2, c3, c4, c5, c6, l0⟩ := hc.cells
  have d0 : w.cell? ⟨u, 0, none⟩ = some (.int .i64 pc) := (cell_of_row _ _ _ _ _ _ hu).trans hpc
  have f0 : ∀ j, w.frozen? ⟨u, j, none⟩ = false := fun j => frozen_of_row _ _ j _ _ hu
  have l1 : u < w.heap.size := block_lt hu
  have HC := Lib.hid hc
  have HU := Lib.hid hu
  clear hc hu hpc
  go_enter Tryz.func156, Tryz.ntmps156
  go_upto_region 3 with (fail)
  change Code.wp _ _ _ _ (begun w u ⟨14, x1, x2, x3, n⟩ pc)
  have hb := begun_is (pc := pc) HC.out HU.out hqu
  generalize begun w u ⟨14, x1, x2, x3, n⟩ pc = W at *
  have HB := Lib.hid hb
  clear hb
  go_wp2_with fail
  refine (worth_other q u _ _ _ _ _ _ W HB.out.core (by omega)).mono ?_
  rintro e w2 ⟨rfl, hb2⟩
  have hc2 := HB.out.core.keep (hb2.block q (block_lt HB.out.core))
  have hu2 := (hb2.block u (block_lt HB.out.cpu)).trans HB.out.cpu
  have ho2 := (hb2.block _ (block_lt HB.out.op)).trans HB.out.op
  have ha2 := (hb2.block _ (block_lt HB.out.ask)).trans HB.out.ask
  have hg2 := HB.out.chg.below hb2 HB.out.chg.size
  have o0 := cell_of_row _ _ 0 _ _ _ ho2
  have o1 := cell_of_row _ _ 1 _ _ _ ho2
  have o2 := cell_of_row _ _ 2 _ _ _ ho2
  have o3 := cell_of_row _ _ 3 _ _ _ ho2
  have o4 := cell_of_row _ _ 4 _ _ _ ho2
  dsimp only [OpM.cells] at o0 o1 o2 o3 o4
  simp at o0 o1 o2 o3 o4
  have l2 : w.heap.size + 1 < w2.heap.size := block_lt ho2
  have l3 : q < w2.heap.size := block_lt hc2
  have l4 : u < w2.heap.size := block_lt hu2
  have l5 : w.heap.size < w2.heap.size := block_lt ha2
  have HC2 := Lib.hid hc2
  have HU2 := Lib.hid hu2
  have HO2 := Lib.hid ho2
  have HA2 := Lib.hid ha2
  clear hc2 hu2 ho2 ha2 hb2
  clear HB c0 c1 c2 c3 c4 c5 c6 d0 f0
  have HG2 := Lib.hid hg2
  clear hg2
  go_upto_region 27 with (fail)
  refine name_world ?_
  intro W3 hW3
  have hb3 : Below w2.heap.size w2 W3 := by rw [hW3]; exact (Below.refl _ _).alloc (Nat.le_refl _) _
  have hc3 := HC2.out.keep (hb3.block q l3)
  have hu3 := (hb3.block u l4).trans HU2.out
  have ha3 := (hb3.block _ l5).trans HA2.out
  have hg3 := HG2.out.below hb3 HG2.out.size
  replace o0 := (hb3.cell (p := ⟨w.heap.size + 1, 0, none⟩) l2).trans o0
  replace o1 := (hb3.cell (p := ⟨w.heap.size + 1, 1, none⟩) l2).trans o1
  replace o2 := (hb3.cell (p := ⟨w.heap.size + 1, 2, none⟩) l2).trans o2
  replace o3 := (hb3.cell (p := ⟨w.heap.size + 1, 3, none⟩) l2).trans o3
  replace o4 := (hb3.cell (p := ⟨w.heap.size + 1, 4, none⟩) l2).trans o4
  replace l2 := Nat.lt_of_lt_of_le l2 hb3.size
  replace l3 := Nat.lt_of_lt_of_le l3 hb3.size
  replace l4 := Nat.lt_of_lt_of_le l4 hb3.size
  replace l5 := Nat.lt_of_lt_of_le l5 hb3.size
  have HC3 := Lib.hid hc3
  have HU3 := Lib.hid hu3
  have HA3 := Lib.hid ha3
  have HG3 := Lib.hid hg3
  have n1 : ¬ w.heap.size = u := by omega
  clear hW3 hb3 hc3 hu3 ha3 hg3 HC2 HU2 HO2 HA2 HG2
  have r0 : W3.cell? ⟨u, 18, none⟩ = some (.slice sa 0 sc) := by
    rw [cell_of_row _ _ _ _ _ _ HU3.out]
    rw [Array.getElem?_setIfInBounds_ne (by omega)]
    exact hst
  have e0 := HC3.out.cells.1
  have E0 := Lib.hid e0
  have R0 := Lib.hid r0
  clear hst e0 r0
  go_wp2_with fail
  refine (again_no q u sa sc _ E0.out R0.out).mono ?_
  rintro e w5 ⟨rfl, hb5⟩
  exact ⟨rfl, rfl, HG3.out.below hb5 HG3.out.size⟩
set_option maxRecDepth 100000 in
theorem does_end (q u : Nat) (x1 x2 x3 n : Int) (vars pc : Int) (cs : Array Value) (w : World) (hc : CoreAt w q u ⟨16, x1, x2, x3, n⟩ vars)
    (hu : w.heap[u]? = some (.cells cs 94 (0, 0))) (hpc : cs[0]? = some (.int .i64 pc)) (hp0 : 0 ≤ pc) (hp1 : pc ≤ 1000) (hqu : q ≠ u)  :
    Calls Tryz.prog 156 #[.pointer (some ⟨q, 0, none⟩)] w fun e w' => e = .panicked [{ v := .iface 274 (.int .i64 0), recovered := false }] ∧ Chg (· = u) w w' := by
  obtain ⟨c0, c1, c2, c3, c4, c5, c6, l0⟩ := hc.cells
  have d0 : w.cell? ⟨u, 0, none⟩ = some (.int .i64 pc) := (cell_of_row _ _ _ _ _ _ hu).trans hpc
  have f0 : ∀ j, w.frozen? ⟨u, j, none⟩ = false := fun j => frozen_of_row _ _ j _ _ hu
  have l1 : u < w.heap.size := block_lt hu
  have HC := Lib.hid hc
  have HU := Lib.hid hu
  clear hc hu hpc
  go_enter Tryz.func156, Tryz.ntmps156
  go_upto_region 3 with (fail)
  change Code.wp _ _ _ _ (begun w u ⟨16, x1, x2, x3, n⟩ pc)
  have hb := begun_is (pc := pc) HC.out HU.out hqu
  generalize begun w u ⟨16, x1, x2, x3, n⟩ pc = W at *
  have HB := Lib.hid hb
  clear hb
  go_wp2_with fail
  refine (worth_other q u _ _ _ _ _ _ W HB.out.core (by omega)).mono ?_
  rintro e w2 ⟨rfl, hb2⟩
  have hc2 := HB.out.core.keep (hb2.block q (block_lt HB.out.core))
  have hu2 := (hb2.block u (block_lt HB.out.cpu)).trans HB.out.cpu
  have ho2 := (hb2.block _ (block_lt HB.out.op)).trans HB.out.op
  have ha2 := (hb2.block _ (block_lt HB.out.ask)).trans HB.out.ask
  have hg2 := HB.out.chg.below hb2 HB.out.chg.size
  have o0 := cell_of_row _ _ 0 _ _ _ ho2
  have o1 := cell_of_row _ _ 1 _ _ _ ho2
  have o2 := cell_of_row _ _ 2 _ _ _ ho2
  have o3 := cell_of_row _ _ 3 _ _ _ ho2
  have o4 := cell_of_row _ _ 4 _ _ _ ho2
  dsimp only [OpM.cells] at o0 o1 o2 o3 o4
  simp at o0 o1 o2 o3 o4
  have l2 : w.heap.size + 1 < w2.heap.size := block_lt ho2
  have l3 : q < w2.heap.size := block_lt hc2
  have l4 : u < w2.heap.size := block_lt hu2
  have l5 : w.heap.size < w2.heap.size := block_lt ha2
  have HC2 := Lib.hid hc2
  have HU2 := Lib.hid hu2
  have HO2 := Lib.hid ho2
  have HA2 := Lib.hid ha2
  clear hc2 hu2 ho2 ha2 hb2
  clear HB c0 c1 c2 c3 c4 c5 c6 d0 f0
  have HG2 := Lib.hid hg2
  clear hg2
  go_upto_region 29 with (fail)
  refine name_world ?_
  intro W3 hW3
  have hb3 : Below w2.heap.size w2 W3 := by rw [hW3]; exact (Below.refl _ _).alloc (Nat.le_refl _) _
  have hc3 := HC2.out.keep (hb3.block q l3)
  have hu3 := (hb3.block u l4).trans HU2.out
  have ha3 := (hb3.block _ l5).trans HA2.out
  have hg3 := HG2.out.below hb3 HG2.out.size
  replace o0 := (hb3.cell (p := ⟨w.heap.size + 1, 0, none⟩) l2).trans o0
  replace o1 := (hb3.cell (p := ⟨w.heap.size + 1, 1, none⟩) l2).trans o1
  replace o2 := (hb3.cell (p := ⟨w.heap.size + 1, 2, none⟩) l2).trans o2
  replace o3 := (hb3.cell (p := ⟨w.heap.size + 1, 3, none⟩) l2).trans o3
  replace o4 := (hb3.cell (p := ⟨w.heap.size + 1, 4, none⟩) l2).trans o4
  replace l2 := Nat.lt_of_lt_of_le l2 hb3.size
  replace l3 := Nat.lt_of_lt_of_le l3 hb3.size
  replace l4 := Nat.lt_of_lt_of_le l4 hb3.size
  replace l5 := Nat.lt_of_lt_of_le l5 hb3.size
  have HC3 := Lib.hid hc3
  have HU3 := Lib.hid hu3
  have HA3 := Lib.hid ha3
  have HG3 := Lib.hid hg3
  have n1 : ¬ w.heap.size = u := by omega
  clear hW3 hb3 hc3 hu3 ha3 hg3 HC2 HU2 HO2 HA2 HG2
  go_wp2_with fail
  refine (give_any 0 _).mono ?_
  rintro e w5 ⟨rfl, rfl⟩
  exact ⟨rfl, rfl, HG3.out⟩
end Go.Proofs.YteflpdhgojcmcaaGreatDoor
