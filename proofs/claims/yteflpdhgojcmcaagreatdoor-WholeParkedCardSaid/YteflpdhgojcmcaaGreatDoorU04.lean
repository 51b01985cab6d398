/- The walks of store.changed, Put and Mark. The walks of store.Put, Mark, and their closures. The walks of store.Put and Mark. The walk of store.Mark. The walk of store.Drop. The walks of math/bits.Mul, where one factor is 1; a copy of elements of many cells. No conditions but those that each theorem names. -/
import Derived.Test.YteflpdhgojcmcaaGreatDoorU01
import Derived.Test.YteflpdhgojcmcaaGreatDoorU03
import Derived.Deep.RegionHeld3
import Derived.StillTailTactics
import Derived.Deep.LoopGhost
import Derived.Test.YteflpdhgojcmcaaGreatDoorU02
import Derived.Laws.CopyOwn
namespace Go.Proofs.YteflpdhgojcmcaaGreatDoor
open Go.RowKit
open PSet
/-- What a closure of package store does to the variable that it is handed: another one lies in its place, nothing else turns. -/
def Turns (K : Nat) (caps : Array Value) (x : Nat) (s s' : List VarM) (W0 : World) : Prop :=
  ∀ (W : World) (g : Nat) (cur : Array Value), Below W0.heap.size W0 W → W0.heap.size ≤ g → W.heap[g]? = some (.cells cur 197 (0, 0)) → s.length * 5 ≤ cur.size → cur.toList.take (s.length * 5) = storeC s →
    Calls Tryz.prog K (#[.pointer (some ⟨g, x * 5, none⟩)] ++ caps) W fun e w' => e = .returned (.tuple #[]) ∧
      (∃ cur', w'.heap[g]? = some (.cells cur' 197 (0, 0)) ∧ cur'.size = cur.size ∧ cur'.toList.take (s.length * 5) = storeC s') ∧ Chg (· = g) W w'
set_option maxRecDepth 100000 in
theorem changed_yes (v : Value) (s s' : List VarM) (x : Nat) (K : Nat) (caps : Array Value) (w : World) (hs : StoreAt w v s) (hx : x < s.length) (hn : s.length ≤ 100000) (hs' : s'.length = s.length)
    (hcall : ∀ (args : Array Value) (W : World), (callFunc K args).run Tryz.prog W = .ok (.enter K args) W) (ht : Turns K caps x s s' w) :
    Calls Tryz.prog 324 #[v, .int .i64 x, .bool true, .func (.func K) #[] caps] w fun e w' => ∃ v', e = .returned (.tuple #[v', .int .i64 0]) ∧ w'.ownsRow w.heap.size 197 5 v' s.length (storeC s') ∧ Below w.heap.size w w' := by
  obtain ⟨a, ha⟩ : ∃ a, s[x]? = some a := ⟨s[x], List.getElem?_eq_getElem hx⟩
  have C1 := Lib.hid (get_yes v s x a w hs ha hn)
  have HS := Lib.hid hs
  have HT := Lib.hid ht
  have HX := Lib.hid hx
  have HS' := Lib.hid hs'
  clear hs ht ha hs'
  obtain ⟨k, n, ver, wr, marks⟩ := a
  dsimp only [VarM.cells] at C1
  go_enter Tryz.func324, Tryz.ntmps324
  go_wp2_with fail
  refine (C1.out).mono ?_
  rintro e w1 ⟨rfl, hb1⟩
  have hs1 : StoreAt w1 v s := RowAt.below HS.out hb1
  have HB1 := Lib.hid hb1
  have HS1 := Lib.hid hs1
  clear hb1 hs1
  go_wp2_with fail
  obtain ⟨W, hW⟩ : ∃ W, W = w1.alloc (.cells #[.int .i64 k, .int .i64 n, .int .i64 ver, .int .i64 wr, .int .u64 marks] 197) := ⟨_, rfl⟩
  have hbW : Below w.heap.size w W := by rw [hW]; exact HB1.out.alloc HB1.out.size _
  have hsW : StoreAt W v s := RowAt.below HS.out hbW
  rw [← hW]
  have HBW := Lib.hid hbW
  clear hW hbW
  refine (clone326 v s.length (storeC s) W hsW (storeC_one s) hn).mono ?_
  rintro e w2 ⟨v', rfl, hown, hb2⟩
  obtain ⟨hol, ho⟩ := hown
  rcases ho with ⟨_, h0⟩ | ⟨g, cap, cur, rfl, hWg, hg, hnc, hcm, hsz, htk⟩
  · have := HX.out; omega
  have hb3 : Below w.heap.size w w2 := HBW.out.trans (hb2.mono HBW.out.size)
  have hwg : w.heap.size ≤ g := Nat.le_trans HBW.out.size hWg
  have ht := HT.out w2 g cur hb3 hwg hg (by rw [hsz]; exact Nat.mul_le_mul_right 5 hnc) htk
  have H2 := Lib.hid (And.intro hb3 (And.intro hwg (And.intro hnc (And.intro hcm hsz))))
  have HH := Lib.hid ht
  have i0 : (0 : Int) ≤ (x : Int) := by omega
  have i1 : (x : Int) < (s.length : Int) := by have := HX.out; omega
  clear hb2 hb3 hwg hg hnc hcm hsz htk ht hol hWg hsW
  generalize hlen : s.length = len at *
  have HLEN := Lib.hid hlen
  clear hlen
  go_wp2_with fail
  refine (HH.out).mono ?_
  rintro e w3 ⟨rfl, ⟨cur', hg', hsz', htk'⟩, hc3⟩
  have hF : w3.ownsRow w.heap.size 197 5 (.slice (some ⟨g, 0, none⟩) len cap) len (storeC s') := by
    refine ⟨by rw [storeC_length, HS'.out], .inr ⟨g, cap, cur', rfl, H2.out.2.1, hg', H2.out.2.2.1, H2.out.2.2.2.1, by rw [hsz']; exact H2.out.2.2.2.2, htk'⟩⟩
  have hB : Below w.heap.size w w3 := ⟨hc3.os.trans H2.out.1.os, hc3.tape.trans H2.out.1.tape, hc3.output.trans H2.out.1.output, Nat.le_trans H2.out.1.size hc3.size, fun i hi => (hc3.block i (by have := H2.out.1.size; omega) (by have := H2.out.2.1; omega)).trans (H2.out.1.block i hi)⟩
  have HF := Lib.hid (And.intro hF hB)
  clear hg' hsz' htk' hc3 hF hB
  go_wp2_with fail
  go_ret2
  exact ⟨.slice (some ⟨g, 0, none⟩) len cap, rfl, by rw [HLEN.out]; exact HF.out.1, HF.out.2⟩
end Go.Proofs.YteflpdhgojcmcaaGreatDoor
namespace Go.Proofs.YteflpdhgojcmcaaGreatDoor
open Go.RowKit
open PSet
/-- One variable's five cells, set one by one. -/
theorem five_set (s : List VarM) (x : Nat) (a : VarM) (k n ver wr : Int) (marks : Nat) (cur : Array Value) (hx : s[x]? = some a) (htk : cur.toList.take (s.length * 5) = storeC s) :
    (((((cur.setIfInBounds (x * 5) (.int .i64 k)).setIfInBounds (x * 5 + 1) (.int .i64 n)).setIfInBounds (x * 5 + 2) (.int .i64 ver)).setIfInBounds (x * 5 + 3) (.int .i64 wr)).setIfInBounds (x * 5 + 4) (.int .u64 marks)).toList.take (s.length * 5) = storeC (s.set x ⟨k, n, ver, wr, marks⟩) := by
  have hlt : x < s.length := (List.getElem?_eq_some_iff.1 hx).1
  obtain ⟨k0, n0, v0, w0, m0⟩ := a
  rw [take_set, take_set, take_set, take_set, take_set, htk]
  unfold storeC
  have h1 := chunk_set VarM.len s x 0 _ ⟨k, n0, v0, w0, m0⟩ (.int .i64 k) hx (by decide) rfl
  have g1 : (s.set x ⟨k, n0, v0, w0, m0⟩)[x]? = some ⟨k, n0, v0, w0, m0⟩ := by simp [hlt]
  have h2 := chunk_set VarM.len _ x 1 _ ⟨k, n, v0, w0, m0⟩ (.int .i64 n) g1 (by decide) rfl
  rw [List.set_set] at h2
  have g2 : (s.set x ⟨k, n, v0, w0, m0⟩)[x]? = some ⟨k, n, v0, w0, m0⟩ := by simp [hlt]
  have h3 := chunk_set VarM.len _ x 2 _ ⟨k, n, ver, w0, m0⟩ (.int .i64 ver) g2 (by decide) rfl
  rw [List.set_set] at h3
  have g3 : (s.set x ⟨k, n, ver, w0, m0⟩)[x]? = some ⟨k, n, ver, w0, m0⟩ := by simp [hlt]
  have h4 := chunk_set VarM.len _ x 3 _ ⟨k, n, ver, wr, m0⟩ (.int .i64 wr) g3 (by decide) rfl
  rw [List.set_set] at h4
  have g4 : (s.set x ⟨k, n, ver, wr, m0⟩)[x]? = some ⟨k, n, ver, wr, m0⟩ := by simp [hlt]
  have h5 := chunk_set VarM.len _ x 4 _ ⟨k, n, ver, wr, marks⟩ (.int .u64 marks) g4 (by decide) rfl
  rw [List.set_set] at h5
  rw [Nat.add_zero] at h1
  rw [h1, h2, h3, h4, h5]
theorem arrGet (cs : Array Value) (i : Nat) (h : i < cs.size) : cs[i]? = some (cs.getD i undef) := by simp [Array.getD, h]
set_option maxRecDepth 100000 in
theorem put1_turns (s : List VarM) (x : Nat) (b7 b8 b9 : Nat) (k n ver wr : Int) (W0 : World) (hx : x < s.length)
    (c0 : W0.cell? ⟨b7, 0, none⟩ = some (.int .i64 k)) (c1 : W0.cell? ⟨b7, 1, none⟩ = some (.int .i64 n)) (c2 : W0.cell? ⟨b8, 0, none⟩ = some (.int .i64 ver)) (c3 : W0.cell? ⟨b9, 0, none⟩ = some (.int .i64 wr)) :
    Turns 325 #[.pointer (some ⟨b7, 0, none⟩), .pointer (some ⟨b8, 0, none⟩), .pointer (some ⟨b9, 0, none⟩)] x s (s.set x ⟨k, n, ver, wr, 0⟩) W0 := by
  intro W g cur hb hg hcur hsz htk
  have d0 := (hb.cell (p := ⟨b7, 0, none⟩) (block_lt_of_cell c0)).trans c0
  have d1 := (hb.cell (p := ⟨b7, 1, none⟩) (block_lt_of_cell c1)).trans c1
  have d2 := (hb.cell (p := ⟨b8, 0, none⟩) (block_lt_of_cell c2)).trans c2
  have d3 := (hb.cell (p := ⟨b9, 0, none⟩) (block_lt_of_cell c3)).trans c3
  have e : ∀ j, j < 5 → W.cell? ⟨g, x * 5 + j, none⟩ = some (cur.getD (x * 5 + j) undef) := fun j hj => by
    rw [cell_of_row _ _ _ _ _ _ hcur]
    exact arrGet _ _ (by omega)
  have e0 := e 0 (by decide)
  rw [Nat.add_zero] at e0
  have e1 := e 1 (by decide)
  have e2 := e 2 (by decide)
  have e3 := e 3 (by decide)
  have e4 := e 4 (by decide)
  have f : ∀ j, W.frozen? ⟨g, j, none⟩ = false := fun j => frozen_of_row _ _ j _ _ hcur
  obtain ⟨a, ha⟩ : ∃ a, s[x]? = some a := ⟨s[x], List.getElem?_eq_getElem hx⟩
  have hfive := five_set s x a k n ver wr 0 cur ha htk
  have HC := Lib.hid hcur
  have HF := Lib.hid hfive
  generalize cur.getD (x * 5) undef = y0 at *
  generalize cur.getD (x * 5 + 1) undef = y1 at *
  generalize cur.getD (x * 5 + 2) undef = y2 at *
  generalize cur.getD (x * 5 + 3) undef = y3 at *
  generalize cur.getD (x * 5 + 4) undef = y4 at *
  clear e hcur hfive htk c0 c1 c2 c3 hb hg hsz ha hx
  change Calls Tryz.prog 325 #[.pointer (some ⟨g, x * 5, none⟩), .pointer (some ⟨b7, 0, none⟩), .pointer (some ⟨b8, 0, none⟩), .pointer (some ⟨b9, 0, none⟩)] W _
  go_enter Tryz.func325, Tryz.ntmps325
  go_wp2_with fail
  refine bodyPost_end (results_none rfl _ _ _) rfl ⟨rfl, ⟨_, heap_setCell_same _ _ _ _ _ _ (heap_setCell_same _ _ _ _ _ _ (heap_setCell_same _ _ _ _ _ _ (heap_setCell_same _ _ _ _ _ _ (heap_setCell_same _ _ _ _ _ _ HC.out)))), by simp, HF.out⟩, ?_⟩
  exact (((((Chg.refl (· = g) W).setCell (p := ⟨g, x * 5, none⟩) (.inl rfl) _).setCell (p := ⟨g, x * 5 + 1, none⟩) (.inl rfl) _).setCell (p := ⟨g, x * 5 + 2, none⟩) (.inl rfl) _).setCell (p := ⟨g, x * 5 + 3, none⟩) (.inl rfl) _).setCell (p := ⟨g, x * 5 + 4, none⟩) (.inl rfl) _
end Go.Proofs.YteflpdhgojcmcaaGreatDoor
namespace Go.Proofs.YteflpdhgojcmcaaGreatDoor
open Go.RowKit
open PSet
theorem call325 (args : Array Value) (W : World) : (callFunc 325 args).run Tryz.prog W = .ok (.enter 325 args) W := by kernel_rfl
theorem call352 (args : Array Value) (W : World) : (callFunc 352 args).run Tryz.prog W = .ok (.enter 352 args) W := by kernel_rfl
/-- Three variables of a call, in new blocks. -/
def boxes3 (w : World) (k n ver wr : Int) : World := ((w.alloc (.cells #[.int .i64 k, .int .i64 n] 53)).alloc (.cells #[.int .i64 ver] 3)).alloc (.cells #[.int .i64 wr] 3)
theorem boxes3_is {w w1 : World} {k n ver wr : Int} (hb : Below (boxes3 w k n ver wr).heap.size (boxes3 w k n ver wr) w1) :
    w1.cell? ⟨w.heap.size, 0, none⟩ = some (.int .i64 k) ∧ w1.cell? ⟨w.heap.size, 1, none⟩ = some (.int .i64 n) ∧ w1.cell? ⟨w.heap.size + 1, 0, none⟩ = some (.int .i64 ver) ∧ w1.cell? ⟨w.heap.size + 1 + 1, 0, none⟩ = some (.int .i64 wr) ∧
    Below w.heap.size w w1 ∧ w.heap.size + 1 + 1 < w1.heap.size := by
  have hs : (boxes3 w k n ver wr).heap.size = w.heap.size + 1 + 1 + 1 := by simp [boxes3]
  have a0 : ((w.alloc (.cells #[.int .i64 k, .int .i64 n] 53)).alloc (.cells #[.int .i64 ver] 3)).heap.size = w.heap.size + 1 + 1 := by simp
  have a1 : (w.alloc (.cells #[.int .i64 k, .int .i64 n] 53)).heap.size = w.heap.size + 1 := by simp
  have c : ∀ j, (boxes3 w k n ver wr).cell? ⟨w.heap.size, j, none⟩ = (#[.int .i64 k, .int .i64 n] : Array Value)[j]? := fun j =>
    (World.cell?_alloc_past _ _ _ (by rw [a0]; omega)).trans ((World.cell?_alloc_past _ _ _ (by rw [a1]; omega)).trans (new_cell _ _ _ _))
  have c2 : (boxes3 w k n ver wr).cell? ⟨w.heap.size + 1, 0, none⟩ = some (.int .i64 ver) :=
    (World.cell?_alloc_past _ _ _ (by rw [a0]; omega)).trans (by rw [← a1]; exact new_cell _ _ _ _)
  have c3 : (boxes3 w k n ver wr).cell? ⟨w.heap.size + 1 + 1, 0, none⟩ = some (.int .i64 wr) := by
    rw [← a0]; exact new_cell _ _ _ _
  refine ⟨(hb.cell (p := ⟨w.heap.size, 0, none⟩) (by rw [hs]; show w.heap.size < _; omega)).trans (c 0), (hb.cell (p := ⟨w.heap.size, 1, none⟩) (by rw [hs]; show w.heap.size < _; omega)).trans (c 1),
    (hb.cell (p := ⟨w.heap.size + 1, 0, none⟩) (by rw [hs]; show w.heap.size + 1 < _; omega)).trans c2, (hb.cell (p := ⟨w.heap.size + 1 + 1, 0, none⟩) (by rw [hs]; show w.heap.size + 1 + 1 < _; omega)).trans c3, ?_, by have := hb.size; omega⟩
  exact ((((Below.refl _ _).alloc (Nat.le_refl _) _).alloc (by simp) _).alloc (by simp; omega) _).trans (hb.mono (by rw [hs]; omega))
theorem put_yes' (v : Value) (s : List VarM) (x : Nat) (k n ver wr : Int) (w : World) (hs : StoreAt w v s) (hx : x < s.length) (hn : s.length ≤ 100000) (hv : rightV k n = true) (hw : wr = -1 ∨ (0 ≤ wr ∧ wr < 32)) :
    Calls Tryz.prog 320 #[v, .int .i64 x, .agg #[.int .i64 k, .int .i64 n], .int .i64 ver, .int .i64 wr] w fun e w' => ∃ v', e = .returned (.tuple #[v', .int .i64 0]) ∧ w'.ownsRow w.heap.size 197 5 v' s.length (storeC (s.set x ⟨k, n, ver, wr, 0⟩)) ∧ Below w.heap.size w w' := by
  have hmf : ∀ (fn : Fn) (first cap : Array Value) (w : World), (Instr.makeFunc fn first cap).run Tryz.prog w = .ok (.func fn first cap) w := fun _ _ _ _ => rfl
  have C1 := Lib.hid (right_value k n)
  rw [hv] at C1
  have HC := Lib.hid (fun (W : World) (hb : Below w.heap.size w W) (c0 : W.cell? ⟨w.heap.size, 0, none⟩ = some (.int .i64 k)) (c1 : W.cell? ⟨w.heap.size, 1, none⟩ = some (.int .i64 n)) (c2 : W.cell? ⟨w.heap.size + 1, 0, none⟩ = some (.int .i64 ver)) (c3 : W.cell? ⟨w.heap.size + 1 + 1, 0, none⟩ = some (.int .i64 wr)) =>
    changed_yes v s (s.set x ⟨k, n, ver, wr, 0⟩) x 325 #[.pointer (some ⟨w.heap.size, 0, none⟩), .pointer (some ⟨w.heap.size + 1, 0, none⟩), .pointer (some ⟨w.heap.size + 1 + 1, 0, none⟩)] W (RowAt.below hs hb) hx hn (by simp) call325 (put1_turns s x _ _ _ k n ver wr W hx c0 c1 c2 c3))
  have HW := Lib.hid hw
  clear hs hv hw
  rcases HW.out with hw1 | ⟨h0, h1⟩
  · subst hw1
    clear HW
    go_enter Tryz.func320, Tryz.ntmps320
    go_wp2_with fail
    change Calls Tryz.prog 229 _ (boxes3 w k n ver (-1)) _
    refine (C1.out _).mono ?_
    rintro e w1 ⟨rfl, hb⟩
    obtain ⟨c0, c1, c2, c3, hbw, hlt⟩ := boxes3_is hb
    have HB := Lib.hid hbw
    have K0 := Lib.hid c0
    have K1 := Lib.hid c1
    have K3 := Lib.hid c3
    have K2 := Lib.hid c2
    clear hb hbw c0 c1 c2
    go_wp2_with fail
    refine (HC.out w1 HB.out K0.out K1.out K2.out K3.out).mono ?_
    rintro e w2 ⟨v', rfl, hown, hb2⟩
    have HF := Lib.hid (And.intro (owns_mono hown HB.out.size) (HB.out.trans (hb2.mono HB.out.size)))
    clear hown hb2
    go_wp2_with fail
    go_ret2
    exact ⟨v', rfl, HF.out.1, HF.out.2⟩
  · have hne : (wr == -1) = false := by simp; omega
    go_enter Tryz.func320, Tryz.ntmps320
    go_wp2_with fail
    change Calls Tryz.prog 229 _ (boxes3 w k n ver wr) _
    refine (C1.out _).mono ?_
    rintro e w1 ⟨rfl, hb⟩
    obtain ⟨c0, c1, c2, c3, hbw, hlt⟩ := boxes3_is hb
    have HB := Lib.hid hbw
    have K0 := Lib.hid c0
    have K1 := Lib.hid c1
    have K3 := Lib.hid c3
    have K2 := Lib.hid c2
    clear hb hbw c0 c1 c2
    go_wp2_with fail
    refine (slot_yes wr _ h0 h1).mono ?_
    rintro e w' ⟨rfl, rfl⟩
    go_wp2_with fail
    refine (HC.out w1 HB.out K0.out K1.out K2.out K3.out).mono ?_
    rintro e w2 ⟨v', rfl, hown, hb2⟩
    have HF := Lib.hid (And.intro (owns_mono hown HB.out.size) (HB.out.trans (hb2.mono HB.out.size)))
    clear hown hb2
    go_wp2_with fail
    go_ret2
    exact ⟨v', rfl, HF.out.1, HF.out.2⟩
end Go.Proofs.YteflpdhgojcmcaaGreatDoor
namespace Go.Proofs.YteflpdhgojcmcaaGreatDoor
open Go.RowKit
open PSet
theorem mark_set (s : List VarM) (x : Nat) (a : VarM) (marks : Nat) (cur : Array Value) (hx : s[x]? = some a) (htk : cur.toList.take (s.length * 5) = storeC s) :
    (cur.setIfInBounds (x * 5 + 4) (.int .u64 marks)).toList.take (s.length * 5) = storeC (s.set x { a with marks := marks }) := by
  rw [take_set, htk]
  exact chunk_set VarM.len s x 4 _ _ _ hx (by decide) rfl
set_option maxRecDepth 100000 in
theorem mark1_turns (s : List VarM) (x : Nat) (a : VarM) (b5 : Nat) (rd : Nat) (W0 : World) (hx : s[x]? = some a) (hm : a.marks < 2 ^ 64) (c0 : W0.cell? ⟨b5, 0, none⟩ = some (.int .i64 rd)) :
    Turns 352 #[.pointer (some ⟨b5, 0, none⟩)] x s (s.set x { a with marks := withN a.marks rd }) W0 := by
  intro W g cur hb hg hcur hsz htk
  have hlt : x < s.length := (List.getElem?_eq_some_iff.1 hx).1
  have d0 := (hb.cell (p := ⟨b5, 0, none⟩) (block_lt_of_cell c0)).trans c0
  have e4 : W.cell? ⟨g, x * 5 + 4, none⟩ = some (.int .u64 a.marks) := by
    rw [cell_of_row _ _ _ _ _ _ hcur]
    have h1 := chunk_get VarM.len s x 4 a hx (by decide)
    have h2 : cur.toList[x * 5 + 4]? = (storeC s)[x * 5 + 4]? := by
      rw [← htk, List.getElem?_take_of_lt (by omega)]
    rw [← Array.getElem?_toList, h2]
    exact h1
  have f : ∀ j, W.frozen? ⟨g, j, none⟩ = false := fun j => frozen_of_row _ _ j _ _ hcur
  have hset := mark_set s x a (withN a.marks rd) cur hx htk
  have C1 := Lib.hid (with_any a.marks rd W.drew hm)
  have hne : ¬ b5 = g := by have := block_lt_of_cell c0; simp at this; omega
  have HC := Lib.hid hcur
  have HS := Lib.hid hset
  generalize withN a.marks rd = m2 at *
  generalize a.marks = m at *
  clear hcur hset htk hx hm c0 hb hg hsz hlt
  change Calls Tryz.prog 352 #[.pointer (some ⟨g, x * 5, none⟩), .pointer (some ⟨b5, 0, none⟩)] W _
  go_enter Tryz.func352, Tryz.ntmps352
  refine wp_region_still_tail 9 (by kernel_rfl) (by kernel_rfl) ?_
  simp only [List.take_succ_cons, List.take_zero, List.drop_succ_cons, List.drop_zero]
  iterate 6 still_step
  still_call (C1.out.mono fun e w' h => ⟨h.1, h.2.symm⟩)
  repeat still_step
  refine wpStill_nil ?_
  change wpList _ _ _ _ _ W.drew
  go_wp2_with fail
  refine bodyPost_end (results_none rfl _ _ _) rfl ⟨rfl, ⟨_, heap_setCell_same _ _ _ _ _ _ HC.out, by simp, HS.out⟩, ?_⟩
  exact ((Chg.refl (· = g) W).setCell (p := ⟨g, x * 5 + 4, none⟩) (.inl rfl) _).drew
theorem mark_yes (v : Value) (s : List VarM) (x : Nat) (a : VarM) (rd : Nat) (w : World) (hs : StoreAt w v s) (hx : s[x]? = some a) (hn : s.length ≤ 100000) (hm : a.marks < 2 ^ 64) (hrd : rd < 32) :
    Calls Tryz.prog 341 #[v, .int .i64 x, .int .i64 rd] w fun e w' => ∃ v', e = .returned (.tuple #[v', .int .i64 0]) ∧ w'.ownsRow w.heap.size 197 5 v' s.length (storeC (s.set x { a with marks := withN a.marks rd })) ∧ Below w.heap.size w w' := by
  have hlt : x < s.length := (List.getElem?_eq_some_iff.1 hx).1
  have hmf : ∀ (fn : Fn) (first cap : Array Value) (w : World), (Instr.makeFunc fn first cap).run Tryz.prog w = .ok (.func fn first cap) w := fun _ _ _ _ => rfl
  have hb : Below w.heap.size w (w.alloc (.cells #[.int .i64 rd] 3)) := (Below.refl _ _).alloc (Nat.le_refl _) _
  have HC := Lib.hid (changed_yes v s (s.set x { a with marks := withN a.marks rd }) x 352 #[.pointer (some ⟨w.heap.size, 0, none⟩)] (w.alloc (.cells #[.int .i64 rd] 3)) (RowAt.below hs hb) hlt hn (by simp) call352 (mark1_turns s x a _ rd _ hx hm (new_cell _ _ _ _)))
  have HB := Lib.hid hb
  have S1 := Lib.hid (slot_yes (rd : Int) (w.alloc (.cells #[.int .i64 rd] 3)) (by omega) (by omega))
  clear hs hx hm hb
  go_enter Tryz.func341, Tryz.ntmps341
  go_wp2_with fail
  refine (S1.out).mono ?_
  rintro e w' ⟨rfl, rfl⟩
  go_wp2_with fail
  refine (HC.out).mono ?_
  rintro e w2 ⟨v', rfl, hown, hb2⟩
  have HF := Lib.hid (And.intro (owns_mono hown HB.out.size) (HB.out.trans (hb2.mono HB.out.size)))
  clear hown hb2
  go_wp2_with fail
  go_ret2
  exact ⟨v', rfl, HF.out.1, HF.out.2⟩
end Go.Proofs.YteflpdhgojcmcaaGreatDoor
namespace Go.Proofs.YteflpdhgojcmcaaGreatDoor
open Go.RowKit
open PSet
/-- A variable from which a slot is gone. -/
def dropV (gone : Nat) (v : VarM) : VarM := { v with marks := lessN v.marks gone, wr := if v.wr = (gone : Int) then -1 else v.wr }
def dropTo (gone : Nat) (s : List VarM) (k : Nat) : List VarM := (s.take k).map (dropV gone) ++ s.drop k
theorem dropTo_length (gone : Nat) (s : List VarM) (k : Nat) : (dropTo gone s k).length = s.length := by
  simp [dropTo]; omega
theorem dropTo_zero (gone : Nat) (s : List VarM) : dropTo gone s 0 = s := by simp [dropTo]
theorem dropTo_all (gone : Nat) (s : List VarM) : dropTo gone s s.length = s.map (dropV gone) := by simp [dropTo]
theorem dropTo_get {gone : Nat} {s : List VarM} {k : Nat} {a : VarM} (h : s[k]? = some a) : (dropTo gone s k)[k]? = some a := by
  have hk := (List.getElem?_eq_some_iff.1 h).1
  unfold dropTo
  rw [List.getElem?_append_right (by simp; omega)]
  simp [Nat.min_eq_left (Nat.le_of_lt hk), h]
theorem dropTo_succ {gone : Nat} {s : List VarM} {k : Nat} {a : VarM} (h : s[k]? = some a) : (dropTo gone s k).set k (dropV gone a) = dropTo gone s (k + 1) := by
  obtain ⟨hk, he⟩ := List.getElem?_eq_some_iff.1 h
  unfold dropTo
  rw [List.set_append_right _ _ (by simp; omega)]
  simp only [List.length_map, List.length_take, Nat.min_eq_left (Nat.le_of_lt hk), Nat.sub_self]
  rw [List.take_add_one, h, List.drop_eq_getElem_cons hk, List.set_cons_zero]
  simp
set_option maxRecDepth 100000 in
theorem drop_any (v : Value) (s : List VarM) (gone : Nat) (w : World) (hs : StoreAt w v s) (hn : s.length ≤ 100000) (hm : ∀ a ∈ s, a.marks < 2 ^ 64) :
    Calls Tryz.prog 345 #[v, .int .i64 gone] w fun e w' => ∃ v', e = .returned v' ∧ w'.ownsRow w.heap.size 197 5 v' s.length (storeC (s.map (dropV gone))) ∧ Below w.heap.size w w' := by
  have C1 := Lib.hid (clone326 v s.length (storeC s) w hs (storeC_one s) hn)
  have HM := Lib.hid hm
  clear hs hm
  go_enter Tryz.func345, Tryz.ntmps345
  go_wp2_with fail
  refine (C1.out).mono ?_
  rintro e w1 ⟨v', rfl, hown, hb1⟩
  obtain ⟨hol, ho⟩ := hown
  rcases ho with ⟨rfl, h0⟩ | ⟨g, cap, cur, rfl, hWg, hg, hnc, hcm, hsz, htk⟩
  · have hs0 : s = [] := List.length_eq_zero_iff.1 h0
    subst hs0
    have HB := Lib.hid hb1
    clear hb1 hol h0
    go_wp2_with fail
    refine wp_loop_rounds 1 ?_
    rw [rounds_succ]
    go_wp2_with fail
    go_ret
    exact ⟨_, rfl, World.ownsRow_nil _ _ _ _, HB.out⟩
  · have HL := Lib.hid (dropTo_length gone s)
    have HZ := Lib.hid (And.intro hWg (And.intro hnc (And.intro hcm hsz)))
    have hstart : ∃ cur, w1.heap[g]? = some (.cells cur 197 (0, 0)) ∧ cur.size = cap * 5 ∧ cur.toList.take (s.length * 5) = storeC (dropTo gone s 0) := ⟨cur, hg, hsz, by rw [dropTo_zero]; exact htk⟩
    have HS := Lib.hid hstart
    have HB := Lib.hid hb1
    generalize hlen : s.length = len at *
    have HLEN := Lib.hid hlen
    clear hlen hstart hWg hg hnc hcm hsz htk hol hb1
    go_wp2_with fail
    go_loopw [12, 6, 7] (fun i _ _ wr => ∃ k : Nat, k ≤ len ∧ i = .int .i64 k ∧ Hid (∃ cur, wr.heap[g]? = some (.cells cur 197 (0, 0)) ∧ cur.size = cap * 5 ∧ cur.toList.take (len * 5) = storeC (dropTo gone s k)) ∧ Hid (Below w.heap.size w wr)) (fun i _ _ _ => len - (intOf i).toNat)
    case atStart => exact ⟨0, Nat.zero_le _, rfl, HS, HB⟩
    case round =>
      obtain ⟨k, hk, rfl, hcu, hbe⟩ := hrel
      by_cases hlt : k < len
      · obtain ⟨cur, hg, hsz, htk⟩ := hcu.out
        obtain ⟨a, ha⟩ : ∃ a, s[k]? = some a := ⟨s[k]'(by have := HLEN.out; omega), List.getElem?_eq_getElem _⟩
        have hga := dropTo_get (gone := gone) ha
        have hsucc := dropTo_succ (gone := gone) ha
        have hlen' : (dropTo gone s k).length = len := HL.out k
        have hszl : len * 5 ≤ cur.size := by rw [hsz]; exact Nat.mul_le_mul_right 5 HZ.out.2.1
        have hcell : ∀ j, j < 5 → wr.cell? ⟨g, k * 5 + j, none⟩ = a.cells[j]? := fun j hj => by
          rw [cell_of_row _ _ _ _ _ _ hg, ← Array.getElem?_toList]
          have h2 : cur.toList[k * 5 + j]? = (storeC (dropTo gone s k))[k * 5 + j]? := by
            rw [← htk, List.getElem?_take_of_lt (by omega)]
          rw [h2]
          exact chunk_get VarM.len _ k j a hga hj
        have e4 := hcell 4 (by decide)
        have e3 := hcell 3 (by decide)
        have f : ∀ j, wr.frozen? ⟨g, j, none⟩ = false := fun j => frozen_of_row _ _ j _ _ hg
        have C2 := Lib.hid (less_any a.marks gone wr (HM.out a (List.mem_of_getElem? ha)))
        have hset1 := mark_set (dropTo gone s k) k a (lessN a.marks gone) cur hga (by rw [hlen']; exact htk)
        have hg1 := heap_setCell_same wr g (k * 5 + 4) _ _ (.int .u64 ((lessN a.marks gone : Nat) : Int)) hg
        have hbe1 := hbe.out.setCell (p := ⟨g, k * 5 + 4, none⟩) (HZ.out.1) (.int .u64 ((lessN a.marks gone : Nat) : Int))
        have j0 : (0 : Int) ≤ (k : Int) := by omega
        have j1 : (k : Int) < (len : Int) := by omega
        obtain ⟨ak, an, av, aw, am⟩ := a
        dsimp only [VarM.cells] at e3 e4
        simp at e3 e4
        by_cases hwr : aw = (gone : Int)
        · have hb : (aw == (gone : Int)) = true := by simpa using hwr
          have hset2 : ((cur.setIfInBounds (k * 5 + 4) (.int .u64 ((lessN am gone : Nat) : Int))).setIfInBounds (k * 5 + 3) (.int .i64 (-1))).toList.take (len * 5) = storeC (dropTo gone s (k + 1)) := by
            rw [take_set]
            rw [hlen'] at hset1
            rw [hset1]
            have h3 := chunk_set VarM.len ((dropTo gone s k).set k ⟨ak, an, av, aw, lessN am gone⟩) k 3 ⟨ak, an, av, aw, lessN am gone⟩ ⟨ak, an, av, -1, lessN am gone⟩ (.int .i64 (-1)) (by rw [List.getElem?_set_self (by rw [hlen']; exact hlt)]) (by decide) rfl
            rw [List.set_set] at h3
            rw [← hsucc]
            simp only [dropV, hwr, if_true]
            subst hwr
            exact h3
          have K1 := Lib.hid (And.intro hset2 (And.intro (heap_setCell_same _ g (k * 5 + 3) _ _ (.int .i64 (-1)) hg1) (And.intro hsz (hbe1.setCell (p := ⟨g, k * 5 + 3, none⟩) HZ.out.1 (.int .i64 (-1))))))
          clear hcell hset1 hset2 hg1 hbe1 hg hsz htk hga hsucc hlen' hszl ha hcu hbe hwr
          go_wp2_with fail
          refine (C2.out).mono ?_
          rintro e w3 ⟨rfl, rfl⟩
          go_wp2_with fail
          refine ⟨⟨k + 1, by omega, by go_num, Lib.hid ⟨_, K1.out.2.1, by simp [K1.out.2.2.1], K1.out.1⟩, Lib.hid K1.out.2.2.2⟩, by simp [intOf]; omega⟩
        · have hb : (aw == (gone : Int)) = false := by simpa using hwr
          have hset2 : (cur.setIfInBounds (k * 5 + 4) (.int .u64 ((lessN am gone : Nat) : Int))).toList.take (len * 5) = storeC (dropTo gone s (k + 1)) := by
            rw [hlen'] at hset1
            rw [hset1, ← hsucc]
            simp only [dropV, hwr, if_false]
          have K1 := Lib.hid (And.intro hset2 (And.intro hg1 (And.intro hsz hbe1)))
          clear hcell hset1 hset2 hg1 hbe1 hg hsz htk hga hsucc hlen' hszl ha hcu hbe hwr
          go_wp2_with fail
          refine (C2.out).mono ?_
          rintro e w3 ⟨rfl, rfl⟩
          go_wp2_with fail
          refine ⟨⟨k + 1, by omega, by go_num, Lib.hid ⟨_, K1.out.2.1, by simp [K1.out.2.2.1], K1.out.1⟩, Lib.hid K1.out.2.2.2⟩, by simp [intOf]; omega⟩
      · have e : k = len := by omega
        subst e
        go_wp2_with fail
        go_ret
        obtain ⟨cur, hg, hsz, htk⟩ := hcu.out
        have hd : dropTo gone s s.length = s.map (dropV gone) := dropTo_all gone s
        rw [HLEN.out] at hd
        rw [hd] at htk
        exact ⟨.slice (some ⟨g, 0, none⟩) k cap, rfl, by rw [HLEN.out]; exact ⟨by rw [storeC_length, List.length_map, HLEN.out], .inr ⟨g, cap, cur, rfl, HZ.out.1, hg, HZ.out.2.1, HZ.out.2.2.1, hsz, htk⟩⟩, hbe.out⟩
end Go.Proofs.YteflpdhgojcmcaaGreatDoor
namespace Go.Proofs.YteflpdhgojcmcaaGreatDoor
open Go.RowKit
theorem mul64_one (n : Nat) (hn : n ≤ 100000) (w : World) : Calls Tryz.prog 186 #[.int .u64 1, .int .u64 n] w fun e w' => e = .returned (.tuple #[.int .u64 0, .int .u64 n]) ∧ w = w' := by
  have a1 : bits .and .u64 (1 : Int) 4294967295 = 1 := by decide +kernel
  have a2 : bits .and .u64 (n : Int) 4294967295 = (n : Int) := by
    rw [low32 n (by omega)]
    rw [Nat.mod_eq_of_lt (by omega)]
  have a3 : bits .and .u64 (0 : Int) 4294967295 = 0 := by decide +kernel
  have a4 : (n : Int) / 4294967296 = 0 := by omega
  have b0 : (0 : Int) ≤ (n : Int) := by omega
  have b1 : (n : Int) ≤ 100000 := by omega
  go_enter Tryz.func186, Tryz.ntmps186
  go_wp2_with fail
  go_ret2
  exact ⟨rfl, rfl⟩
theorem mul_one (n : Nat) (hn : n ≤ 100000) (w : World) : Calls Tryz.prog 146 #[.int .u64 1, .int .u64 n] w fun e w' => e = .returned (.tuple #[.int .u64 0, .int .u64 n]) ∧ w = w' := by
  have C1 := Lib.hid (mul64_one n hn w)
  go_enter Tryz.func146, Tryz.ntmps146
  go_wp2_with fail
  refine (C1.out).mono ?_
  rintro e w' ⟨rfl, rfl⟩
  go_wp2_with fail
  go_ret2
  exact ⟨rfl, rfl⟩
theorem name_w {P : Program} {c : Code} {Q : Exit → Act → World → Prop} {a : Act} {w : World} (h : ∀ W, W = w → Code.wp P c Q a W) : Code.wp P c Q a w := h w rfl
/-- So many times the same cells. -/
def reps (z : List Value) (n : Nat) : List Value := (List.replicate n z).flatten
theorem reps_length (z : List Value) (n : Nat) : (reps z n).length = n * z.length := by
  unfold reps
  simp
theorem reps_add (z : List Value) (m n : Nat) : reps z (m + n) = reps z m ++ reps z n := by
  unfold reps
  rw [← List.replicate_append_replicate, List.flatten_append]
theorem reps_one (z : List Value) : reps z 1 = z := by simp [reps]
theorem reps_take (z : List Value) (m n : Nat) (h : m ≤ n) : (reps z n).take (m * z.length) = reps z m := by
  obtain ⟨d, rfl⟩ := Nat.exists_eq_add_of_le h
  rw [reps_add, ← reps_length, List.take_left]
theorem reps_all {z : List Value} (h : AllOne z) (n : Nat) : AllOne (reps z n) := fun u hu => by
  obtain ⟨l, hl, hul⟩ := List.mem_flatten.1 hu
  rw [List.eq_of_mem_replicate hl] at hul
  exact h u hul
section
variable {P : Program}
/-- copy, of elements of k cells. -/
theorem run_copy_rows (w : World) (dT sT ty elem : TypeId) (k m g o dLen dCap : Nat) (a : Addr) (sLen sCap : Nat) (cur : Array Value) (t : TypeId) (cs : List Value)
    (hu : P.underlying dT = some (.slice elem)) (hs : (P.info? elem).map (·.size) = some k)
    (hg : w.heap[g]? = some (.cells cur t (0, 0))) (hm : m = Nat.min sLen dLen) (hn : cs.length = m * k)
    (hsrc : ∀ j v, cs[j]? = some v → w.cell? (a.add j) = some v) (hfit : o + cs.length ≤ cur.size) (h1 : ∀ v ∈ cs, v.oneCell' = true) :
    (Builtin.copy_ #[dT, sT] ty #[.slice (some ⟨g, o, none⟩) dLen dCap, .slice (some a) sLen sCap]).run P w =
      .ok (goInt m) (w.setRow g (cur.toList.take o ++ cs ++ cur.toList.drop (o + cs.length)).toArray) := by
  have hl := run_loadCells_list (P := P) w a cs hsrc
  have hst := run_storeCells_at P g o t cs 0 cur w hg (by simpa using hfit) h1
  cases hq : P.info? elem with
  | none => simp [hq] at hs
  | some i =>
    have hi : i.size = k := by simpa [hq] using hs
    rw [hn] at hl
    simp [Builtin.copy_, run_underlying hu, Builtin.lenOf, Builtin.firstCells, sizeOf, typeInfo, hq, hi, ← hm, hl, hst]
theorem wp_copy_rows {w : World} {o : Oper} {a : Act} {K : Act → World → Prop} {Q : Exit → Act → World → Prop} (d s : Operand) (dT sT : TypeId)
    (ho : o.op = .call { callee := .builtin .copy, args := #[d, s], argTypes := #[dT, sT] }) (elem : TypeId) (k m : Nat) (hu : P.underlying dT = some (.slice elem)) (hsz : (P.info? elem).map (·.size) = some k)
    (g off dLen dCap : Nat) (ad : Addr) (sLen sCap : Nat) (hd : a.eval d = .slice (some ⟨g, off, none⟩) dLen dCap) (hs : a.eval s = .slice (some ad) sLen sCap)
    (cur : Array Value) (t : TypeId) (hg : w.heap[g]? = some (.cells cur t (0, 0))) (cs : List Value) (hm : m = Nat.min sLen dLen) (hn : cs.length = m * k)
    (hsrc : ∀ j v, cs[j]? = some v → w.cell? (ad.add j) = some v) (hfit : off + cs.length ≤ cur.size) (h1 : ∀ v ∈ cs, v.oneCell' = true)
    (h : K (a.put o.dst (goInt m)) (w.setRow g (cur.toList.take off ++ (cs ++ cur.toList.drop (off + cs.length))).toArray)) : o.wp P a w K Q := by
  have hrun := run_copy_rows (P := P) w dT sT o.type elem k m g off dLen dCap ad sLen sCap cur t cs hu hsz hg hm hn hsrc hfit h1
  unfold Oper.wp
  simp [execOp, ho, resolve, invoke, builtin, hd, hs, hrun, Result.andThen]
  exact h
theorem wpList_copy_rows {w : World} {ops : Array Oper} {rest : List Oper} {o : Oper} {a : Act} {Q : Exit → Act → World → Prop} (hgd : o.guard = none) (d s : Operand) (dT sT : TypeId)
    (ho : o.op = .call { callee := .builtin .copy, args := #[d, s], argTypes := #[dT, sT] }) (elem : TypeId) (k m : Nat) (hu : P.underlying dT = some (.slice elem)) (hsz : (P.info? elem).map (·.size) = some k)
    (g off dLen dCap : Nat) (ad : Addr) (sLen sCap : Nat) (hd : a.eval d = .slice (some ⟨g, off, none⟩) dLen dCap) (hs : a.eval s = .slice (some ad) sLen sCap)
    (cur : Array Value) (t : TypeId) (hg : w.heap[g]? = some (.cells cur t (0, 0))) (cs : List Value) (hm : m = Nat.min sLen dLen) (hn : cs.length = m * k)
    (hsrc : ∀ j v, cs[j]? = some v → w.cell? (ad.add j) = some v) (hfit : off + cs.length ≤ cur.size) (h1 : ∀ v ∈ cs, v.oneCell' = true)
    (h : wpList P ops Q rest (a.put o.dst (goInt m)) (w.setRow g (cur.toList.take off ++ (cs ++ cur.toList.drop (off + cs.length))).toArray)) : wpList P ops Q (o :: rest) a w := by
  refine wpList_plain hgd fun K hK => ?_
  have hrun := run_copy_rows (P := P) w dT sT o.type elem k m g off dLen dCap ad sLen sCap cur t cs hu hsz hg hm hn hsrc hfit h1
  unfold Oper.wp
  simp [execOp, ho, resolve, invoke, builtin, hd, hs, hrun, Result.andThen]
  exact hK _ _ h
end
end Go.Proofs.YteflpdhgojcmcaaGreatDoor
