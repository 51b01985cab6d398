/- The walks of code.Right and its closure. The walks of package block's small functions: give, ended, number, variable, last and again without frames. The walk of core.worth, of the operations that put a number, a variable, or nothing into a register. The walk of core.last and core.again where there is no frame. The walk of core.does, where an operation puts a number or a variable into a register. The walks of core.does, of the operations that read, write, jump by a number, give up, or end. No conditions but those that each theorem names. -/
import Derived.Test.YteflpdhgojcmcaaGreatDoorU01
import Derived.Test.YteflpdhgojcmcaaGreatDoorU15
import Derived.Deep.Cut
import Derived.StillTailTactics
namespace Go.Proofs.YteflpdhgojcmcaaGreatDoor
open Go.RowKit
def OpM.zero : OpM := ⟨0, 0, 0, 0, 0⟩
/-- Operations lie in a row. -/
def OpsAt (w : World) (b off : Nat) (l : List OpM) : Prop := b < w.heap.size ∧ ∀ i, i < l.length → w.rangeAt b (off + i * 5) (l.getD i OpM.zero).cells
theorem OpsAt.below {w w' : World} {b off : Nat} {l : List OpM} (h : OpsAt w b off l) (hb : Below w.heap.size w w') : OpsAt w' b off l :=
  ⟨Nat.lt_of_lt_of_le h.1 hb.size, fun i hi j v hj => (hb.cell (p := ⟨b, off + i * 5 + j, none⟩) h.1).trans (h.2 i hi j v hj)⟩
theorem right1_any (o : OpM) (g : Nat) (v : Option Addr) (n c : Nat) (w : World) (hg : w.cell? ⟨g, 0, none⟩ = some (.slice v n c)) :
    Calls Tryz.prog 68 #[.agg o.cells.toArray, .pointer (some ⟨g, 0, none⟩)] w fun e w' => e = .returned (.bool (!rightB o n)) ∧ Below w.heap.size w w' := by
  have hlt : g < w.heap.size := block_lt_of_cell hg
  obtain ⟨x0, x1, x2, x3, x4⟩ := o
  have C := Lib.hid (right_any ⟨x0, x1, x2, x3, x4⟩ n)
  dsimp only [OpM.cells]
  go_enter Tryz.func68, Tryz.ntmps68
  go_wp2_with fail
  refine (C.out _).mono ?_
  rintro e w1 ⟨rfl, hb⟩
  have HB := Lib.hid (((Below.refl _ _).alloc (Nat.le_refl _) (.cells #[.int .i64 x0, .int .i64 x1, .int .i64 x2, .int .i64 x3, .int .i64 x4] 50)).trans (hb.mono (B' := w.heap.size) (by simp)))
  clear hb
  go_wp2_with fail
  go_ret
  exact ⟨rfl, HB.out⟩
/-- May there be such a block? -/
def rightL (l : List OpM) : Bool := decide (1 ≤ l.length) && decide (l.length ≤ 200) && !anyB (fun i => !rightB (l.getD i OpM.zero) l.length) l.length
theorem call68 (args : Array Value) (W : World) : (callFunc 68 args).run Tryz.prog W = .ok (.enter 68 args) W := by kernel_rfl
theorem Right_any (a : Option Addr) (c : Nat) (l : List OpM) (w : World) (hl : l.length ≤ 9223372036854775807) (ha : 0 < l.length → ∃ b off, a = some ⟨b, off, none⟩ ∧ OpsAt w b off l) :
    Calls Tryz.prog 35 #[.slice a l.length c] w fun e w' => e = .returned (.bool (rightL l)) ∧ Below w.heap.size w w' := by
  have hmf : ∀ (fn : Fn) (first cap : Array Value) (w : World), (Instr.makeFunc fn first cap).run Tryz.prog w = .ok (.func fn first cap) w := fun _ _ _ _ => rfl
  by_cases h1 : 1 ≤ l.length
  · by_cases h2 : l.length ≤ 200
    · obtain ⟨b, off, rfl, hat⟩ := ha h1
      have e : rightL l = !anyB (fun i => !rightB (l.getD i OpM.zero) l.length) l.length := by
        unfold rightL
        rw [decide_eq_true h1, decide_eq_true h2]
        rfl
      rw [e]
      have hw1 : OpsAt (w.alloc (.cells #[.slice (some ⟨b, off, none⟩) l.length c] 51)) b off l := hat.below ((Below.refl _ _).alloc (Nat.le_refl _) _)
      have hc := contains67 _ _ (fun i => !rightB (l.getD i OpM.zero) l.length) l.length _ (idx107 68 (.pointer (some ⟨w.heap.size, 0, none⟩)) b off l.length c (fun i => (l.getD i OpM.zero).cells) _ _ hl (fun i => rfl) hw1.2 (fun _ => hw1.1) call68
        (fun i hi W hb => right1_any (l.getD i OpM.zero) w.heap.size (some ⟨b, off, none⟩) l.length c W ((hb.cell (p := ⟨w.heap.size, 0, none⟩) (by simp)).trans (new_cell _ _ _ _))))
      generalize anyB (fun i => !rightB (l.getD i OpM.zero) l.length) l.length = r at *
      generalize l.length = n at *
      have C := Lib.hid hc
      have g1 : (1 : Int) ≤ (n : Int) := by omega
      have g2 : (n : Int) ≤ 200 := by omega
      clear e hw1 hc hat ha h1 h2 hl
      go_enter Tryz.func35, Tryz.ntmps35
      go_wp2_with fail
      refine (C.out).mono ?_
      rintro e w1 ⟨rfl, hb⟩
      have HB := Lib.hid (((Below.refl w.heap.size w).alloc (Nat.le_refl _) (.cells #[.slice (some ⟨b, off, none⟩) n c] 51)).trans (hb.mono (B' := w.heap.size) (by simp)))
      clear hb
      go_wp2_with fail
      go_ret
      exact ⟨rfl, HB.out⟩
    · have e : rightL l = false := by
        unfold rightL
        rw [decide_eq_false h2]
        simp
      rw [e]
      generalize l.length = n at *
      have g1 : (1 : Int) ≤ (n : Int) := by omega
      have g2 : (200 : Int) < (n : Int) := by omega
      clear e ha h1 h2 hl
      go_enter Tryz.func35, Tryz.ntmps35
      go_wp2_with fail
      go_ret
      exact ⟨rfl, (Below.refl _ _).alloc (Nat.le_refl _) _⟩
  · have e : rightL l = false := by
      unfold rightL
      rw [decide_eq_false h1]
      rfl
    rw [e]
    have hz : l.length = 0 := by omega
    rw [hz]
    clear e ha h1 hl hz
    go_enter Tryz.func35, Tryz.ntmps35
    go_wp2_with fail
    go_ret
    exact ⟨rfl, (Below.refl _ _).alloc (Nat.le_refl _) _⟩
end Go.Proofs.YteflpdhgojcmcaaGreatDoor
namespace Go.Proofs.YteflpdhgojcmcaaGreatDoor
open Go.RowKit
theorem below_drewN {B : Nat} {a w : World} (h : Below B a w) (n : Nat) : Below B a (w.drewN n) := ⟨h.os, h.tape, h.output, h.size, h.block⟩
/-- What gives up: a panic of block.ends. -/
def Gives (k : Int) (w : World) (e : Ending) (w' : World) : Prop := e = .panicked [{ v := .iface 274 (.int .i64 k), recovered := false }] ∧ w = w'
theorem give_any (k : Int) (w : World) : Calls Tryz.prog 192 #[.int .i64 k] w (Gives k w) := by
  go_enter Tryz.func192, Tryz.ntmps192
  go_wp2_with fail
  exact ⟨rfl, rfl, rfl⟩
theorem ended_any (k : Int) (w : World) : Calls Tryz.prog 154 #[.int .i64 k] w fun e w' => e = .returned (.agg #[.int .i64 5, .int .i64 0, .int .i64 0, .int .i64 0, .int .i64 0, .int .i64 0, .int .i64 k]) ∧ w' = w.alloc (.cells #[.int .i64 5, .int .i64 0, .int .i64 0, .int .i64 0, .int .i64 0, .int .i64 0, .int .i64 k] 217) := by
  go_enter Tryz.func154, Tryz.ntmps154
  go_wp2_with fail
  exact bodyPost_ret (by simp [results, Tryz.results154, go_sem]) rfl ⟨rfl, rfl⟩
theorem number_yes (q u : Nat) (r : Nat) (hr : r < 8) (n : Int) (w : World) (h0 : w.cell? ⟨q, 0, none⟩ = some (.pointer (some ⟨u, 0, none⟩)))
    (h1 : w.cell? ⟨u, 2 + r * 2, none⟩ = some (.int .i64 1)) (h2 : w.cell? ⟨u, 2 + r * 2 + 1, none⟩ = some (.int .i64 n)) :
    Calls Tryz.prog 191 #[.pointer (some ⟨q, 0, none⟩), .int .i64 r] w fun e w' => e = .returned (.agg #[.int .i64 1, .int .i64 n]) ∧ Below w.heap.size w w' := by
  have g1 : (0 : Int) ≤ (r : Int) := by omega
  have g2 : (r : Int) < 8 := by omega
  have l0 : q < w.heap.size := block_lt_of_cell h0
  have l1 : u < w.heap.size := block_lt_of_cell h1
  go_enter Tryz.func191, Tryz.ntmps191
  go_wp2_with fail
  refine bodyPost_ret (v := .agg #[.int .i64 1, .int .i64 n]) (by simp [results, Tryz.results191, go_sem]) rfl ⟨rfl, ?_⟩
  exact ((Below.refl _ _).alloc (Nat.le_refl _) _).alloc (by simp) _
theorem variable_yes (q u : Nat) (r : Nat) (hr : r < 8) (n vars : Int) (w : World) (h0 : w.cell? ⟨q, 0, none⟩ = some (.pointer (some ⟨u, 0, none⟩))) (h6 : w.cell? ⟨q, 6, none⟩ = some (.int .i64 vars))
    (h1 : w.cell? ⟨u, 2 + r * 2, none⟩ = some (.int .i64 2)) (h2 : w.cell? ⟨u, 2 + r * 2 + 1, none⟩ = some (.int .i64 n)) (hn : 0 ≤ n) (hv : n < vars) :
    Calls Tryz.prog 190 #[.pointer (some ⟨q, 0, none⟩), .int .i64 r] w fun e w' => e = .returned (.int .i64 n) ∧ Below w.heap.size w w' := by
  have g1 : (0 : Int) ≤ (r : Int) := by omega
  have g2 : (r : Int) < 8 := by omega
  have l0 : q < w.heap.size := block_lt_of_cell h0
  have l1 : u < w.heap.size := block_lt_of_cell h1
  go_enter Tryz.func190, Tryz.ntmps190
  go_wp2_with fail
  go_quiet (fail)
  go_wp2
  go_ret
  exact ⟨rfl, below_drewN ((Below.refl _ _).alloc (Nat.le_refl _) _) _⟩
end Go.Proofs.YteflpdhgojcmcaaGreatDoor
namespace Go.Proofs.YteflpdhgojcmcaaGreatDoor
open Go.RowKit
/-- A core in a block: where its cpu is, its operation, how many variables there are. -/
def coreC (u : Nat) (o : OpM) (vars : Int) : Array Value := #[.pointer (some ⟨u, 0, none⟩), .int .i64 o.code, .int .i64 o.a, .int .i64 o.b, .int .i64 o.c, .int .i64 o.n, .int .i64 vars]
def CoreAt (w : World) (q u : Nat) (o : OpM) (vars : Int) : Prop := w.heap[q]? = some (.cells (coreC u o vars) 278 (0, 0))
theorem CoreAt.cells {w : World} {q u : Nat} {o : OpM} {vars : Int} (h : CoreAt w q u o vars) :
    w.cell? ⟨q, 0, none⟩ = some (.pointer (some ⟨u, 0, none⟩)) ∧ w.cell? ⟨q, 1, none⟩ = some (.int .i64 o.code) ∧ w.cell? ⟨q, 2, none⟩ = some (.int .i64 o.a) ∧ w.cell? ⟨q, 3, none⟩ = some (.int .i64 o.b) ∧
    w.cell? ⟨q, 4, none⟩ = some (.int .i64 o.c) ∧ w.cell? ⟨q, 5, none⟩ = some (.int .i64 o.n) ∧ w.cell? ⟨q, 6, none⟩ = some (.int .i64 vars) ∧ q < w.heap.size :=
  ⟨cell_of_row _ _ _ _ _ _ h, cell_of_row _ _ _ _ _ _ h, cell_of_row _ _ _ _ _ _ h, cell_of_row _ _ _ _ _ _ h, cell_of_row _ _ _ _ _ _ h, cell_of_row _ _ _ _ _ _ h, cell_of_row _ _ _ _ _ _ h, block_lt h⟩
theorem worth_set (q u : Nat) (x1 x2 x3 n vars : Int) (w : World) (hc : CoreAt w q u ⟨0, x1, x2, x3, n⟩ vars) :
    Calls Tryz.prog 189 #[.pointer (some ⟨q, 0, none⟩)] w fun e w' => e = .returned (.tuple #[.agg #[.int .i64 1, .int .i64 n], .bool true]) ∧ Below w.heap.size w w' := by
  obtain ⟨c0, c1, c2, c3, c4, c5, c6, l0⟩ := hc.cells
  clear hc
  go_enter Tryz.func189, Tryz.ntmps189
  go_wp2_with fail
  exact bodyPost_ret (v := .tuple #[.agg #[.int .i64 1, .int .i64 n], .bool true]) (by simp [results, Tryz.results189, go_sem]) rfl ⟨rfl, ((Below.refl _ _).alloc (Nat.le_refl _) _).alloc (by simp) _⟩
theorem worth_ref (q u : Nat) (x1 x2 x3 n vars : Int) (w : World) (hc : CoreAt w q u ⟨2, x1, x2, x3, n⟩ vars) :
    Calls Tryz.prog 189 #[.pointer (some ⟨q, 0, none⟩)] w fun e w' => e = .returned (.tuple #[.agg #[.int .i64 2, .int .i64 x2], .bool true]) ∧ Below w.heap.size w w' := by
  obtain ⟨c0, c1, c2, c3, c4, c5, c6, l0⟩ := hc.cells
  clear hc
  go_enter Tryz.func189, Tryz.ntmps189
  go_wp2_with fail
  exact bodyPost_ret (v := .tuple #[.agg #[.int .i64 2, .int .i64 x2], .bool true]) (by simp [results, Tryz.results189, go_sem]) rfl ⟨rfl, ((Below.refl _ _).alloc (Nat.le_refl _) _).alloc (by simp) _⟩
theorem worth_other (q u : Nat) (x0 x1 x2 x3 n vars : Int) (w : World) (hc : CoreAt w q u ⟨x0, x1, x2, x3, n⟩ vars) (h8 : 8 ≤ x0) :
    Calls Tryz.prog 189 #[.pointer (some ⟨q, 0, none⟩)] w fun e w' => e = .returned (.tuple #[.agg #[.int .i64 0, .int .i64 0], .bool false]) ∧ Below w.heap.size w w' := by
  obtain ⟨c0, c1, c2, c3, c4, c5, c6, l0⟩ := hc.cells
  have e0 : (x0 == 0) = false := by simp; omega
  have e1 : (x0 == 1) = false := by simp; omega
  have e2 : (x0 == 2) = false := by simp; omega
  have e3 : (x0 == 3) = false := by simp; omega
  have e4 : (x0 == 4) = false := by simp; omega
  have e5 : (x0 == 5) = false := by simp; omega
  have e6 : (x0 == 6) = false := by simp; omega
  have e7 : (x0 == 7) = false := by simp; omega
  clear hc
  go_enter Tryz.func189, Tryz.ntmps189
  go_wp2_with fail
  exact bodyPost_ret (v := .tuple #[.agg #[.int .i64 0, .int .i64 0], .bool false]) (by simp [results, Tryz.results189, go_sem]) rfl ⟨rfl, ((Below.refl _ _).alloc (Nat.le_refl _) _).alloc (by simp) _⟩
end Go.Proofs.YteflpdhgojcmcaaGreatDoor
namespace Go.Proofs.YteflpdhgojcmcaaGreatDoor
open Go.RowKit
/-- A frame of nothing. -/
def zeroFrame : Array Value := #[.int .i64 0, .int .i64 0, .int .i64 0, .int .i64 0, .int .i64 0, .int .i64 0, .int .i64 0, .int .i64 0, .int .i64 0, .int .i64 0, .int .i64 0, .int .i64 0, .int .i64 0, .int .i64 0, .int .i64 0, .int .i64 0, .int .i64 0, .int .i64 0]
theorem zeroFrame_one : zeroFrame.all (·.oneCell') = true := by simp [zeroFrame, Value.oneCell']
set_option maxRecDepth 100000 in
theorem last_no (q u : Nat) (a : Option Addr) (c : Nat) (w : World) (h0 : w.cell? ⟨q, 0, none⟩ = some (.pointer (some ⟨u, 0, none⟩))) (h1 : w.cell? ⟨u, 18, none⟩ = some (.slice a 0 c)) :
    Calls Tryz.prog 194 #[.pointer (some ⟨q, 0, none⟩)] w fun e w' => e = .returned (.tuple #[.agg zeroFrame, .bool false]) ∧ Below w.heap.size w w' := by
  have l0 : q < w.heap.size := block_lt_of_cell h0
  have l1 : u < w.heap.size := block_lt_of_cell h1
  obtain ⟨W, hW⟩ : ∃ W, W = w.alloc (.cells zeroFrame 272) := ⟨_, rfl⟩
  have hb : Below w.heap.size w W := by rw [hW]; exact (Below.refl _ _).alloc (Nat.le_refl _) _
  have hz : W.heap[w.heap.size]? = some (.cells zeroFrame 272 (0, 0)) := by rw [hW]; exact Go.heap_alloc_new _ _
  have k0 := (hb.cell (p := ⟨q, 0, none⟩) l0).trans h0
  have k1 := (hb.cell (p := ⟨u, 18, none⟩) l1).trans h1
  have HW := Lib.hid hW
  have HB := Lib.hid hb
  have HZ := Lib.hid hz
  clear hW hb hz h0 h1
  go_enter Tryz.func194, Tryz.ntmps194
  go_upto_region 1 with (fail)
  change Code.wp _ _ _ _ (w.alloc (.cells zeroFrame 272))
  rw [← HW.out]
  go_wp2_with (refine wpList_store_row rfl 272 _ _ rfl w.heap.size zeroFrame rfl rfl 272 zeroFrame HZ.out (by kernel_rfl) rfl zeroFrame_one ?_)
  refine bodyPost_ret (results_cell_tmp rfl _ _ w.heap.size 272 zeroFrame (0, 0) _ rfl (block_setRow_same HZ.out) Tryz.underlying272 rfl (by kernel_rfl)) rfl ⟨rfl, ?_⟩
  exact below_setRow' HB.out (Nat.le_refl _) _
theorem again_no (q u : Nat) (a : Option Addr) (c : Nat) (w : World) (h0 : w.cell? ⟨q, 0, none⟩ = some (.pointer (some ⟨u, 0, none⟩))) (h1 : w.cell? ⟨u, 18, none⟩ = some (.slice a 0 c)) :
    Calls Tryz.prog 195 #[.pointer (some ⟨q, 0, none⟩)] w fun e w' => e = .panicked [{ v := .iface 274 (.int .i64 1), recovered := false }] ∧ Below w.heap.size w w' := by
  have l0 : q < w.heap.size := block_lt_of_cell h0
  have l1 : u < w.heap.size := block_lt_of_cell h1
  have C := Lib.hid (last_no q u a c)
  go_enter Tryz.func195, Tryz.ntmps195
  go_wp2_with fail
  have h0' := (World.cell?_alloc_past (w := w) (.cells #[.int .i64 0, .int .i64 0, .int .i64 0, .int .i64 0, .int .i64 0, .int .i64 0, .int .i64 0] 217) q 0 l0).trans h0
  have h1' := (World.cell?_alloc_past (w := w) (.cells #[.int .i64 0, .int .i64 0, .int .i64 0, .int .i64 0, .int .i64 0, .int .i64 0, .int .i64 0] 217) u 18 l1).trans h1
  refine (C.out _ h0' h1').mono ?_
  rintro e w1 ⟨rfl, hb⟩
  have HB := Lib.hid (((Below.refl w.heap.size w).alloc (Nat.le_refl _) (.cells #[.int .i64 0, .int .i64 0, .int .i64 0, .int .i64 0, .int .i64 0, .int .i64 0, .int .i64 0] 217)).trans (hb.mono (B' := w.heap.size) (by simp)))
  clear hb h0' h1' h0 h1
  have hz := Go.heap_alloc_new w1 (.cells zeroFrame 272)
  have HZ := Lib.hid hz
  clear hz
  go_wp2_with (refine wpList_store_row rfl 272 _ _ rfl w1.heap.size zeroFrame rfl rfl 272 zeroFrame HZ.out (by kernel_rfl) rfl zeroFrame_one ?_)
  refine (give_any 1 _).mono ?_
  rintro e w2 ⟨rfl, rfl⟩
  refine ⟨rfl, rfl, ?_⟩
  exact below_setRow' (HB.out.alloc HB.out.size _) HB.out.size _
end Go.Proofs.YteflpdhgojcmcaaGreatDoor
namespace Go.Proofs.YteflpdhgojcmcaaGreatDoor
open Go.RowKit
/-- What a step asks for. -/
def askC (kind x a to vk vn fin : Int) : Array Value := #[.int .i64 kind, .int .i64 x, .int .i64 a, .int .i64 to, .int .i64 vk, .int .i64 vn, .int .i64 fin]
theorem askC_one (a b c d e f g : Int) : (askC a b c d e f g).all (·.oneCell') = true := by simp [askC, Value.oneCell']
theorem name_world {P : Program} {c : Code} {Q : Exit → Act → World → Prop} {a : Act} {w : World} (h : ∀ W, W = w → Code.wp P c Q a W) : Code.wp P c Q a w := h w rfl
theorem CoreAt.keep {w w' : World} {q u : Nat} {o : OpM} {vars : Int} (h : CoreAt w q u o vars) (e : w'.heap[q]? = w.heap[q]?) : CoreAt w' q u o vars := e.trans h
theorem arr_get (cs : Array Value) (i : Nat) (h : i < cs.size) : cs[i]? = some (cs.getD i undef) := by simp [Array.getD, h]
/-- The world behind does' first steps: its answer's and its operation's variables are new, the place is one more. -/
def begun (w : World) (u : Nat) (o : OpM) (pc : Int) : World := ((w.setCell ⟨u, 0, none⟩ (.int .i64 (pc + 1))).alloc (.cells (askC 0 0 0 0 0 0 0) 217)).alloc (.cells o.cells.toArray 50)
structure Begun (w W : World) (q u : Nat) (o : OpM) (vars pc : Int) (cs : Array Value) : Prop where
  core : CoreAt W q u o vars
  cpu : W.heap[u]? = some (.cells (cs.setIfInBounds 0 (.int .i64 (pc + 1))) 94 (0, 0))
  ask : W.heap[w.heap.size]? = some (.cells (askC 0 0 0 0 0 0 0) 217 (0, 0))
  op : W.heap[w.heap.size + 1]? = some (.cells o.cells.toArray 50 (0, 0))
  size : W.heap.size = w.heap.size + 2
  chg : Chg (· = u) w W
theorem begun_is {w : World} {q u : Nat} {o : OpM} {vars pc : Int} {cs : Array Value} (hc : CoreAt w q u o vars) (hu : w.heap[u]? = some (.cells cs 94 (0, 0))) (hqu : q ≠ u) : Begun w (begun w u o pc) q u o vars pc cs := by
  have lq : q < w.heap.size := block_lt hc
  have lu : u < w.heap.size := block_lt hu
  have s0 : (w.setCell ⟨u, 0, none⟩ (.int .i64 (pc + 1))).heap.size = w.heap.size := by simp [World.setCell]
  refine ⟨?_, ?_, ?_, ?_, ?_, ?_⟩
  · refine hc.keep ?_
    unfold begun
    rw [heap_alloc_old _ _ (by simp; omega), heap_alloc_old _ _ (by rw [s0]; exact lq), heap_setCell_other _ _ _ _ hqu]
  · unfold begun
    rw [heap_alloc_old _ _ (by simp; omega), heap_alloc_old _ _ (by rw [s0]; exact lu)]
    exact heap_setCell_same _ _ _ _ _ _ hu
  · unfold begun
    rw [heap_alloc_old _ _ (by simp), ← s0]
    exact Go.heap_alloc_new _ _
  · unfold begun
    rw [← s0]
    exact heap_alloc2_new _ _ _
  · unfold begun
    simp
  · exact (((Chg.refl (· = u) w).setCell (p := ⟨u, 0, none⟩) (.inl rfl) _).alloc _).alloc _
set_option maxRecDepth 100000 in
theorem does_put (q u A : Nat) (x0 x2 x3 n vars pc k m : Int) (cs : Array Value) (w : World) (hc : CoreAt w q u ⟨x0, A, x2, x3, n⟩ vars) (hA : A < 8)
    (hu : w.heap[u]? = some (.cells cs 94 (0, 0))) (hs : cs.size = 19) (hpc : cs[0]? = some (.int .i64 pc)) (hp0 : 0 ≤ pc) (hp1 : pc ≤ 1000) (hqu : q ≠ u)
    (hw : ∀ W, CoreAt W q u ⟨x0, A, x2, x3, n⟩ vars → Calls Tryz.prog 189 #[.pointer (some ⟨q, 0, none⟩)] W fun e w' => e = .returned (.tuple #[.agg #[.int .i64 k, .int .i64 m], .bool true]) ∧ Below W.heap.size W w') :
    Calls Tryz.prog 156 #[.pointer (some ⟨q, 0, none⟩)] w fun e w' => e = .returned (.agg (askC 0 0 0 0 0 0 0)) ∧
      w'.heap[u]? = some (.cells (((cs.setIfInBounds 0 (.int .i64 (pc + 1))).setIfInBounds (2 + A * 2) (.int .i64 k)).setIfInBounds (2 + A * 2 + 1) (.int .i64 m)) 94 (0, 0)) ∧ Chg (· = u) w w' := by
  obtain ⟨c0, c1, c2, c3, c4, c5, c6, l0⟩ := hc.cells
  have d0 : w.cell? ⟨u, 0, none⟩ = some (.int .i64 pc) := (cell_of_row _ _ _ _ _ _ hu).trans hpc
  have f0 : ∀ j, w.frozen? ⟨u, j, none⟩ = false := fun j => frozen_of_row _ _ j _ _ hu
  have l1 : u < w.heap.size := block_lt hu
  have HC := Lib.hid hc
  have HU := Lib.hid hu
  have HW := Lib.hid hw
  clear hc hu hw hpc
  go_enter Tryz.func156, Tryz.ntmps156
  go_upto_region 3 with (fail)
  change Code.wp _ _ _ _ (begun w u ⟨x0, A, x2, x3, n⟩ pc)
  have hb := begun_is (pc := pc) HC.out HU.out hqu
  generalize begun w u ⟨x0, A, x2, x3, n⟩ pc = W at *
  have HB := Lib.hid hb
  clear hb
  go_wp2_with fail
  refine (HW.out W HB.out.core).mono ?_
  rintro e w2 ⟨rfl, hb2⟩
  have e0 : w2.cell? ⟨q, 0, none⟩ = some (.pointer (some ⟨u, 0, none⟩)) := (hb2.cell (p := ⟨q, 0, none⟩) (block_lt HB.out.core)).trans HB.out.core.cells.1
  have e1 : w2.cell? ⟨w.heap.size + 1, 1, none⟩ = some (.int .i64 A) := (hb2.cell (p := ⟨w.heap.size + 1, 1, none⟩) (block_lt HB.out.op)).trans (cell_of_row _ _ _ _ _ _ HB.out.op)
  have l2 : q < w2.heap.size := block_lt_of_cell e0
  have l3 : w.heap.size + 1 < w2.heap.size := block_lt_of_cell e1
  have l4 : u < w2.heap.size := Nat.lt_of_lt_of_le (block_lt HB.out.cpu) hb2.size
  have l5 : w.heap.size < w2.heap.size := by omega
  have HB2 := Lib.hid hb2
  clear hb2
  go_wp2_with fail
  have HW3 : ∃ W3, W3 = w2.alloc (.cells #[.int .i64 k, .int .i64 m] 53) := ⟨_, rfl⟩
  obtain ⟨W3, hW3⟩ := HW3
  have k0 : W3.cell? ⟨q, 0, none⟩ = some (.pointer (some ⟨u, 0, none⟩)) := by rw [hW3]; exact (World.cell?_alloc_past _ _ _ l2).trans e0
  have k1 : W3.cell? ⟨w.heap.size + 1, 1, none⟩ = some (.int .i64 A) := by rw [hW3]; exact (World.cell?_alloc_past _ _ _ l3).trans e1
  have k2 : W3.cell? ⟨w2.heap.size, 0, none⟩ = some (.int .i64 k) := by rw [hW3]; exact new_cell _ _ _ _
  have k3 : W3.cell? ⟨w2.heap.size, 1, none⟩ = some (.int .i64 m) := by rw [hW3]; exact new_cell _ _ _ _
  have hb3 : Below W.heap.size W W3 := by rw [hW3]; exact HB2.out.alloc HB2.out.size _
  have hu3 := (hb3.block u (block_lt HB.out.cpu)).trans HB.out.cpu
  have ha3 := (hb3.block _ (block_lt HB.out.ask)).trans HB.out.ask
  rw [← hW3]
  have HW3 := Lib.hid hW3
  have HB3 := Lib.hid hb3
  have HU3 := Lib.hid hu3
  have HA3 := Lib.hid ha3
  have n1 : ¬ w.heap.size = u := by omega
  have n2 : ¬ w.heap.size + 1 = u := by omega
  have n3 : ¬ w2.heap.size = u := by omega
  have n4 : ¬ q = u := hqu
  have g1 : (0 : Int) ≤ (A : Int) := by omega
  have g2 : (A : Int) < 8 := by omega
  have g3 : W3.cell? ⟨u, 2 + A * 2, none⟩ = some ((cs.setIfInBounds 0 (.int .i64 (pc + 1))).getD (2 + A * 2) undef) := by
    rw [cell_of_row _ _ _ _ _ _ hu3]
    exact arr_get _ _ (by simp [hs]; omega)
  have g4 : W3.cell? ⟨u, 2 + A * 2 + 1, none⟩ = some ((cs.setIfInBounds 0 (.int .i64 (pc + 1))).getD (2 + A * 2 + 1) undef) := by
    rw [cell_of_row _ _ _ _ _ _ hu3]
    exact arr_get _ _ (by simp [hs]; omega)
  have g5 : W3.frozen? ⟨u, 2 + A * 2, none⟩ = false := frozen_of_row _ _ _ _ _ hu3
  have g6 : W3.frozen? ⟨u, 2 + A * 2 + 1, none⟩ = false := frozen_of_row _ _ _ _ _ hu3
  generalize (cs.setIfInBounds 0 (.int .i64 (pc + 1))).getD (2 + A * 2) undef = y0 at *
  generalize (cs.setIfInBounds 0 (.int .i64 (pc + 1))).getD (2 + A * 2 + 1) undef = y1 at *
  clear hW3 hb3 hu3 ha3 e0 e1 c0 c1 c2 c3 c4 c5 c6 d0 f0 l0 l1 l2 l3 l4 l5
  go_still_tail 10, (by kernel_rfl)
  change wpList _ _ _ _ _ W3.drew
  go_upto_region 6 with (fail)
  refine name_world ?_
  intro W4 hW4
  have hu4 : W4.heap[u]? = some (.cells (((cs.setIfInBounds 0 (.int .i64 (pc + 1))).setIfInBounds (2 + A * 2) (.int .i64 k)).setIfInBounds (2 + A * 2 + 1) (.int .i64 m)) 94 (0, 0)) := by
    rw [hW4]
    exact heap_setCell_same _ _ _ _ _ _ (heap_setCell_same _ _ _ _ _ _ HU3.out)
  have ha4 : W4.heap[w.heap.size]? = some (.cells (askC 0 0 0 0 0 0 0) 217 (0, 0)) := by
    rw [hW4]
    exact (heap_setCell_other _ _ _ _ n1).trans ((heap_setCell_other _ _ _ _ n1).trans HA3.out)
  have hb4 : Chg (· = u) w W4 := by
    rw [hW4]
    exact ((((HB.out.chg).below HB3.out HB.out.chg.size).drew).setCell (p := ⟨u, 2 + A * 2, none⟩) (.inl rfl) _).setCell (p := ⟨u, 2 + A * 2 + 1, none⟩) (.inl rfl) _
  have HU4 := Lib.hid hu4
  have HA4 := Lib.hid ha4
  have HB4 := Lib.hid hb4
  clear hW4 hu4 ha4 hb4
  go_wp2_with (refine wpList_store_row rfl 217 _ _ rfl w.heap.size (askC 0 0 0 0 0 0 0) rfl rfl 217 (askC 0 0 0 0 0 0 0) HA4.out (by kernel_rfl) rfl (askC_one _ _ _ _ _ _ _) ?_)
  refine bodyPost_ret (results_cell_row rfl _ _ w.heap.size 217 (askC 0 0 0 0 0 0 0) (0, 0) _ rfl (block_setRow_same HA4.out) Tryz.underlying217 rfl (by kernel_rfl)) rfl ⟨rfl, ?_, ?_⟩
  · exact (setRow_other _ _ _ _ (fun e => n1 e.symm)).trans HU4.out
  · exact HB4.out.setRow (.inr (Nat.le_refl _)) _
end Go.Proofs.YteflpdhgojcmcaaGreatDoor
namespace Go.Proofs.YteflpdhgojcmcaaGreatDoor
open Go.RowKit
/-- An answer's variable, cell by cell. -/
theorem ask_cells {w : World} {g : Nat} {a b c d e f h : Int} (hg : w.heap[g]? = some (.cells (askC a b c d e f h) 217 (0, 0))) :
    w.cell? ⟨g, 0, none⟩ = some (.int .i64 a) ∧ w.cell? ⟨g, 1, none⟩ = some (.int .i64 b) ∧ w.cell? ⟨g, 2, none⟩ = some (.int .i64 c) ∧ w.cell? ⟨g, 3, none⟩ = some (.int .i64 d) ∧ w.cell? ⟨g, 4, none⟩ = some (.int .i64 e) ∧
    w.cell? ⟨g, 5, none⟩ = some (.int .i64 f) ∧ w.cell? ⟨g, 6, none⟩ = some (.int .i64 h) ∧ (∀ j, w.frozen? ⟨g, j, none⟩ = false) :=
  ⟨cell_of_row _ _ _ _ _ _ hg, cell_of_row _ _ _ _ _ _ hg, cell_of_row _ _ _ _ _ _ hg, cell_of_row _ _ _ _ _ _ hg, cell_of_row _ _ _ _ _ _ hg, cell_of_row _ _ _ _ _ _ hg, cell_of_row _ _ _ _ _ _ hg, fun j => frozen_of_row _ _ j _ _ hg⟩
/-- An answer stored, cell by cell. -/
def setAsk (w : World) (g : Nat) (a b c d e f h : Int) : World :=
  ((((((w.setCell ⟨g, 0, none⟩ (.int .i64 a)).setCell ⟨g, 1, none⟩ (.int .i64 b)).setCell ⟨g, 2, none⟩ (.int .i64 c)).setCell ⟨g, 3, none⟩ (.int .i64 d)).setCell ⟨g, 4, none⟩ (.int .i64 e)).setCell ⟨g, 5, none⟩ (.int .i64 f)).setCell ⟨g, 6, none⟩ (.int .i64 h)
theorem setAsk_same {w : World} {g : Nat} {a' b' c' d' e' f' h' : Int} (hg : w.heap[g]? = some (.cells (askC a' b' c' d' e' f' h') 217 (0, 0))) (a b c d e f h : Int) :
    (setAsk w g a b c d e f h).heap[g]? = some (.cells (askC a b c d e f h) 217 (0, 0)) := by
  have h1 := heap_setCell_same w g 0 _ _ (.int .i64 a) hg
  have h2 := heap_setCell_same _ g 1 _ _ (.int .i64 b) h1
  have h3 := heap_setCell_same _ g 2 _ _ (.int .i64 c) h2
  have h4 := heap_setCell_same _ g 3 _ _ (.int .i64 d) h3
  have h5 := heap_setCell_same _ g 4 _ _ (.int .i64 e) h4
  have h6 := heap_setCell_same _ g 5 _ _ (.int .i64 f) h5
  have h7 := heap_setCell_same _ g 6 _ _ (.int .i64 h) h6
  unfold setAsk
  rw [h7]
  simp [askC]
theorem setAsk_other (w : World) (g k : Nat) (a b c d e f h : Int) (hk : k ≠ g) : (setAsk w g a b c d e f h).heap[k]? = w.heap[k]? :=
  (heap_setCell_other _ _ _ _ hk).trans ((heap_setCell_other _ _ _ _ hk).trans ((heap_setCell_other _ _ _ _ hk).trans ((heap_setCell_other _ _ _ _ hk).trans ((heap_setCell_other _ _ _ _ hk).trans ((heap_setCell_other _ _ _ _ hk).trans (heap_setCell_other _ _ _ _ hk))))))
theorem setAsk_chg {F : Nat → Prop} {w0 w : World} {g : Nat} (hw : Chg F w0 w) (hg : F g ∨ w0.heap.size ≤ g) (a b c d e f h : Int) : Chg F w0 (setAsk w g a b c d e f h) :=
  ((((((hw.setCell (p := ⟨g, 0, none⟩) hg _).setCell (p := ⟨g, 1, none⟩) hg _).setCell (p := ⟨g, 2, none⟩) hg _).setCell (p := ⟨g, 3, none⟩) hg _).setCell (p := ⟨g, 4, none⟩) hg _).setCell (p := ⟨g, 5, none⟩) hg _).setCell (p := ⟨g, 6, none⟩) hg _
set_option maxRecDepth 100000 in
theorem does_read (q u : Nat) (A B : Nat) (x3 n m : Int) (vars pc : Int) (cs : Array Value) (w : World) (hc : CoreAt w q u ⟨8, A, B, x3, n⟩ vars)
    (hu : w.heap[u]? = some (.cells cs 94 (0, 0))) (hpc : cs[0]? = some (.int .i64 pc)) (hp0 : 0 ≤ pc) (hp1 : pc ≤ 1000) (hqu : q ≠ u) (hB : B < 8) (hk : cs[2 + B * 2]? = some (.int .i64 2)) (hm : cs[2 + B * 2 + 1]? = some (.int .i64 m)) (hm0 : 0 ≤ m) (hmv : m < vars) :
    Calls Tryz.prog 156 #[.pointer (some ⟨q, 0, none⟩)] w fun e w' => e = .returned (.agg (askC 1 m A 0 0 0 0)) ∧ w'.heap[u]? = some (.cells (cs.setIfInBounds 0 (.int .i64 (pc + 1))) 94 (0, 0)) ∧ Chg (· = u) w w' := by
  obtain ⟨c0, c1, c2, c3, c4, c5, c6, l0⟩ := hc.cells
  have d0 : w.cell? ⟨u, 0, none⟩ = some (.int .i64 pc) := (cell_of_row _ _ _ _ _ _ hu).trans hpc
  have f0 : ∀ j, w.frozen? ⟨u, j, none⟩ = false := fun j => frozen_of_row _ _ j _ _ hu
  have l1 : u < w.heap.size := block_lt hu
  have HC := Lib.hid hc
  have HU := Lib.hid hu
  clear hc hu hpc
  go_enter Tryz.func156, Tryz.ntmps156
  go_upto_region 3 with (fail)
  change Code.wp _ _ _ _ (begun w u ⟨8, A, B, x3, n⟩ pc)
  have hb := begun_is (pc := pc) HC.out HU.out hqu
  generalize begun w u ⟨8, A, B, x3, n⟩ pc = W at *
  have HB := Lib.hid hb
  clear hb
  go_wp2_with fail
  refine (worth_other q u _ _ _ _ _ _ W HB.out.core (by omega)).mono ?_
  rintro e w2 ⟨rfl, hb2⟩
  have hc2 := HB.out.core.keep (hb2.block q (block_lt HB.out.core))
  have hu2 := (hb2.block u (block_lt HB.out.cpu)).trans HB.out.cpu
  have ho2 := (hb2.block _ (block_lt HB.out.op)).trans HB.out.op
  have ha2 := (hb2.block _ (block_lt HB.out.ask)).trans HB.out.ask
  have hg2 := HB.out.chg.below hb2 HB.out.chg.size
  have o0 := cell_of_row _ _ 0 _ _ _ ho2
  have o1 := cell_of_row _ _ 1 _ _ _ ho2
  have o2 := cell_of_row _ _ 2 _ _ _ ho2
  have o3 := cell_of_row _ _ 3 _ _ _ ho2
  have o4 := cell_of_row _ _ 4 _ _ _ ho2
  dsimp only [OpM.cells] at o0 o1 o2 o3 o4
  simp at o0 o1 o2 o3 o4
  have l2 : w.heap.size + 1 < w2.heap.size := block_lt ho2
  have l3 : q < w2.heap.size := block_lt hc2
  have l4 : u < w2.heap.size := block_lt hu2
  have l5 : w.heap.size < w2.heap.size := block_lt ha2
  have HC2 := Lib.hid hc2
  have HU2 := Lib.hid hu2
  have HO2 := Lib.hid ho2
  have HA2 := Lib.hid ha2
  clear hc2 hu2 ho2 ha2 hb2
  clear HB c0 c1 c2 c3 c4 c5 c6 d0 f0
  have HG2 := Lib.hid hg2
  clear hg2
  go_upto_region 17 with (fail)
  refine name_world ?_
  intro W3 hW3
  have hb3 : Below w2.heap.size w2 W3 := by rw [hW3]; exact (Below.refl _ _).alloc (Nat.le_refl _) _
  have hc3 := HC2.out.keep (hb3.block q l3)
  have hu3 := (hb3.block u l4).trans HU2.out
  have ha3 := (hb3.block _ l5).trans HA2.out
  have hg3 := HG2.out.below hb3 HG2.out.size
  replace o0 := (hb3.cell (p := ⟨w.heap.size + 1, 0, none⟩) l2).trans o0
  replace o1 := (hb3.cell (p := ⟨w.heap.size + 1, 1, none⟩) l2).trans o1
  replace o2 := (hb3.cell (p := ⟨w.heap.size + 1, 2, none⟩) l2).trans o2
  replace o3 := (hb3.cell (p := ⟨w.heap.size + 1, 3, none⟩) l2).trans o3
  replace o4 := (hb3.cell (p := ⟨w.heap.size + 1, 4, none⟩) l2).trans o4
  replace l2 := Nat.lt_of_lt_of_le l2 hb3.size
  replace l3 := Nat.lt_of_lt_of_le l3 hb3.size
  replace l4 := Nat.lt_of_lt_of_le l4 hb3.size
  replace l5 := Nat.lt_of_lt_of_le l5 hb3.size
  have HC3 := Lib.hid hc3
  have HU3 := Lib.hid hu3
  have HA3 := Lib.hid ha3
  have HG3 := Lib.hid hg3
  have n1 : ¬ w.heap.size = u := by omega
  clear hW3 hb3 hc3 hu3 ha3 hg3 HC2 HU2 HO2 HA2 HG2
  have r0 : W3.cell? ⟨u, 2 + B * 2, none⟩ = some (.int .i64 2) := by
    rw [cell_of_row _ _ _ _ _ _ HU3.out]
    rw [Array.getElem?_setIfInBounds_ne (by omega)]
    exact hk
  have r1 : W3.cell? ⟨u, 2 + B * 2 + 1, none⟩ = some (.int .i64 m) := by
    rw [cell_of_row _ _ _ _ _ _ HU3.out]
    rw [Array.getElem?_setIfInBounds_ne (by omega)]
    exact hm
  have HK := Lib.hid hk
  have HM := Lib.hid hm
  have R0 := Lib.hid r0
  have R1 := Lib.hid r1
  clear hk hm r0 r1
  go_region_held3 (fun w' => w'.cell? ⟨w.heap.size + 1, 1, none⟩ = some (.int .i64 A) ∧ w'.cell? ⟨w.heap.size + 1, 2, none⟩ = some (.int .i64 B)) (first | go_keep | (exact ⟨(hb5.cell (p := ⟨w.heap.size + 1, 1, none⟩) l2).trans o1, (hb5.cell (p := ⟨w.heap.size + 1, 2, none⟩) l2).trans o2⟩))
    ((go_at_call 190; refine (variable_yes q u B hB m vars _ (by exact HC3.out.cells.1) (by exact HC3.out.cells.2.2.2.2.2.2.1) (by exact R0.out) (by exact R1.out) hm0 hmv).mono ?_; rintro e w5 ⟨rfl, hb5⟩; obtain ⟨p0, p1, p2, p3, p4, p5, p6, pf⟩ := ask_cells ((hb5.block _ l5).trans HA3.out)))
  have HA5 := (hb5.block _ l5).trans HA3.out
  have HU5 := (hb5.block _ l4).trans HU3.out
  have HG5 := (HG3.out.drew).below hb5 HG3.out.size
  have H5 := Lib.hid (And.intro HA5 (And.intro HU5 HG5))
  clear HA5 HU5 HG5 hb5 p0 p1 p2 p3 p4 p5 p6 pf
  go_wp2
  refine bodyPost_ret (results_cell_row rfl _ _ w.heap.size 217 (askC 1 m A 0 0 0 0) (0, 0) _ rfl (setAsk_same H5.out.1 1 m A 0 0 0 0) Tryz.underlying217 rfl (by kernel_rfl)) rfl ⟨rfl, ?_, ?_⟩
  · exact (setAsk_other _ _ _ _ _ _ _ _ _ _ (fun e => n1 e.symm)).trans H5.out.2.1
  · exact setAsk_chg H5.out.2.2 (.inr (Nat.le_refl _)) _ _ _ _ _ _ _
end Go.Proofs.YteflpdhgojcmcaaGreatDoor
