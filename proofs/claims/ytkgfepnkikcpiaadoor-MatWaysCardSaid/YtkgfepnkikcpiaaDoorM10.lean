/- The same for the document's graphs (their array's type is another): held, loaded, stored, told apart. -/
import Derived.Test.YtkgfepnkikcpiaaDoorM9
import Derived.Test.YtkgfepnkikcpiaaDoorN2
import Derived.Test.YtkgfepnkikcpiaaDoorN3
namespace Go.Proofs.YtkgfepnkikcpiaaDoor
open Go.RowKit
open PSet PMat PWay

/-- The program's graphs of one list and the document's of another lie in their blocks. -/
def Both (w : World) (l l' : List (Nat × List Nat)) (X : World) : Prop := Held w l X ∧ ∀ p, p ∈ l' → Nums X p.1 41 p.2
theorem Both.to {w X Y : World} {l l' : List (Nat × List Nat)} (k : Both w l l' X) (hb : Below X.heap.size X Y) : Both w l l' Y :=
  ⟨k.1.to hb, fun p hp => (k.2 p hp).below hb (k.2 p hp).lt⟩
theorem Both.store {w W : World} {l l' : List (Nat × List Nat)} (k : Both w l l' W) (n : List Nat) : Both w ((W.heap.size, n) :: l) l' ((W.alloc (.cells (numsV zeros) 43)).setRow W.heap.size (numsV n)) :=
  ⟨k.1.store n, fun p hp => (k.2 p hp).below (below_stored (Below.refl W.heap.size W) (Nat.le_refl _) (numsV n) (numsV zeros)) (k.2 p hp).lt⟩
theorem nums41_stored (n : List Nat) (z : Array Value) (W : World) : Nums ((W.alloc (.cells z 41)).setRow W.heap.size (numsV n)) W.heap.size 41 n := block_setRow_same (heap_alloc_new _ _)
theorem nums41_zero (W : World) : Nums (W.alloc (.cells (numsV zeros) 41)) W.heap.size 41 zeros := heap_alloc_new _ _
theorem below_stored41 {B : Nat} {w W : World} (h : Below B w W) (hB : B ≤ W.heap.size) (n z : Array Value) : Below B w ((W.alloc (.cells z 41)).setRow W.heap.size n) := below_setRow' (h.alloc hB _) hB _
theorem Both.store41 {w W : World} {l l' : List (Nat × List Nat)} (k : Both w l l' W) (n : List Nat) : Both w l ((W.heap.size, n) :: l') ((W.alloc (.cells (numsV zeros) 41)).setRow W.heap.size (numsV n)) := by
  have hb : Below W.heap.size W ((W.alloc (.cells (numsV zeros) 41)).setRow W.heap.size (numsV n)) := below_stored41 (Below.refl W.heap.size W) (Nat.le_refl _) _ _
  refine ⟨k.1.to hb, fun p hp => ?_⟩
  rcases List.mem_cons.1 hp with rfl | hp
  · exact nums41_stored n _ W
  · exact (k.2 p hp).below hb (k.2 p hp).lt
theorem Both.drew {w X : World} {l l' : List (Nat × List Nat)} (k : Both w l l' X) : Both w l l' X.drew := ⟨⟨k.1.1, k.1.2.drew⟩, k.2⟩
theorem Both.tab {w X : World} {l l' : List (Nat × List Nat)} (hT : Tab w) (k : Both w l l' X) : Tab X := k.1.tab hT

theorem wpList_store_rv {ops : Array Oper} {rest : List Oper} {o : Oper} {a : Act} {w : World} {Q : Exit → Act → World → Prop} (hgd : o.guard = none) (x y : Operand) (ho : o.op = .store 41 x y)
    (g : Nat) (n : List Nat) (hn : n.length = 32) (hx : a.eval x = .pointer (some ⟨g, 0, none⟩)) (hy : a.eval y = .agg (valsV n).toArray) (old : List Nat) (hold : old.length = 32) (hg : Nums w g 41 old)
    (h : wpList Tryd.prog ops Q rest (a.put o.dst undef) (w.setRow g (numsV n))) : wpList Tryd.prog ops Q (o :: rest) a w :=
  wpList_store_row hgd 41 x y ho g (numsV n) hx hy 41 (numsV old) hg (size_rmat hn) (by rw [size_numsV, size_numsV, hn, hold]) (one_numsV n) h
theorem sizeRV {m : List Nat} (h : m.length = 32) : (Tryd.prog.info? 41).map (·.size) = some (valsV m).length := by rw [valsV_length, h]; exact size41
theorem range_of_nums41 {X : World} {g : Nat} {m : List Nat} (h : Nums X g 41 m) : X.rangeAt g 0 (valsV m) := by
  intro j v hv
  rw [Nat.zero_add, cell_of_row X g j _ 41 _ h]
  simpa [numsV, valsV] using hv

section
variable {l : List Oper} {Q : Exit → Act → World → Prop} {md : Region.Mode} {S : World → Prop}
theorem held_load41 (i : Nat) {oi : Oper} (x : Operand) (g : Nat) (m : List Nat) {fuel : Nat} {listed : Array Bool} {a : Act} {w : World} (hm : m.length = 32) (hi : nth l i = some oi) (ho : oi.op = .load 41 x)
    (hs : Region.noSelect l.toArray = true) (hf : Region.free md l.toArray listed i = true) (hr : (Region.ready md l.toArray listed).contains i = true)
    (hQ : ∀ c a w, Q (.panic c) (a.put oi.dst (.agg (valsV m).toArray)) w → Q (.panic c) a w) (hw : Region.wanted oi (yielded l.toArray a.tmps) = true)
    (hx : a.eval x = .pointer (some ⟨g, 0, none⟩)) (hg : ∀ w, S w → Nums w g 41 m) (hS : S w)
    (h : wpAnyH Tryd.prog md l.toArray Q S fuel (listed.setIfInBounds i true) (a.put oi.dst (.agg (valsV m).toArray)) w) : wpAnyH Tryd.prog md l.toArray Q S (fuel + 1) listed a w :=
  wpAnyH_take (nth_spec l i oi hi) hs hf hr hQ (yieldsIf_load_mid hw 41 x ho g 0 hx (valsV m) _ (fun w h => range_of_nums41 (hg w h)) Tryd.underlying41 rfl (sizeRV hm)) hS h
end
theorem run_eqGuard_rmat (x y : Array Value) (X Y : Operand) (w : World) : (eqGuard .eql 41 X Y (.agg x) (.agg y)).run Tryd.prog w = .ok () w := by
  have h : (program).run Tryd.prog w = .ok Tryd.prog w := rfl
  simp [eqGuard, Sem.run_bind, h, Result.andThen]
theorem exec_same41 (o : Oper) (x y : Operand) (r : TypeId) (ho : o.op = .binOp .eql 41 x y r) {a : Act} (m : List Nat) (hm : m.length = 32)
    (hx : a.eval x = .agg (valsV m).toArray) (hy : a.eval y = .agg (valsV m).toArray) (w : World) : (execOp a.eval o).run Tryd.prog w = .ok (.value (.bool true)) w := by
  have h : (binOp .eql 41 (.agg (valsV m).toArray) (.agg (valsV m).toArray)).run Tryd.prog w = .ok (.bool (decide (m = m))) w := run_eql_rmat m m w hm hm
  unfold execOp
  simp only [ho, hx, hy, Sem.run_bind, run_eqGuard_rmat, Result.andThen_ok, h, Sem.run_pure, decide_true]

theorem rput_v (m : List Nat) (a b : Int) (W : World) (hm : Mat m) : Calls Tryd.prog 33 #[.agg (valsV m).toArray, .int .i64 a, .int .i64 b] W fun e w' => e = .returned (.tuple #[.agg (valsV (putN m a b)).toArray, .bool (putB a b)]) ∧ Below W.heap.size W w' := rput_any m a b W hm
theorem rcut_v (m : List Nat) (a : Int) (W : World) (hm : Mat m) : Calls Tryd.prog 36 #[.agg (valsV m).toArray, .int .i64 a] W fun e w' => e = .returned (.agg (valsV (cutN m a)).toArray) ∧ Below W.heap.size W w' := rcut_any m a W hm
theorem rmhas_v (m : List Nat) (a b : Int) (W : World) (hm : Mat m) : Calls Tryd.prog 38 #[.agg (valsV m).toArray, .int .i64 a, .int .i64 b] W fun e w' => e = .returned (.bool (hasB (outsN m a) b)) ∧ Below W.heap.size W w' := rmhas_any m a b W hm
theorem routs_v (m : List Nat) (a : Int) (W : World) (hm : Mat m) : Calls Tryd.prog 40 #[.agg (valsV m).toArray, .int .i64 a] W fun e w' => e = .returned (.int .u64 (outsN m a : Nat)) ∧ Below W.heap.size W w' := routs_any m a W hm
theorem turn_v (m : List Nat) (W : World) (hm : Mat m) : Calls Tryd.prog 42 #[.agg (valsV m).toArray] W fun e w' => e = .returned (.agg (valsV (turnN m)).toArray) ∧ Below W.heap.size W w' := turn_any m W hm
end Go.Proofs.YtkgfepnkikcpiaaDoor
