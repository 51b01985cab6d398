/- One operation after the other in a region that draws its order: a graph's load, whatever yields, a call. -/
import Derived.Test.YtkgfepnkikcpiaaDoorM8
namespace Go.Proofs.YtkgfepnkikcpiaaDoor
open Go.RowKit
open PSet PMat PWay

/-- The operation at a place of a list. -/
def nth : List Oper → Nat → Option Oper
  | [], _ => none
  | o :: _, 0 => some o
  | _ :: l, i + 1 => nth l i
theorem nth_spec : ∀ (l : List Oper) (i : Nat) (o : Oper), nth l i = some o → l.toArray[i]? = some o
  | [], _, _, h => by cases h
  | _ :: _, 0, _, h => by simpa [nth] using h
  | _ :: l, i + 1, o, h => by
      have := nth_spec l i o h
      simpa using this

section
variable {l : List Oper} {Q : Exit → Act → World → Prop} {md : Region.Mode} {S : World → Prop}

theorem held_do (i : Nat) {oi : Oper} {v : Value} {fuel : Nat} {listed : Array Bool} {a : Act} {w : World} (hi : nth l i = some oi)
    (hs : Region.noSelect l.toArray = true) (hf : Region.free md l.toArray listed i = true) (hr : (Region.ready md l.toArray listed).contains i = true)
    (hQ : ∀ c a w, Q (.panic c) (a.put oi.dst v) w → Q (.panic c) a w) (hw : Region.wanted oi (yielded l.toArray a.tmps) = true) (hS : S w)
    (hy : ∀ w, S w → (execOp a.eval oi).run Tryd.prog w = .ok (.value v) w)
    (h : wpAnyH Tryd.prog md l.toArray Q S fuel (listed.setIfInBounds i true) (a.put oi.dst v) w) : wpAnyH Tryd.prog md l.toArray Q S (fuel + 1) listed a w :=
  wpAnyH_take (nth_spec l i oi hi) hs hf hr hQ (Or.inl ⟨hw, hy⟩) hS h
theorem held_load (i : Nat) {oi : Oper} (x : Operand) (g : Nat) (m : List Nat) {fuel : Nat} {listed : Array Bool} {a : Act} {w : World} (hm : m.length = 32) (hi : nth l i = some oi) (ho : oi.op = .load 43 x)
    (hs : Region.noSelect l.toArray = true) (hf : Region.free md l.toArray listed i = true) (hr : (Region.ready md l.toArray listed).contains i = true)
    (hQ : ∀ c a w, Q (.panic c) (a.put oi.dst (.agg (valsV m).toArray)) w → Q (.panic c) a w) (hw : Region.wanted oi (yielded l.toArray a.tmps) = true)
    (hx : a.eval x = .pointer (some ⟨g, 0, none⟩)) (hg : ∀ w, S w → Nums w g 43 m) (hS : S w)
    (h : wpAnyH Tryd.prog md l.toArray Q S fuel (listed.setIfInBounds i true) (a.put oi.dst (.agg (valsV m).toArray)) w) : wpAnyH Tryd.prog md l.toArray Q S (fuel + 1) listed a w :=
  wpAnyH_take (nth_spec l i oi hi) hs hf hr hQ (yieldsIf_load_mid hw 43 x ho g 0 hx (valsV m) _ (fun w h => range_of_nums (hg w h)) Tryd.underlying43 rfl (sizeV hm)) hS h
theorem held_call (i : Nat) {oi : Oper} {fuel : Nat} {listed : Array Bool} {a : Act} {w : World} (hi : nth l i = some oi) (hr : Region.ready md l.toArray listed = [i])
    (h : ∀ K' : Act → World → Prop, Shut (∀ a w, S w → (S w → wpAnyH Tryd.prog md l.toArray Q S fuel (listed.setIfInBounds i true) a w) → K' a w) → if Region.wanted oi (yielded l.toArray a.tmps) = true then Oper.wp Tryd.prog oi a w K' Q else K' (a.put oi.dst undef) w) :
    wpAnyH Tryd.prog md l.toArray Q S (fuel + 1) listed a w :=
  wpAnyH_ready hr (by simp) (AllReadyH.cons (nth_spec l i oi hi) h .nil)
theorem held_done {listed : Array Bool} {a : Act} {w : World} {fuel : Nat} (hr : Region.ready md l.toArray listed = []) (h : Q .normal a w) : wpAnyH Tryd.prog md l.toArray Q S fuel listed a w := wpAnyH_done hr h fuel
end

theorem run_eqGuard_mat (x y : Array Value) (X Y : Operand) (w : World) : (eqGuard .eql 43 X Y (.agg x) (.agg y)).run Tryd.prog w = .ok () w := by
  have h : (program).run Tryd.prog w = .ok Tryd.prog w := rfl
  simp [eqGuard, Sem.run_bind, h, Result.andThen]
theorem exec_eq (o : Oper) (x y : Operand) (r : TypeId) (ho : o.op = .binOp .eql 43 x y r) {a : Act} (m n : List Nat) (hm : m.length = 32) (hn : n.length = 32)
    (hx : a.eval x = .agg (valsV m).toArray) (hy : a.eval y = .agg (valsV n).toArray) (w : World) : (execOp a.eval o).run Tryd.prog w = .ok (.value (.bool (decide (m = n)))) w := by
  have h : (binOp .eql 43 (.agg (valsV m).toArray) (.agg (valsV n).toArray)).run Tryd.prog w = .ok (.bool (decide (m = n))) w := run_eql_mat m n w hm hn
  unfold execOp
  simp only [ho, hx, hy, Sem.run_bind, run_eqGuard_mat, Result.andThen_ok, h, Sem.run_pure]
end Go.Proofs.YtkgfepnkikcpiaaDoor
