/- Whether two graphs are the same, as the machine asks it: number by number. -/
import Derived.Test.YtkgfepnkikcpiaaDoorM1
import Derived.ChangeKeysEq
namespace Go.Proofs.YtkgfepnkikcpiaaDoor
open Go.RowKit
open PSet PMat

theorem some25 : (Tryd.prog.info? 25).isSome = true := by kernel_rfl
theorem some22 : (Tryd.prog.info? 22).isSome = true := by kernel_rfl
theorem plain25 : Tryd.prog.plainKey 25 = true := by kernel_rfl
theorem plain22 : Tryd.prog.plainKey 22 = true := by kernel_rfl
theorem cells25 : Tryd.prog.cellsOf 25 = 1 := by kernel_rfl
theorem cells22 : Tryd.prog.cellsOf 22 = 1 := by kernel_rfl

theorem run_eqItems_nums (d : Nat) (e : TypeId) (he : Tryd.prog.plainKey e = true) (hc : Tryd.prog.cellsOf e = 1) (hu : ∃ k, Tryd.prog.underlying e = some (.int k)) (l l' : List Nat) (w : World) : ∀ is : List Nat, (∀ i, i ∈ is → i < l.length ∧ i < l'.length) →
    (Op.eqItems (d + 1) e (Tryd.prog.cellsOf e) (numsV l) (numsV l') is).run Tryd.prog w = .ok (is.all fun i => l.getD i 0 == l'.getD i 0) w
  | [], _ => by simp [Op.eqItems]
  | i :: is, h => by
    obtain ⟨h1, h2⟩ := h i (by simp)
    have ih := run_eqItems_nums d e he hc hu l l' w is (fun j hj => h j (by simp [hj]))
    obtain ⟨k, hk⟩ := hu
    have p1 := run_part_plain (w := w) he (get_numsV l i h1)
    have p2 := run_part_plain (w := w) he (get_numsV l' i h2)
    have p3 := run_equalIn_int (P := Tryd.prog) w d e .u64 k ((l.getD i 0 : Nat) : Int) ((l'.getD i 0 : Nat) : Int) hk
    rw [hc] at ih ⊢
    simp only [Op.eqItems, Sem.run_bind, Nat.mul_one, p1, p2, p3, Result.andThen_ok, List.all_cons]
    have e : (((l.getD i 0 : Nat) : Int) == ((l'.getD i 0 : Nat) : Int)) = (l.getD i 0 == l'.getD i 0) := by
      rw [Bool.eq_iff_iff, beq_iff_eq, beq_iff_eq]
      omega
    rw [e]
    cases hb : (l.getD i 0 == l'.getD i 0)
    · simp
    · simp only [Bool.not_true, Bool.false_eq_true, if_false, Bool.true_and]
      exact ih

theorem all_eq {l l' : List Nat} (h : l.length = 32) (h' : l'.length = 32) : ((List.range 32).all fun i => l.getD i 0 == l'.getD i 0) = decide (l = l') := by
  rw [Bool.eq_iff_iff, List.all_eq_true, decide_eq_true_eq]
  constructor
  · intro hh
    apply List.ext_getElem (by rw [h, h'])
    intro i h1 h2
    have := hh i (by simp; omega)
    rw [beq_iff_eq] at this
    simpa [List.getD, h1, h2] using this
  · rintro rfl i _
    simp

theorem run_eql_mat (l l' : List Nat) (w : World) (h : l.length = 32) (h' : l'.length = 32) :
    (binOp .eql 43 (.agg (numsV l)) (.agg (numsV l'))).run Tryd.prog w = .ok (.bool (decide (l = l'))) w := by
  obtain ⟨i, hi⟩ := Option.isSome_iff_exists.1 some25
  rw [run_eql_struct, run_equalIn_array (P := Tryd.prog) w 9999 (numsV l) (numsV l') Tryd.underlying43 hi, run_eqItems_nums 9998 25 plain25 cells25 ⟨_, Tryd.underlying25⟩ l l' w (List.range 32) (fun j hj => by simp at hj; omega)]
  simp only [Result.andThen_ok, all_eq h h']
theorem run_eql_rmat (l l' : List Nat) (w : World) (h : l.length = 32) (h' : l'.length = 32) :
    (binOp .eql 41 (.agg (numsV l)) (.agg (numsV l'))).run Tryd.prog w = .ok (.bool (decide (l = l'))) w := by
  obtain ⟨i, hi⟩ := Option.isSome_iff_exists.1 some22
  rw [run_eql_struct, run_equalIn_array (P := Tryd.prog) w 9999 (numsV l) (numsV l') Tryd.underlying41 hi, run_eqItems_nums 9998 22 plain22 cells22 ⟨_, Tryd.underlying22⟩ l l' w (List.range 32) (fun j hj => by simp at hj; omega)]
  simp only [Result.andThen_ok, all_eq h h']

/-- The same, as the walk lays the question open. -/
theorem run_equalIn_mat (l l' : List Nat) (w : World) (h : l.length = 32) (h' : l'.length = 32) :
    (Op.equalIn 10000 43 (.agg (numsV l)) (.agg (numsV l'))).run Tryd.prog w = .ok (decide (l = l')) w := by
  obtain ⟨i, hi⟩ := Option.isSome_iff_exists.1 some25
  rw [run_equalIn_array (P := Tryd.prog) w 9999 (numsV l) (numsV l') Tryd.underlying43 hi, run_eqItems_nums 9998 25 plain25 cells25 ⟨_, Tryd.underlying25⟩ l l' w (List.range 32) (fun j hj => by simp at hj; omega), all_eq h h']
theorem run_equalIn_rmat (l l' : List Nat) (w : World) (h : l.length = 32) (h' : l'.length = 32) :
    (Op.equalIn 10000 41 (.agg (numsV l)) (.agg (numsV l'))).run Tryd.prog w = .ok (decide (l = l')) w := by
  obtain ⟨i, hi⟩ := Option.isSome_iff_exists.1 some22
  rw [run_equalIn_array (P := Tryd.prog) w 9999 (numsV l) (numsV l') Tryd.underlying41 hi, run_eqItems_nums 9998 22 plain22 cells22 ⟨_, Tryd.underlying22⟩ l l' w (List.range 32) (fun j hj => by simp at hj; omega), all_eq h h']
end Go.Proofs.YtkgfepnkikcpiaaDoor
