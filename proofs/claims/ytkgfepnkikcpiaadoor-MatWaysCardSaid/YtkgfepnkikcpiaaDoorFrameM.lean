/- A graph that came in as an argument: its value, and that its 32 numbers are of 64 bits. -/
import Derived.Test.YtkgfepnkikcpiaaDoorFrame
import Derived.Test.YtkgfepnkikcpiaaDoorM7
namespace Go.Proofs.YtkgfepnkikcpiaaDoor
open Go.ChangeShapes Go.WideShapes Go.ChangeAt Go.RowKit
open PMat

theorem cells41 : Tryd.prog.cellsOf 41 = 32 := by kernel_rfl

theorem open_mat {H : Type} {enc : TypeId × Value → H} {W : World} {base : Nat} {v : Value} {d : DataW H} {ps : List MemPlace} (hval : Value.okWide Tryd.prog W .any base 41 v) (h : DataW.Trod enc Tryd.prog W 0 (fun _ => true) true 41 v d ps) :
    ∃ m : List Nat, v = matV m ∧ Mat m := by
  simp only [Value.okWide, Tryd.underlying41] at hval
  obtain ⟨cs, rfl, hsz, _⟩ := hval
  obtain ⟨fuel, hf⟩ := h
  obtain ⟨xs, m, rfl, _, hlen, hn, hel⟩ := DataW.trod_array Tryd.underlying41 hf
  rw [cells41] at hsz
  have hc : (Value.agg cs).cells.toList = cs.toList := rfl
  rw [hc] at hel
  have each : ∀ i, i < 32 → ∃ n : Nat, cs.toList[i]? = some (numV n) ∧ n < 2 ^ 64 := by
    intro i hi
    have h1 := hel i hi
    rw [cells22] at h1
    obtain ⟨y, hy⟩ : ∃ y, xs[i]? = some y := ⟨xs[i], by simp⟩
    rw [hy, Nat.mul_one] at h1
    obtain ⟨n, e, _, hw⟩ := DataW.trod_int Tryd.underlying22 h1
    have hb := bounds_u64 hw
    obtain ⟨k, rfl⟩ := Int.eq_ofNat_of_zero_le hb.1
    refine ⟨k, ?_, by omega⟩
    have := congrArg (·[0]?) e
    simpa [List.getElem?_take, List.getElem?_drop, numV] using this
  refine ⟨cs.toList.map fun v => match v with | .int _ n => n.toNat | _ => 0, ?_, ?_⟩
  · unfold matV numsV
    congr 1
    apply Array.ext'
    simp only [List.map_map]
    symm
    apply List.ext_getElem?
    intro i
    by_cases hi : i < 32
    · obtain ⟨n, hn, _⟩ := each i hi
      rw [List.getElem?_map, hn]
      simp [numV]
    · rw [List.getElem?_eq_none (by simp; omega), List.getElem?_eq_none (by simp; omega)]
  · apply mat_of
    · simp; omega
    · intro x hx
      obtain ⟨v, hv, rfl⟩ := List.mem_map.1 hx
      obtain ⟨i, hi, rfl⟩ := List.getElem_of_mem hv
      obtain ⟨n, hn, hlt⟩ := each i (by simpa [hsz] using hi)
      rw [List.getElem?_eq_getElem hi] at hn
      injection hn with hn
      rw [hn]
      simpa [numV] using hlt
end Go.Proofs.YtkgfepnkikcpiaaDoor
