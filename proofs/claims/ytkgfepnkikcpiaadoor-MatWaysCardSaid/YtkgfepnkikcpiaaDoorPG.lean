/- The three graphs at which the statements of layer 3 first look, and what is fixed of them. -/
import Derived.Test.YtkgfepnkikcpiaaDoorM6
namespace Go.Proofs.YtkgfepnkikcpiaaDoor
open PSet PMat PWay

theorem mat_of {l : List Nat} (h : l.length = 32) (h2 : ∀ x, x ∈ l → x < 2 ^ 64) : Mat l := by
  refine ⟨h, fun k => ?_⟩
  by_cases hk : k < l.length
  · have e : l.getD k 0 = l[k] := by simp [List.getD, hk]
    rw [e]
    exact h2 _ (List.getElem_mem hk)
  · have e : l.getD k 0 = 0 := by simp [List.getD, hk]
    rw [e]; decide
theorem mem_of_mat {l : List Nat} (h : Mat l) : ∀ x, x ∈ l → x < 2 ^ 64 := by
  intro x hx
  obtain ⟨k, hk, rfl⟩ := List.getElem_of_mem hx
  have := h.2 k
  simpa [List.getD, hk] using this

def G1 : List Nat := [2, 0, 0, 0, 0, 0, 0, 0, 0, 0, 0, 0, 0, 0, 0, 0, 0, 0, 0, 0, 0, 0, 0, 0, 0, 0, 0, 0, 0, 0, 0, 0]
def G2 : List Nat := [2, 4, 0, 0, 0, 0, 0, 0, 0, 0, 0, 0, 0, 0, 0, 0, 0, 0, 0, 0, 0, 0, 0, 0, 0, 0, 0, 0, 0, 0, 0, 0]
def G3 : List Nat := [2, 4, 1, 0, 0, 0, 0, 0, 0, 0, 0, 0, 0, 0, 0, 0, 0, 0, 0, 0, 0, 0, 0, 0, 0, 0, 0, 0, 0, 0, 0, 0]
def GC : List Nat := [0, 0, 1, 0, 0, 0, 0, 0, 0, 0, 0, 0, 0, 0, 0, 0, 0, 0, 0, 0, 0, 0, 0, 0, 0, 0, 0, 0, 0, 0, 0, 0]
theorem mat0 : Mat zeros := mat_of rfl (by decide +kernel)
theorem mat1 : Mat G1 := mat_of rfl (by decide +kernel)
theorem mat2 : Mat G2 := mat_of rfl (by decide +kernel)
theorem mat3 : Mat G3 := mat_of rfl (by decide +kernel)
theorem put01 : putN zeros 0 1 = G1 := by decide +kernel
theorem put12 : putN G1 1 2 = G2 := by decide +kernel
theorem put20 : putN G2 2 0 = G3 := by decide +kernel
theorem put11 : putN G2 1 1 = G2 := by decide +kernel
theorem is01 : putB 0 1 = true := by decide +kernel
theorem is12 : putB 1 2 = true := by decide +kernel
theorem is20 : putB 2 0 = true := by decide +kernel
theorem is11 : putB 1 1 = false := by decide +kernel
theorem outs21 : outsN G2 1 = 4 := by decide +kernel
theorem ins21 : insN G2 1 = 1 := by decide +kernel
theorem has201 : hasB (outsN G2 0) 1 = true := by decide +kernel
theorem cut31 : cutN G3 1 = GC := by decide +kernel

theorem reach_none {m : List Nat} {a : Int} (h : outsN m a = 0) : reachN m a = 0 := by
  unfold reachN
  rw [h]
  exact (Look.done (Look.start (by decide))).symm
theorem back_none {m : List Nat} {a : Int} (h : insN m a = 0) : backN m a = 0 := by
  unfold backN
  rw [h]
  exact (Look.done (Look.start (by decide))).symm

theorem reach20 : reachN G2 0 = 6 := by
  have h0 : outsN G2 0 = 2 := by decide +kernel
  have h1 : Look (outsN G2 0) (fun i => outsN G2 (i : Int)) 0 2 := by rw [h0]; exact Look.start (by decide)
  have h2 := h1.step (k := 1) (by decide +kernel) (by decide +kernel)
  have e2 : withN 0 ((1 : Nat) : Int) = 2 := by decide +kernel
  have f2 : ((2 ||| outsN G2 ((1 : Nat) : Int)) &&& (18446744073709551615 - 2)) = 4 := by decide +kernel
  rw [e2, f2] at h2
  have h3 := h2.step (k := 2) (by decide +kernel) (by decide +kernel)
  have e3 : withN 2 ((2 : Nat) : Int) = 6 := by decide +kernel
  have f3 : ((4 ||| outsN G2 ((2 : Nat) : Int)) &&& (18446744073709551615 - 6)) = 0 := by decide +kernel
  rw [e3, f3] at h3
  exact h3.done.symm
theorem reach21 : reachN G2 1 = 4 := by
  have h0 : outsN G2 1 = 4 := by decide +kernel
  have h1 : Look (outsN G2 1) (fun i => outsN G2 (i : Int)) 0 4 := by rw [h0]; exact Look.start (by decide)
  have h3 := h1.step (k := 2) (by decide +kernel) (by decide +kernel)
  have e3 : withN 0 ((2 : Nat) : Int) = 4 := by decide +kernel
  have f3 : ((4 ||| outsN G2 ((2 : Nat) : Int)) &&& (18446744073709551615 - 4)) = 0 := by decide +kernel
  rw [e3, f3] at h3
  exact h3.done.symm
theorem back22 : backN G2 2 = 3 := by
  have h0 : insN G2 2 = 2 := by decide +kernel
  have h1 : Look (insN G2 2) (fun i => insN G2 (i : Int)) 0 2 := by rw [h0]; exact Look.start (by decide)
  have h2 := h1.step (k := 1) (by decide +kernel) (by decide +kernel)
  have e2 : withN 0 ((1 : Nat) : Int) = 2 := by decide +kernel
  have f2 : ((2 ||| insN G2 ((1 : Nat) : Int)) &&& (18446744073709551615 - 2)) = 1 := by decide +kernel
  rw [e2, f2] at h2
  have h3 := h2.step (k := 0) (by decide +kernel) (by decide +kernel)
  have e3 : withN 2 ((0 : Nat) : Int) = 3 := by decide +kernel
  have f3 : ((1 ||| insN G2 ((0 : Nat) : Int)) &&& (18446744073709551615 - 3)) = 0 := by decide +kernel
  rw [e3, f3] at h3
  exact h3.done.symm
theorem free2 : freeB G2 = true := by
  rw [freeB_true]
  intro i hi
  match i, hi with
  | 0, _ => rw [show ((0 : Nat) : Int) = 0 from rfl, reach20]; decide +kernel
  | 1, _ => rw [show ((1 : Nat) : Int) = 1 from rfl, reach21]; decide +kernel
  | i + 2, hi =>
    have h : ∀ j, j < 30 → outsN G2 ((j + 2 : Nat) : Int) = 0 := by decide +kernel
    rw [reach_none (h i (by omega))]
    unfold hasB
    rw [Nat.zero_testBit, Bool.and_false]
theorem free3 : freeB G3 = false := by
  apply freeB_not (i := 0) (by decide)
  have p : Path (outsN G3 0) (fun i => outsN G3 (i : Int)) 0 :=
    .step (i := 2) (.step (i := 1) (.one (by decide +kernel)) (by decide +kernel)) (by decide +kernel)
  have h := (testBit_setOf _ 0 (by decide)).2 p
  show hasB (reachN G3 ((0 : Nat) : Int)) ((0 : Nat) : Int) = true
  rw [hasB_nat _ 0 (by decide)]
  exact h
end Go.Proofs.YtkgfepnkikcpiaaDoor
