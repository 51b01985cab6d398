/- Arrays of bools and of numbers that lie in a block of their own: what a cell of them holds, and what a store into one makes of them. -/
import Derived.Test.YtkgfepnkikcpiaaDoorS5
import Derived.Laws.Rows
namespace Go.Proofs.YtkgfepnkikcpiaaDoor
open Go.RowKit

def boolsV (l : List Bool) : Array Value := (l.map Value.bool).toArray
def numV (n : Nat) : Value := .int .u64 (n : Int)
def numsV (l : List Nat) : Array Value := (l.map numV).toArray

theorem size_boolsV (l : List Bool) : (boolsV l).size = l.length := by simp [boolsV]
theorem size_numsV (l : List Nat) : (numsV l).size = l.length := by simp [numsV]
theorem get_boolsV (l : List Bool) (k : Nat) (hk : k < l.length) : (boolsV l)[k]? = some (.bool (l.getD k false)) := by
  simp [boolsV, List.getD, hk]
theorem get_numsV (l : List Nat) (k : Nat) (hk : k < l.length) : (numsV l)[k]? = some (.int .u64 ((l.getD k 0 : Nat) : Int)) := by
  simp [numsV, numV, List.getD, hk]
theorem set_boolsV (l : List Bool) (k : Nat) (b : Bool) : (boolsV l).setIfInBounds k (.bool b) = boolsV (l.set k b) := by
  simp [boolsV, List.map_set]
theorem set_numsV (l : List Nat) (k n : Nat) : (numsV l).setIfInBounds k (.int .u64 (n : Int)) = numsV (l.set k n) := by
  simp [numsV, numV, List.map_set]
theorem one_boolsV (l : List Bool) : (boolsV l).all (·.oneCell') = true := by
  rw [Array.all_eq_true_iff_forall_mem]
  intro v hv
  simp [boolsV] at hv
  rcases hv with ⟨_, rfl⟩ | ⟨_, rfl⟩ <;> rfl
theorem one_numsV (l : List Nat) : (numsV l).all (·.oneCell') = true := by
  rw [Array.all_eq_true_iff_forall_mem]
  intro v hv
  simp [numsV] at hv
  obtain ⟨_, _, rfl⟩ := hv
  rfl

/-- A block is an array of bools, of numbers. -/
def Bools (w : World) (g t : Nat) (l : List Bool) : Prop := w.heap[g]? = some (.cells (boolsV l) t (0, 0))
def Nums (w : World) (g t : Nat) (l : List Nat) : Prop := w.heap[g]? = some (.cells (numsV l) t (0, 0))
section
variable {w : World} {g t : Nat}
theorem Bools.cell {l : List Bool} (h : Bools w g t l) {k : Nat} (hk : k < l.length) : w.cell? ⟨g, k, none⟩ = some (.bool (l.getD k false)) := by
  rw [cell_of_row w g k _ t _ h]; exact get_boolsV l k hk
theorem Nums.cell {l : List Nat} (h : Nums w g t l) {k : Nat} (hk : k < l.length) : w.cell? ⟨g, k, none⟩ = some (.int .u64 ((l.getD k 0 : Nat) : Int)) := by
  rw [cell_of_row w g k _ t _ h]; exact get_numsV l k hk
theorem Bools.free {l : List Bool} (h : Bools w g t l) (k : Nat) : w.frozen? ⟨g, k, none⟩ = false := frozen_of_row w g k _ t h
theorem Nums.free {l : List Nat} (h : Nums w g t l) (k : Nat) : w.frozen? ⟨g, k, none⟩ = false := frozen_of_row w g k _ t h
theorem Bools.set {l : List Bool} (h : Bools w g t l) (k : Nat) (b : Bool) : Bools (w.setCell ⟨g, k, none⟩ (.bool b)) g t (l.set k b) := by
  unfold Bools
  rw [heap_setCell_same w g k _ t _ h, set_boolsV]
theorem Nums.set {l : List Nat} (h : Nums w g t l) (k n : Nat) : Nums (w.setCell ⟨g, k, none⟩ (.int .u64 (n : Int))) g t (l.set k n) := by
  unfold Nums
  rw [heap_setCell_same w g k _ t _ h, set_numsV]
theorem Bools.lt {l : List Bool} (h : Bools w g t l) : g < w.heap.size := (Array.getElem?_eq_some_iff.1 h).1
theorem Nums.lt {l : List Nat} (h : Nums w g t l) : g < w.heap.size := (Array.getElem?_eq_some_iff.1 h).1
theorem Bools.of_block {w' : World} {l : List Bool} (h : Bools w g t l) (e : w'.heap[g]? = w.heap[g]?) : Bools w' g t l := e.trans h
theorem Nums.of_block {w' : World} {l : List Nat} (h : Nums w g t l) (e : w'.heap[g]? = w.heap[g]?) : Nums w' g t l := e.trans h
theorem Bools.below {w' : World} {l : List Bool} (h : Bools w g t l) {B : Nat} (hb : Below B w w') (hg : g < B) : Bools w' g t l := h.of_block (hb.block g hg)
theorem Nums.below {w' : World} {l : List Nat} (h : Nums w g t l) {B : Nat} (hb : Below B w w') (hg : g < B) : Nums w' g t l := h.of_block (hb.block g hg)
end
theorem block_setRow_same {w : World} {g t : Nat} {old cs : Array Value} (h : w.heap[g]? = some (.cells old t (0, 0))) : (w.setRow g cs).heap[g]? = some (.cells cs t (0, 0)) := setRow_heap w g old cs t _ h
theorem below_setRow' {B g : Nat} {w0 w : World} (hb : Below B w0 w) (hBg : B ≤ g) (cs : Array Value) : Below B w0 (w.setRow g cs) :=
  hb.trans ⟨rfl, rfl, rfl, by simp [World.setRow], fun k hk => setRow_other w g k cs (by omega)⟩

/-- The number of a list of bits, the first one lowest; what is set in it. -/
theorem size65 : (Tryd.prog.info? 65).map (·.size) = some 64 := by kernel_rfl
theorem size41 : (Tryd.prog.info? 41).map (·.size) = some 32 := by kernel_rfl
theorem size43 : (Tryd.prog.info? 43).map (·.size) = some 32 := by kernel_rfl
end Go.Proofs.YtkgfepnkikcpiaaDoor
