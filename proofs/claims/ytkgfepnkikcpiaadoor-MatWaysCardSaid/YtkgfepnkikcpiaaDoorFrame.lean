/- What the cards of this seat share: the table of math/bits off the row's list, a world that holds it, and what a law's end owes where it returned true and nothing old has turned. -/
import Derived.Test.YtkgfepnkikcpiaaDoorCards
import Derived.Test.YtkgfepnkikcpiaaDoorTie
import Derived.WalkKit
import Derived.ProofKit
import Derived.OpenShut
import Derived.Carry
import Derived.Deep.DeepHandedRow
import Derived.Lib.LaidTab
import Derived.Shelf.Spec.TrailingZeros
import Derived.Test.YtkgfepnkikcpiaaDoorS5
namespace Go.Proofs.YtkgfepnkikcpiaaDoor
open Go.ChangeShapes Go.WideShapes Go.ChangeAt Go.RowKit

theorem own : ownKnob Tryd.prog.godebug = none := by kernel_rfl
theorem laidOut : laidOutB Tryd.prog = true := by kernel_rfl
theorem gTab : Tryd.prog.globalNamed "math/bits.deBruijn64tab" = some 0 := by kernel_rfl
theorem gTabType : (Tryd.prog.globals[0]?).map (·.type) = some 70 := by kernel_rfl
theorem cells70 : Tryd.prog.cellsOf 70 = 64 := by kernel_rfl
theorem cells5 : Tryd.prog.cellsOf 5 = 1 := by kernel_rfl
theorem cells3 : Tryd.prog.cellsOf 3 = 1 := by kernel_rfl

/-- The table's numbers. -/
def tabI : List Int := [0, 1, 56, 2, 57, 49, 28, 3, 61, 58, 42, 50, 38, 29, 17, 4, 62, 47, 59, 36, 45, 43, 51, 22, 53, 39, 33, 30, 24, 18, 12, 5, 63, 55, 48, 27, 60, 41, 37, 16, 46, 35, 44, 21, 52, 32, 23, 11, 54, 26, 40, 15, 34, 20, 31, 10, 25, 14, 19, 9, 13, 8, 7, 6]
theorem tabI_eq : ∀ j, j < 64 → tabI.getD j 0 = ((Lib.deBruijn64tab.getD j 0 : Nat) : Int) := by decide +kernel
theorem tab_length : Lib.deBruijn64tab.length = 64 := by decide +kernel
theorem tabI_length : tabI.length = 64 := by decide +kernel

/-- WHAT THE ROW's LIST GIVES: the table's cells hold its numbers. -/
theorem tab_of_laid {W : World} (h : laidMetH Tryd.prog [("math/bits.deBruijn64tab", Rows.laid_math_bits_deBruijn64tab)] W) : TabAt 0 Lib.deBruijn64tab W := by
  have ht : Lib.TabIs Tryd.prog W "math/bits.deBruijn64tab" .u8 tabI := Lib.tabIs_of_head (rest := []) gTab gTabType Tryd.underlying70 Tryd.underlying5 cells5 cells70 h
  intro j hj
  rw [tab_length] at hj
  rw [← tabI_eq j hj]
  exact ht.cell gTab j (by rw [tabI_length]; exact hj)

/-- A world for the witness: the settled one, the table (block 0) holding what its initialiser lays. -/
noncomputable def laidWorld (os : Os) : World :=
  { World.holding Tryd.prog os ⟨#[], #[], []⟩ with heap := (World.holding Tryd.prog os ⟨#[], #[], []⟩).heap.modify 0 fun
      | .cells _ t frozen => .cells (tabI.map fun n => Value.int .u8 n).toArray t frozen
      | o => o }

/-- What a law's end owes: it returned true, below the heap's old size nothing has turned, the arguments read as they did. -/
theorem law_post {H : Type} {enc : TypeId × Value → H} {f : Func} {s : ChangeSpec} {W W' : World} {args : Array Value} {ds : List (DataW H)} {before pa : List MemPlace}
    (hW : DataW.Whole enc Tryd.prog f.params.toList s.vars false W args.toList ds [] before) (hvars : s.vars = [])
    (hfn : s.fn H (ds ++ []) = { results := [.lit (.bool true)], args := ds }) (hrt : f.resultTypes = #[4]) (hb : Below W.heap.size W W')
    (hargs : DataW.TrodAll enc Tryd.prog W' 0 (fun b => decide (b < W.heap.size)) true f.params.toList args.toList ds pa) :
    s.post enc Tryd.prog f false true false false W args (.bool true) W' := by
  refine ⟨ds, [], before, [], pa, [], hW, ?_, ?_, ?_, hb.frame _, fun h => by cases h⟩
  · rw [hfn, hrt]
    exact trodAll_mk1 (shut_bool Tryd.underlying4 _)
  · rw [hfn]
    exact hargs
  · rw [hfn, hvars]
    exact rfl

/-- A slice of ints that came in: its value, and what its cells read as. -/
theorem open_row {H : Type} {enc : TypeId × Value → H} {W : World} {base : Nat} {v : Value} {d : DataW H} {ps : List MemPlace} (hval : Value.okWide Tryd.prog W .any base 23 v) (h : DataW.Trod enc Tryd.prog W 0 (fun _ => true) true 23 v d ps) :
    ∃ (a : Option Addr) (cap : Nat) (l : List Int), v = .slice a l.length cap ∧ IntsAt W a l ∧ l.length ≤ maxLen ∧ (a = none → cap = 0) := by
  obtain ⟨a0, len, cap, rfl⟩ := okWide_slice Tryd.underlying23 hval
  obtain ⟨fuel, hf⟩ := h
  rcases open_ints Tryd.underlying23 Tryd.underlying3 cells3 hf with ⟨hcs, _⟩ | ⟨a, len', cap', zs, hcs, _, hl, hm, hz, _, hcell, _⟩
  · simp [Value.cells] at hcs
    obtain ⟨rfl, rfl, rfl⟩ := hcs
    exact ⟨none, 0, [], rfl, IntsAt.nil _ _, Nat.zero_le _, fun _ => rfl⟩
  · simp [Value.cells] at hcs
    obtain ⟨rfl, rfl, rfl⟩ := hcs
    have hz' : zs.length = cap := by simpa using hz
    have hlen : (zs.take len).length = len := by rw [List.length_take]; omega
    refine ⟨some a, cap, zs.take len, by rw [hlen], ?_, by omega, fun e => by cases e⟩
    intro k hk
    rw [hlen] at hk
    obtain ⟨b, off, rfl, hc⟩ := ints_at hcell (by omega : 0 < zs.length)
    refine ⟨b, off, rfl, ?_⟩
    have e : (zs.take len).getD k 0 = zs.getD k 0 := by simp [List.getD, hk]
    rw [e]
    simpa using hc k (by omega)
end Go.Proofs.YtkgfepnkikcpiaaDoor
