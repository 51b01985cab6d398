/-
  NARROWER THAN 'FOR EVERY INPUT', by the rows' own cells (each row's printed sentence says how): SetTells: laid · SetBack: laid · SetApart: laid · SetRises: laid · SetSums: laid · MatTells: laid · MatWays: laid · MatThrough: laid · MatCloses: laid · MatGrows: laid · MatFar: laid · MatSteps: laid.
  DERIVED. THE GIVEN ROWS OF THIS SEAT. 12 by the template 'for every input the law returns true; each argument reads behind the call as it read before'; 0 by the template 'total and deterministic' (their statements: YtkgfepnkikcpiaaDoorTotals.lean).
  GIVEN WITH THE SEED: the statements are not yours to turn. If you find one false, say at which input.
  Laid BY PROGRAM, IN A SANDBOX (cutbox-rows.mjs): the forced cells as the released guide's own fill.sh prints them over the translation 43234d0e9e87337d… (all of the seat's roots in one cut). By AI agents, Wed Nov 11 2026. No macro, syntax, notation, axiom, sorry.
-/
import Derived.Test.YtkgfepnkikcpiaaDoorChecked
import GoSem.Claim
import GoSem.ClaimJoined
import GoSem.ClaimMapViews
import Derived.JoinedTies
import Derived.KernelRfl
namespace Go.Proofs.YtkgfepnkikcpiaaDoor
/- THE CELL 'sum', in the pinned program and in every row, IS THE sha256 OF THE DUMP (.gsa) THAT YtkgfepnkikcpiaaDoorProg.lean LOADS. Nothing in Lean hashes anything: it is a label: what it is worth is what the hold of that sum in a sandbox is worth. -/
noncomputable def Tryd.pinned : Pinned := { name := "ytkgfepnkikcpiaadoor", sum := "43234d0e9e87337dce20297fc6a205ef84b03d3610bd81f854adf317b1039861", checked := Tryd.checked }
namespace Rows
def none {H : Type} : Left H := { results := [], args := [] }

/- WHAT THE LISTED PACKAGE-LEVEL VARIABLES READ AS WHEN THE CALL BEGINS. Each datum BY PROGRAM (the guide's laid-datum.mjs) off the statement by which the dump's own 'gosem.cut.vars' lays the variable. In a bare row this is a premise. The card (YtkgfepnkikcpiaaDoorCards.lean) ties it to the program's text. -/
def laid_math_bits_deBruijn64tab {H : Type} : DataW H := .agg [.lit (.int .u8 0), .lit (.int .u8 1), .lit (.int .u8 56), .lit (.int .u8 2), .lit (.int .u8 57), .lit (.int .u8 49), .lit (.int .u8 28), .lit (.int .u8 3), .lit (.int .u8 61), .lit (.int .u8 58), .lit (.int .u8 42), .lit (.int .u8 50), .lit (.int .u8 38), .lit (.int .u8 29), .lit (.int .u8 17), .lit (.int .u8 4), .lit (.int .u8 62), .lit (.int .u8 47), .lit (.int .u8 59), .lit (.int .u8 36), .lit (.int .u8 45), .lit (.int .u8 43), .lit (.int .u8 51), .lit (.int .u8 22), .lit (.int .u8 53), .lit (.int .u8 39), .lit (.int .u8 33), .lit (.int .u8 30), .lit (.int .u8 24), .lit (.int .u8 18), .lit (.int .u8 12), .lit (.int .u8 5), .lit (.int .u8 63), .lit (.int .u8 55), .lit (.int .u8 48), .lit (.int .u8 27), .lit (.int .u8 60), .lit (.int .u8 41), .lit (.int .u8 37), .lit (.int .u8 16), .lit (.int .u8 46), .lit (.int .u8 35), .lit (.int .u8 44), .lit (.int .u8 21), .lit (.int .u8 52), .lit (.int .u8 32), .lit (.int .u8 23), .lit (.int .u8 11), .lit (.int .u8 54), .lit (.int .u8 26), .lit (.int .u8 40), .lit (.int .u8 15), .lit (.int .u8 34), .lit (.int .u8 20), .lit (.int .u8 31), .lit (.int .u8 10), .lit (.int .u8 25), .lit (.int .u8 14), .lit (.int .u8 19), .lit (.int .u8 9), .lit (.int .u8 13), .lit (.int .u8 8), .lit (.int .u8 7), .lit (.int .u8 6)]

/-- 'warpbeamlaw01.SetTells': WHATEVER THE INPUT: true; the input reads as it did. -/
def setTellsSpec : ChangeSpec := { name := "setTells", fn := fun _ => fun
  | [d1, d2, d3] => { results := [.lit (.bool true)], args := [d1, d2, d3] }
  | _ => none }
def setTellsRow : OpenClaim := { program := "ytkgfepnkikcpiaadoor", sum := "43234d0e9e87337dce20297fc6a205ef84b03d3610bd81f854adf317b1039861", func := "warpbeam/warpbeamlaw01.SetTells", spec := "setTells", named := ["math/bits.deBruijn64tab"], apart := false, laid := [("math/bits.deBruijn64tab", laid_math_bits_deBruijn64tab)] }
def SetTellsSaid : Prop := setTellsRow.holds Tryd.pinned (OpenSpec.ofChange setTellsSpec)

/-- ITS FALSE NEIGHBOUR: 'it returns false'. Refute it at one input. -/
def setTellsWrong : ChangeSpec := { name := "setTells", fn := fun _ => fun
  | [d1, d2, d3] => { results := [.lit (.bool false)], args := [d1, d2, d3] }
  | _ => none }
def SetTellsWrongFalsely : Prop := setTellsRow.holds Tryd.pinned (OpenSpec.ofChange setTellsWrong)

/-- 'warpbeamlaw01.SetBack': WHATEVER THE INPUT: true; the input reads as it did. -/
def setBackSpec : ChangeSpec := { name := "setBack", fn := fun _ => fun
  | [d1, d2] => { results := [.lit (.bool true)], args := [d1, d2] }
  | _ => none }
def setBackRow : OpenClaim := { program := "ytkgfepnkikcpiaadoor", sum := "43234d0e9e87337dce20297fc6a205ef84b03d3610bd81f854adf317b1039861", func := "warpbeam/warpbeamlaw01.SetBack", spec := "setBack", named := ["math/bits.deBruijn64tab"], apart := false, laid := [("math/bits.deBruijn64tab", laid_math_bits_deBruijn64tab)] }
def SetBackSaid : Prop := setBackRow.holds Tryd.pinned (OpenSpec.ofChange setBackSpec)

/-- ITS FALSE NEIGHBOUR: 'it returns false'. Refute it at one input. -/
def setBackWrong : ChangeSpec := { name := "setBack", fn := fun _ => fun
  | [d1, d2] => { results := [.lit (.bool false)], args := [d1, d2] }
  | _ => none }
def SetBackWrongFalsely : Prop := setBackRow.holds Tryd.pinned (OpenSpec.ofChange setBackWrong)

/-- 'warpbeamlaw01.SetApart': WHATEVER THE INPUT: true; the input reads as it did. -/
def setApartSpec : ChangeSpec := { name := "setApart", fn := fun _ => fun
  | [d1, d2] => { results := [.lit (.bool true)], args := [d1, d2] }
  | _ => none }
def setApartRow : OpenClaim := { program := "ytkgfepnkikcpiaadoor", sum := "43234d0e9e87337dce20297fc6a205ef84b03d3610bd81f854adf317b1039861", func := "warpbeam/warpbeamlaw01.SetApart", spec := "setApart", named := ["math/bits.deBruijn64tab"], apart := false, laid := [("math/bits.deBruijn64tab", laid_math_bits_deBruijn64tab)] }
def SetApartSaid : Prop := setApartRow.holds Tryd.pinned (OpenSpec.ofChange setApartSpec)

/-- ITS FALSE NEIGHBOUR: 'it returns false'. Refute it at one input. -/
def setApartWrong : ChangeSpec := { name := "setApart", fn := fun _ => fun
  | [d1, d2] => { results := [.lit (.bool false)], args := [d1, d2] }
  | _ => none }
def SetApartWrongFalsely : Prop := setApartRow.holds Tryd.pinned (OpenSpec.ofChange setApartWrong)

/-- 'warpbeamlaw01.SetRises': WHATEVER THE INPUT: true; the input reads as it did. -/
def setRisesSpec : ChangeSpec := { name := "setRises", fn := fun _ => fun
  | [d] => { results := [.lit (.bool true)], args := [d] }
  | _ => none }
def setRisesRow : OpenClaim := { program := "ytkgfepnkikcpiaadoor", sum := "43234d0e9e87337dce20297fc6a205ef84b03d3610bd81f854adf317b1039861", func := "warpbeam/warpbeamlaw01.SetRises", spec := "setRises", named := ["math/bits.deBruijn64tab"], apart := false, laid := [("math/bits.deBruijn64tab", laid_math_bits_deBruijn64tab)] }
def SetRisesSaid : Prop := setRisesRow.holds Tryd.pinned (OpenSpec.ofChange setRisesSpec)

/-- ITS FALSE NEIGHBOUR: 'it returns false'. Refute it at one input. -/
def setRisesWrong : ChangeSpec := { name := "setRises", fn := fun _ => fun
  | [d] => { results := [.lit (.bool false)], args := [d] }
  | _ => none }
def SetRisesWrongFalsely : Prop := setRisesRow.holds Tryd.pinned (OpenSpec.ofChange setRisesWrong)

/-- 'warpbeamlaw01.SetSums': WHATEVER THE INPUT: true; the input reads as it did. -/
def setSumsSpec : ChangeSpec := { name := "setSums", fn := fun _ => fun
  | [d1, d2] => { results := [.lit (.bool true)], args := [d1, d2] }
  | _ => none }
def setSumsRow : OpenClaim := { program := "ytkgfepnkikcpiaadoor", sum := "43234d0e9e87337dce20297fc6a205ef84b03d3610bd81f854adf317b1039861", func := "warpbeam/warpbeamlaw01.SetSums", spec := "setSums", named := ["math/bits.deBruijn64tab"], apart := false, laid := [("math/bits.deBruijn64tab", laid_math_bits_deBruijn64tab)] }
def SetSumsSaid : Prop := setSumsRow.holds Tryd.pinned (OpenSpec.ofChange setSumsSpec)

/-- ITS FALSE NEIGHBOUR: 'it returns false'. Refute it at one input. -/
def setSumsWrong : ChangeSpec := { name := "setSums", fn := fun _ => fun
  | [d1, d2] => { results := [.lit (.bool false)], args := [d1, d2] }
  | _ => none }
def SetSumsWrongFalsely : Prop := setSumsRow.holds Tryd.pinned (OpenSpec.ofChange setSumsWrong)

/-- 'warpbeamlaw03.MatTells': WHATEVER THE INPUT: true; the input reads as it did. -/
def matTellsSpec : ChangeSpec := { name := "matTells", fn := fun _ => fun
  | [d1, d2, d3] => { results := [.lit (.bool true)], args := [d1, d2, d3] }
  | _ => none }
def matTellsRow : OpenClaim := { program := "ytkgfepnkikcpiaadoor", sum := "43234d0e9e87337dce20297fc6a205ef84b03d3610bd81f854adf317b1039861", func := "warpbeam/warpbeamlaw03.MatTells", spec := "matTells", unfollowed := true, recurses := true, named := ["math/bits.deBruijn64tab"], apart := false, laid := [("math/bits.deBruijn64tab", laid_math_bits_deBruijn64tab)] }
def MatTellsSaid : Prop := matTellsRow.holds Tryd.pinned (OpenSpec.ofChange matTellsSpec)

/-- ITS FALSE NEIGHBOUR: 'it returns false'. Refute it at one input. -/
def matTellsWrong : ChangeSpec := { name := "matTells", fn := fun _ => fun
  | [d1, d2, d3] => { results := [.lit (.bool false)], args := [d1, d2, d3] }
  | _ => none }
def MatTellsWrongFalsely : Prop := matTellsRow.holds Tryd.pinned (OpenSpec.ofChange matTellsWrong)

/-- 'warpbeamlaw03.MatWays': WHATEVER THE INPUT: true; the input reads as it did. -/
def matWaysSpec : ChangeSpec := { name := "matWays", fn := fun _ => fun
  | [d1, d2] => { results := [.lit (.bool true)], args := [d1, d2] }
  | _ => none }
def matWaysRow : OpenClaim := { program := "ytkgfepnkikcpiaadoor", sum := "43234d0e9e87337dce20297fc6a205ef84b03d3610bd81f854adf317b1039861", func := "warpbeam/warpbeamlaw03.MatWays", spec := "matWays", unfollowed := true, recurses := true, named := ["math/bits.deBruijn64tab"], apart := false, laid := [("math/bits.deBruijn64tab", laid_math_bits_deBruijn64tab)] }
def MatWaysSaid : Prop := matWaysRow.holds Tryd.pinned (OpenSpec.ofChange matWaysSpec)

/-- ITS FALSE NEIGHBOUR: 'it returns false'. Refute it at one input. -/
def matWaysWrong : ChangeSpec := { name := "matWays", fn := fun _ => fun
  | [d1, d2] => { results := [.lit (.bool false)], args := [d1, d2] }
  | _ => none }
def MatWaysWrongFalsely : Prop := matWaysRow.holds Tryd.pinned (OpenSpec.ofChange matWaysWrong)

/-- 'warpbeamlaw03.MatThrough': WHATEVER THE INPUT: true; the input reads as it did. -/
def matThroughSpec : ChangeSpec := { name := "matThrough", fn := fun _ => fun
  | [d1, d2, d3] => { results := [.lit (.bool true)], args := [d1, d2, d3] }
  | _ => none }
def matThroughRow : OpenClaim := { program := "ytkgfepnkikcpiaadoor", sum := "43234d0e9e87337dce20297fc6a205ef84b03d3610bd81f854adf317b1039861", func := "warpbeam/warpbeamlaw03.MatThrough", spec := "matThrough", unfollowed := true, recurses := true, named := ["math/bits.deBruijn64tab"], apart := false, laid := [("math/bits.deBruijn64tab", laid_math_bits_deBruijn64tab)] }
def MatThroughSaid : Prop := matThroughRow.holds Tryd.pinned (OpenSpec.ofChange matThroughSpec)

/-- ITS FALSE NEIGHBOUR: 'it returns false'. Refute it at one input. -/
def matThroughWrong : ChangeSpec := { name := "matThrough", fn := fun _ => fun
  | [d1, d2, d3] => { results := [.lit (.bool false)], args := [d1, d2, d3] }
  | _ => none }
def MatThroughWrongFalsely : Prop := matThroughRow.holds Tryd.pinned (OpenSpec.ofChange matThroughWrong)

/-- 'warpbeamlaw03.MatCloses': WHATEVER THE INPUT: true; the input reads as it did. -/
def matClosesSpec : ChangeSpec := { name := "matCloses", fn := fun _ => fun
  | [d1, d2, d3] => { results := [.lit (.bool true)], args := [d1, d2, d3] }
  | _ => none }
def matClosesRow : OpenClaim := { program := "ytkgfepnkikcpiaadoor", sum := "43234d0e9e87337dce20297fc6a205ef84b03d3610bd81f854adf317b1039861", func := "warpbeam/warpbeamlaw03.MatCloses", spec := "matCloses", unfollowed := true, recurses := true, named := ["math/bits.deBruijn64tab"], apart := false, laid := [("math/bits.deBruijn64tab", laid_math_bits_deBruijn64tab)] }
def MatClosesSaid : Prop := matClosesRow.holds Tryd.pinned (OpenSpec.ofChange matClosesSpec)

/-- ITS FALSE NEIGHBOUR: 'it returns false'. Refute it at one input. -/
def matClosesWrong : ChangeSpec := { name := "matCloses", fn := fun _ => fun
  | [d1, d2, d3] => { results := [.lit (.bool false)], args := [d1, d2, d3] }
  | _ => none }
def MatClosesWrongFalsely : Prop := matClosesRow.holds Tryd.pinned (OpenSpec.ofChange matClosesWrong)

/-- 'warpbeamlaw03.MatGrows': WHATEVER THE INPUT: true; the input reads as it did. -/
def matGrowsSpec : ChangeSpec := { name := "matGrows", fn := fun _ => fun
  | [d1, d2, d3] => { results := [.lit (.bool true)], args := [d1, d2, d3] }
  | _ => none }
def matGrowsRow : OpenClaim := { program := "ytkgfepnkikcpiaadoor", sum := "43234d0e9e87337dce20297fc6a205ef84b03d3610bd81f854adf317b1039861", func := "warpbeam/warpbeamlaw03.MatGrows", spec := "matGrows", unfollowed := true, recurses := true, named := ["math/bits.deBruijn64tab"], apart := false, laid := [("math/bits.deBruijn64tab", laid_math_bits_deBruijn64tab)] }
def MatGrowsSaid : Prop := matGrowsRow.holds Tryd.pinned (OpenSpec.ofChange matGrowsSpec)

/-- ITS FALSE NEIGHBOUR: 'it returns false'. Refute it at one input. -/
def matGrowsWrong : ChangeSpec := { name := "matGrows", fn := fun _ => fun
  | [d1, d2, d3] => { results := [.lit (.bool false)], args := [d1, d2, d3] }
  | _ => none }
def MatGrowsWrongFalsely : Prop := matGrowsRow.holds Tryd.pinned (OpenSpec.ofChange matGrowsWrong)

/-- 'warpbeamlaw03.MatFar': WHATEVER THE INPUT: true; the input reads as it did. -/
def matFarSpec : ChangeSpec := { name := "matFar", fn := fun _ => fun
  | [d1, d2, d3] => { results := [.lit (.bool true)], args := [d1, d2, d3] }
  | _ => none }
def matFarRow : OpenClaim := { program := "ytkgfepnkikcpiaadoor", sum := "43234d0e9e87337dce20297fc6a205ef84b03d3610bd81f854adf317b1039861", func := "warpbeam/warpbeamlaw03.MatFar", spec := "matFar", unfollowed := true, recurses := true, named := ["math/bits.deBruijn64tab"], apart := false, laid := [("math/bits.deBruijn64tab", laid_math_bits_deBruijn64tab)] }
def MatFarSaid : Prop := matFarRow.holds Tryd.pinned (OpenSpec.ofChange matFarSpec)

/-- ITS FALSE NEIGHBOUR: 'it returns false'. Refute it at one input. -/
def matFarWrong : ChangeSpec := { name := "matFar", fn := fun _ => fun
  | [d1, d2, d3] => { results := [.lit (.bool false)], args := [d1, d2, d3] }
  | _ => none }
def MatFarWrongFalsely : Prop := matFarRow.holds Tryd.pinned (OpenSpec.ofChange matFarWrong)

/-- 'warpbeamlaw03.MatSteps': WHATEVER THE INPUT: true; the input reads as it did. -/
def matStepsSpec : ChangeSpec := { name := "matSteps", fn := fun _ => fun
  | [d1, d2] => { results := [.lit (.bool true)], args := [d1, d2] }
  | _ => none }
def matStepsRow : OpenClaim := { program := "ytkgfepnkikcpiaadoor", sum := "43234d0e9e87337dce20297fc6a205ef84b03d3610bd81f854adf317b1039861", func := "warpbeam/warpbeamlaw03.MatSteps", spec := "matSteps", unfollowed := true, recurses := true, named := ["math/bits.deBruijn64tab"], apart := false, laid := [("math/bits.deBruijn64tab", laid_math_bits_deBruijn64tab)] }
def MatStepsSaid : Prop := matStepsRow.holds Tryd.pinned (OpenSpec.ofChange matStepsSpec)

/-- ITS FALSE NEIGHBOUR: 'it returns false'. Refute it at one input. -/
def matStepsWrong : ChangeSpec := { name := "matSteps", fn := fun _ => fun
  | [d1, d2] => { results := [.lit (.bool false)], args := [d1, d2] }
  | _ => none }
def MatStepsWrongFalsely : Prop := matStepsRow.holds Tryd.pinned (OpenSpec.ofChange matStepsWrong)

/- THE SECOND FORM. 'bulk': how many values and letters a reading holds, each counted each time it is reached (what is shared counts as often as it is met; a slice's spare places count too). A statement '..UptoSaid' is the law's where the arguments, and the package variables that the reading takes, are together of bulk at most 1048576: NARROWER than '..Said'. Prove '..Said' where nothing that the law and all that it calls make is longer than what came in: it says more and counts as full. Else prove '..UptoSaid'. A law counts once. -/
mutual
def uptoBulk {H : Type} : DataW H → Nat
  | .lit (.string bytes) => bytes.length + 1
  | .lit _ => 1
  | .nil => 1
  | .ptr d => uptoBulk d + 1
  | .slice elems spare => uptoBulkAll elems + uptoBulkAll spare + 1
  | .agg parts => uptoBulkAll parts + 1
  | .iface _ d => uptoBulk d + 1
  | .map entries => uptoBulkEntries entries + 1
  | .held _ => 1
def uptoBulkAll {H : Type} : List (DataW H) → Nat
  | [] => 0
  | d :: r => uptoBulk d + uptoBulkAll r
def uptoBulkEntries {H : Type} : List (Lit × DataW H) → Nat
  | [] => 0
  | x :: r => uptoBulkEntry x + uptoBulkEntries r
def uptoBulkEntry {H : Type} : Lit × DataW H → Nat
  | (.string bytes, d) => bytes.length + uptoBulk d + 1
  | (_, d) => uptoBulk d + 1
 end
def uptoSmall : (H : Type) → List (DataW H) → Bool := fun _ ds => decide (uptoBulkAll ds ≤ 1048576)
def OpenSpec.upto (s : _root_.Go.ChangeSpec) : _root_.Go.OpenSpec := { _root_.Go.OpenSpec.ofChange s with cond := some uptoSmall }

/-- 'warpbeamlaw01.SetTells', WHERE WHAT IT READS IS OF BULK AT MOST 1048576: true; the input reads as it did. -/
def setTellsUptoRow : OpenClaim := { program := "ytkgfepnkikcpiaadoor", sum := "43234d0e9e87337dce20297fc6a205ef84b03d3610bd81f854adf317b1039861", func := "warpbeam/warpbeamlaw01.SetTells", spec := "setTells", named := ["math/bits.deBruijn64tab"], apart := false, laid := [("math/bits.deBruijn64tab", laid_math_bits_deBruijn64tab)], narrowed := true }
def SetTellsUptoSaid : Prop := setTellsUptoRow.holds Tryd.pinned (OpenSpec.upto setTellsSpec)

/-- 'warpbeamlaw01.SetBack', WHERE WHAT IT READS IS OF BULK AT MOST 1048576: true; the input reads as it did. -/
def setBackUptoRow : OpenClaim := { program := "ytkgfepnkikcpiaadoor", sum := "43234d0e9e87337dce20297fc6a205ef84b03d3610bd81f854adf317b1039861", func := "warpbeam/warpbeamlaw01.SetBack", spec := "setBack", named := ["math/bits.deBruijn64tab"], apart := false, laid := [("math/bits.deBruijn64tab", laid_math_bits_deBruijn64tab)], narrowed := true }
def SetBackUptoSaid : Prop := setBackUptoRow.holds Tryd.pinned (OpenSpec.upto setBackSpec)

/-- 'warpbeamlaw01.SetApart', WHERE WHAT IT READS IS OF BULK AT MOST 1048576: true; the input reads as it did. -/
def setApartUptoRow : OpenClaim := { program := "ytkgfepnkikcpiaadoor", sum := "43234d0e9e87337dce20297fc6a205ef84b03d3610bd81f854adf317b1039861", func := "warpbeam/warpbeamlaw01.SetApart", spec := "setApart", named := ["math/bits.deBruijn64tab"], apart := false, laid := [("math/bits.deBruijn64tab", laid_math_bits_deBruijn64tab)], narrowed := true }
def SetApartUptoSaid : Prop := setApartUptoRow.holds Tryd.pinned (OpenSpec.upto setApartSpec)

/-- 'warpbeamlaw01.SetRises', WHERE WHAT IT READS IS OF BULK AT MOST 1048576: true; the input reads as it did. -/
def setRisesUptoRow : OpenClaim := { program := "ytkgfepnkikcpiaadoor", sum := "43234d0e9e87337dce20297fc6a205ef84b03d3610bd81f854adf317b1039861", func := "warpbeam/warpbeamlaw01.SetRises", spec := "setRises", named := ["math/bits.deBruijn64tab"], apart := false, laid := [("math/bits.deBruijn64tab", laid_math_bits_deBruijn64tab)], narrowed := true }
def SetRisesUptoSaid : Prop := setRisesUptoRow.holds Tryd.pinned (OpenSpec.upto setRisesSpec)

/-- 'warpbeamlaw01.SetSums', WHERE WHAT IT READS IS OF BULK AT MOST 1048576: true; the input reads as it did. -/
def setSumsUptoRow : OpenClaim := { program := "ytkgfepnkikcpiaadoor", sum := "43234d0e9e87337dce20297fc6a205ef84b03d3610bd81f854adf317b1039861", func := "warpbeam/warpbeamlaw01.SetSums", spec := "setSums", named := ["math/bits.deBruijn64tab"], apart := false, laid := [("math/bits.deBruijn64tab", laid_math_bits_deBruijn64tab)], narrowed := true }
def SetSumsUptoSaid : Prop := setSumsUptoRow.holds Tryd.pinned (OpenSpec.upto setSumsSpec)

/-- 'warpbeamlaw03.MatTells', WHERE WHAT IT READS IS OF BULK AT MOST 1048576: true; the input reads as it did. -/
def matTellsUptoRow : OpenClaim := { program := "ytkgfepnkikcpiaadoor", sum := "43234d0e9e87337dce20297fc6a205ef84b03d3610bd81f854adf317b1039861", func := "warpbeam/warpbeamlaw03.MatTells", spec := "matTells", unfollowed := true, recurses := true, named := ["math/bits.deBruijn64tab"], apart := false, laid := [("math/bits.deBruijn64tab", laid_math_bits_deBruijn64tab)], narrowed := true }
def MatTellsUptoSaid : Prop := matTellsUptoRow.holds Tryd.pinned (OpenSpec.upto matTellsSpec)

/-- 'warpbeamlaw03.MatWays', WHERE WHAT IT READS IS OF BULK AT MOST 1048576: true; the input reads as it did. -/
def matWaysUptoRow : OpenClaim := { program := "ytkgfepnkikcpiaadoor", sum := "43234d0e9e87337dce20297fc6a205ef84b03d3610bd81f854adf317b1039861", func := "warpbeam/warpbeamlaw03.MatWays", spec := "matWays", unfollowed := true, recurses := true, named := ["math/bits.deBruijn64tab"], apart := false, laid := [("math/bits.deBruijn64tab", laid_math_bits_deBruijn64tab)], narrowed := true }
def MatWaysUptoSaid : Prop := matWaysUptoRow.holds Tryd.pinned (OpenSpec.upto matWaysSpec)

/-- 'warpbeamlaw03.MatThrough', WHERE WHAT IT READS IS OF BULK AT MOST 1048576: true; the input reads as it did. -/
def matThroughUptoRow : OpenClaim := { program := "ytkgfepnkikcpiaadoor", sum := "43234d0e9e87337dce20297fc6a205ef84b03d3610bd81f854adf317b1039861", func := "warpbeam/warpbeamlaw03.MatThrough", spec := "matThrough", unfollowed := true, recurses := true, named := ["math/bits.deBruijn64tab"], apart := false, laid := [("math/bits.deBruijn64tab", laid_math_bits_deBruijn64tab)], narrowed := true }
def MatThroughUptoSaid : Prop := matThroughUptoRow.holds Tryd.pinned (OpenSpec.upto matThroughSpec)

/-- 'warpbeamlaw03.MatCloses', WHERE WHAT IT READS IS OF BULK AT MOST 1048576: true; the input reads as it did. -/
def matClosesUptoRow : OpenClaim := { program := "ytkgfepnkikcpiaadoor", sum := "43234d0e9e87337dce20297fc6a205ef84b03d3610bd81f854adf317b1039861", func := "warpbeam/warpbeamlaw03.MatCloses", spec := "matCloses", unfollowed := true, recurses := true, named := ["math/bits.deBruijn64tab"], apart := false, laid := [("math/bits.deBruijn64tab", laid_math_bits_deBruijn64tab)], narrowed := true }
def MatClosesUptoSaid : Prop := matClosesUptoRow.holds Tryd.pinned (OpenSpec.upto matClosesSpec)

/-- 'warpbeamlaw03.MatGrows', WHERE WHAT IT READS IS OF BULK AT MOST 1048576: true; the input reads as it did. -/
def matGrowsUptoRow : OpenClaim := { program := "ytkgfepnkikcpiaadoor", sum := "43234d0e9e87337dce20297fc6a205ef84b03d3610bd81f854adf317b1039861", func := "warpbeam/warpbeamlaw03.MatGrows", spec := "matGrows", unfollowed := true, recurses := true, named := ["math/bits.deBruijn64tab"], apart := false, laid := [("math/bits.deBruijn64tab", laid_math_bits_deBruijn64tab)], narrowed := true }
def MatGrowsUptoSaid : Prop := matGrowsUptoRow.holds Tryd.pinned (OpenSpec.upto matGrowsSpec)

/-- 'warpbeamlaw03.MatFar', WHERE WHAT IT READS IS OF BULK AT MOST 1048576: true; the input reads as it did. -/
def matFarUptoRow : OpenClaim := { program := "ytkgfepnkikcpiaadoor", sum := "43234d0e9e87337dce20297fc6a205ef84b03d3610bd81f854adf317b1039861", func := "warpbeam/warpbeamlaw03.MatFar", spec := "matFar", unfollowed := true, recurses := true, named := ["math/bits.deBruijn64tab"], apart := false, laid := [("math/bits.deBruijn64tab", laid_math_bits_deBruijn64tab)], narrowed := true }
def MatFarUptoSaid : Prop := matFarUptoRow.holds Tryd.pinned (OpenSpec.upto matFarSpec)

/-- 'warpbeamlaw03.MatSteps', WHERE WHAT IT READS IS OF BULK AT MOST 1048576: true; the input reads as it did. -/
def matStepsUptoRow : OpenClaim := { program := "ytkgfepnkikcpiaadoor", sum := "43234d0e9e87337dce20297fc6a205ef84b03d3610bd81f854adf317b1039861", func := "warpbeam/warpbeamlaw03.MatSteps", spec := "matSteps", unfollowed := true, recurses := true, named := ["math/bits.deBruijn64tab"], apart := false, laid := [("math/bits.deBruijn64tab", laid_math_bits_deBruijn64tab)], narrowed := true }
def MatStepsUptoSaid : Prop := matStepsUptoRow.holds Tryd.pinned (OpenSpec.upto matStepsSpec)

end Rows
end Go.Proofs.YtkgfepnkikcpiaaDoor
