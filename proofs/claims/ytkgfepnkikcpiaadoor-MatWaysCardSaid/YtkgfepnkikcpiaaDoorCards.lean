/-
  DERIVED. GIVEN WITH THE SEED: THE CARDS: each row of YtkgfepnkikcpiaaDoorRows.lean that lists a variable, with what it lists TIED to the program's text (the seventh form; the later family's looks); each row that meets fmt, with fmt's text TOLD by the authors' own Lean function (tested against real Go, not proved from fmt's source: count such statements apart). THE CARD IS WHAT COUNTS. Prove the row's statement (the work); the ties are given (YtkgfepnkikcpiaaDoorTie.lean); close each card by the builder's one call (the guide's Derived/Test/ToyasCard.lean, 'card_holds'). Laid BY PROGRAM, IN A SANDBOX (cutbox-door.mjs). By AI agents, Wed Nov 11 2026. No macro, syntax, notation, axiom, sorry.
-/
import Derived.Test.YtkgfepnkikcpiaaDoorRows
import GoSem.ClaimSeven
namespace Go.Proofs.YtkgfepnkikcpiaaDoor
namespace Rows

/-- THE TIED CARD OF 'warpbeamlaw01.SetTells'. -/
def setTellsCard : Claim7 := { stood := { row := setTellsRow, standIns := [], harness := (true, "885301b4dd9dc4705b0d6343db58d90a561d6f4d1229efd1cdaf6c901cd42f36"), looks := false }, kinds := [], alts := [], laidByText := true, laidKinds := [.data], laidTests := true, laidLooks := .later }
def SetTellsCardSaid : Prop := Claim7.holds Tryd.pinned (.plain (OpenSpec.ofChange setTellsSpec)) setTellsCard

/-- THE TIED CARD OF 'warpbeamlaw01.SetBack'. -/
def setBackCard : Claim7 := { stood := { row := setBackRow, standIns := [], harness := (true, "885301b4dd9dc4705b0d6343db58d90a561d6f4d1229efd1cdaf6c901cd42f36"), looks := false }, kinds := [], alts := [], laidByText := true, laidKinds := [.data], laidTests := true, laidLooks := .later }
def SetBackCardSaid : Prop := Claim7.holds Tryd.pinned (.plain (OpenSpec.ofChange setBackSpec)) setBackCard

/-- THE TIED CARD OF 'warpbeamlaw01.SetApart'. -/
def setApartCard : Claim7 := { stood := { row := setApartRow, standIns := [], harness := (true, "885301b4dd9dc4705b0d6343db58d90a561d6f4d1229efd1cdaf6c901cd42f36"), looks := false }, kinds := [], alts := [], laidByText := true, laidKinds := [.data], laidTests := true, laidLooks := .later }
def SetApartCardSaid : Prop := Claim7.holds Tryd.pinned (.plain (OpenSpec.ofChange setApartSpec)) setApartCard

/-- THE TIED CARD OF 'warpbeamlaw01.SetRises'. -/
def setRisesCard : Claim7 := { stood := { row := setRisesRow, standIns := [], harness := (true, "885301b4dd9dc4705b0d6343db58d90a561d6f4d1229efd1cdaf6c901cd42f36"), looks := false }, kinds := [], alts := [], laidByText := true, laidKinds := [.data], laidTests := true, laidLooks := .later }
def SetRisesCardSaid : Prop := Claim7.holds Tryd.pinned (.plain (OpenSpec.ofChange setRisesSpec)) setRisesCard

/-- THE TIED CARD OF 'warpbeamlaw01.SetSums'. -/
def setSumsCard : Claim7 := { stood := { row := setSumsRow, standIns := [], harness := (true, "885301b4dd9dc4705b0d6343db58d90a561d6f4d1229efd1cdaf6c901cd42f36"), looks := false }, kinds := [], alts := [], laidByText := true, laidKinds := [.data], laidTests := true, laidLooks := .later }
def SetSumsCardSaid : Prop := Claim7.holds Tryd.pinned (.plain (OpenSpec.ofChange setSumsSpec)) setSumsCard

/-- THE TIED CARD OF 'warpbeamlaw03.MatTells'. -/
def matTellsCard : Claim7 := { stood := { row := matTellsRow, standIns := [], harness := (true, "885301b4dd9dc4705b0d6343db58d90a561d6f4d1229efd1cdaf6c901cd42f36"), looks := false }, kinds := [], alts := [], laidByText := true, laidKinds := [.data], laidTests := true, laidLooks := .later }
def MatTellsCardSaid : Prop := Claim7.holds Tryd.pinned (.plain (OpenSpec.ofChange matTellsSpec)) matTellsCard

/-- THE TIED CARD OF 'warpbeamlaw03.MatWays'. -/
def matWaysCard : Claim7 := { stood := { row := matWaysRow, standIns := [], harness := (true, "885301b4dd9dc4705b0d6343db58d90a561d6f4d1229efd1cdaf6c901cd42f36"), looks := false }, kinds := [], alts := [], laidByText := true, laidKinds := [.data], laidTests := true, laidLooks := .later }
def MatWaysCardSaid : Prop := Claim7.holds Tryd.pinned (.plain (OpenSpec.ofChange matWaysSpec)) matWaysCard

/-- THE TIED CARD OF 'warpbeamlaw03.MatThrough'. -/
def matThroughCard : Claim7 := { stood := { row := matThroughRow, standIns := [], harness := (true, "885301b4dd9dc4705b0d6343db58d90a561d6f4d1229efd1cdaf6c901cd42f36"), looks := false }, kinds := [], alts := [], laidByText := true, laidKinds := [.data], laidTests := true, laidLooks := .later }
def MatThroughCardSaid : Prop := Claim7.holds Tryd.pinned (.plain (OpenSpec.ofChange matThroughSpec)) matThroughCard

/-- THE TIED CARD OF 'warpbeamlaw03.MatCloses'. -/
def matClosesCard : Claim7 := { stood := { row := matClosesRow, standIns := [], harness := (true, "885301b4dd9dc4705b0d6343db58d90a561d6f4d1229efd1cdaf6c901cd42f36"), looks := false }, kinds := [], alts := [], laidByText := true, laidKinds := [.data], laidTests := true, laidLooks := .later }
def MatClosesCardSaid : Prop := Claim7.holds Tryd.pinned (.plain (OpenSpec.ofChange matClosesSpec)) matClosesCard

/-- THE TIED CARD OF 'warpbeamlaw03.MatGrows'. -/
def matGrowsCard : Claim7 := { stood := { row := matGrowsRow, standIns := [], harness := (true, "885301b4dd9dc4705b0d6343db58d90a561d6f4d1229efd1cdaf6c901cd42f36"), looks := false }, kinds := [], alts := [], laidByText := true, laidKinds := [.data], laidTests := true, laidLooks := .later }
def MatGrowsCardSaid : Prop := Claim7.holds Tryd.pinned (.plain (OpenSpec.ofChange matGrowsSpec)) matGrowsCard

/-- THE TIED CARD OF 'warpbeamlaw03.MatFar'. -/
def matFarCard : Claim7 := { stood := { row := matFarRow, standIns := [], harness := (true, "885301b4dd9dc4705b0d6343db58d90a561d6f4d1229efd1cdaf6c901cd42f36"), looks := false }, kinds := [], alts := [], laidByText := true, laidKinds := [.data], laidTests := true, laidLooks := .later }
def MatFarCardSaid : Prop := Claim7.holds Tryd.pinned (.plain (OpenSpec.ofChange matFarSpec)) matFarCard

/-- THE TIED CARD OF 'warpbeamlaw03.MatSteps'. -/
def matStepsCard : Claim7 := { stood := { row := matStepsRow, standIns := [], harness := (true, "885301b4dd9dc4705b0d6343db58d90a561d6f4d1229efd1cdaf6c901cd42f36"), looks := false }, kinds := [], alts := [], laidByText := true, laidKinds := [.data], laidTests := true, laidLooks := .later }
def MatStepsCardSaid : Prop := Claim7.holds Tryd.pinned (.plain (OpenSpec.ofChange matStepsSpec)) matStepsCard

/-- THE SECOND FORM's CARD OF 'warpbeamlaw01.SetTells'. -/
def setTellsUptoCard : Claim7 := { stood := { row := setTellsUptoRow, standIns := [], harness := (true, "885301b4dd9dc4705b0d6343db58d90a561d6f4d1229efd1cdaf6c901cd42f36"), looks := false }, kinds := [], alts := [], laidByText := true, laidKinds := [.data], laidTests := true, laidLooks := .later }
def SetTellsUptoCardSaid : Prop := Claim7.holds Tryd.pinned (.plain (OpenSpec.upto setTellsSpec)) setTellsUptoCard

/-- THE SECOND FORM's CARD OF 'warpbeamlaw01.SetBack'. -/
def setBackUptoCard : Claim7 := { stood := { row := setBackUptoRow, standIns := [], harness := (true, "885301b4dd9dc4705b0d6343db58d90a561d6f4d1229efd1cdaf6c901cd42f36"), looks := false }, kinds := [], alts := [], laidByText := true, laidKinds := [.data], laidTests := true, laidLooks := .later }
def SetBackUptoCardSaid : Prop := Claim7.holds Tryd.pinned (.plain (OpenSpec.upto setBackSpec)) setBackUptoCard

/-- THE SECOND FORM's CARD OF 'warpbeamlaw01.SetApart'. -/
def setApartUptoCard : Claim7 := { stood := { row := setApartUptoRow, standIns := [], harness := (true, "885301b4dd9dc4705b0d6343db58d90a561d6f4d1229efd1cdaf6c901cd42f36"), looks := false }, kinds := [], alts := [], laidByText := true, laidKinds := [.data], laidTests := true, laidLooks := .later }
def SetApartUptoCardSaid : Prop := Claim7.holds Tryd.pinned (.plain (OpenSpec.upto setApartSpec)) setApartUptoCard

/-- THE SECOND FORM's CARD OF 'warpbeamlaw01.SetRises'. -/
def setRisesUptoCard : Claim7 := { stood := { row := setRisesUptoRow, standIns := [], harness := (true, "885301b4dd9dc4705b0d6343db58d90a561d6f4d1229efd1cdaf6c901cd42f36"), looks := false }, kinds := [], alts := [], laidByText := true, laidKinds := [.data], laidTests := true, laidLooks := .later }
def SetRisesUptoCardSaid : Prop := Claim7.holds Tryd.pinned (.plain (OpenSpec.upto setRisesSpec)) setRisesUptoCard

/-- THE SECOND FORM's CARD OF 'warpbeamlaw01.SetSums'. -/
def setSumsUptoCard : Claim7 := { stood := { row := setSumsUptoRow, standIns := [], harness := (true, "885301b4dd9dc4705b0d6343db58d90a561d6f4d1229efd1cdaf6c901cd42f36"), looks := false }, kinds := [], alts := [], laidByText := true, laidKinds := [.data], laidTests := true, laidLooks := .later }
def SetSumsUptoCardSaid : Prop := Claim7.holds Tryd.pinned (.plain (OpenSpec.upto setSumsSpec)) setSumsUptoCard

/-- THE SECOND FORM's CARD OF 'warpbeamlaw03.MatTells'. -/
def matTellsUptoCard : Claim7 := { stood := { row := matTellsUptoRow, standIns := [], harness := (true, "885301b4dd9dc4705b0d6343db58d90a561d6f4d1229efd1cdaf6c901cd42f36"), looks := false }, kinds := [], alts := [], laidByText := true, laidKinds := [.data], laidTests := true, laidLooks := .later }
def MatTellsUptoCardSaid : Prop := Claim7.holds Tryd.pinned (.plain (OpenSpec.upto matTellsSpec)) matTellsUptoCard

/-- THE SECOND FORM's CARD OF 'warpbeamlaw03.MatWays'. -/
def matWaysUptoCard : Claim7 := { stood := { row := matWaysUptoRow, standIns := [], harness := (true, "885301b4dd9dc4705b0d6343db58d90a561d6f4d1229efd1cdaf6c901cd42f36"), looks := false }, kinds := [], alts := [], laidByText := true, laidKinds := [.data], laidTests := true, laidLooks := .later }
def MatWaysUptoCardSaid : Prop := Claim7.holds Tryd.pinned (.plain (OpenSpec.upto matWaysSpec)) matWaysUptoCard

/-- THE SECOND FORM's CARD OF 'warpbeamlaw03.MatThrough'. -/
def matThroughUptoCard : Claim7 := { stood := { row := matThroughUptoRow, standIns := [], harness := (true, "885301b4dd9dc4705b0d6343db58d90a561d6f4d1229efd1cdaf6c901cd42f36"), looks := false }, kinds := [], alts := [], laidByText := true, laidKinds := [.data], laidTests := true, laidLooks := .later }
def MatThroughUptoCardSaid : Prop := Claim7.holds Tryd.pinned (.plain (OpenSpec.upto matThroughSpec)) matThroughUptoCard

/-- THE SECOND FORM's CARD OF 'warpbeamlaw03.MatCloses'. -/
def matClosesUptoCard : Claim7 := { stood := { row := matClosesUptoRow, standIns := [], harness := (true, "885301b4dd9dc4705b0d6343db58d90a561d6f4d1229efd1cdaf6c901cd42f36"), looks := false }, kinds := [], alts := [], laidByText := true, laidKinds := [.data], laidTests := true, laidLooks := .later }
def MatClosesUptoCardSaid : Prop := Claim7.holds Tryd.pinned (.plain (OpenSpec.upto matClosesSpec)) matClosesUptoCard

/-- THE SECOND FORM's CARD OF 'warpbeamlaw03.MatGrows'. -/
def matGrowsUptoCard : Claim7 := { stood := { row := matGrowsUptoRow, standIns := [], harness := (true, "885301b4dd9dc4705b0d6343db58d90a561d6f4d1229efd1cdaf6c901cd42f36"), looks := false }, kinds := [], alts := [], laidByText := true, laidKinds := [.data], laidTests := true, laidLooks := .later }
def MatGrowsUptoCardSaid : Prop := Claim7.holds Tryd.pinned (.plain (OpenSpec.upto matGrowsSpec)) matGrowsUptoCard

/-- THE SECOND FORM's CARD OF 'warpbeamlaw03.MatFar'. -/
def matFarUptoCard : Claim7 := { stood := { row := matFarUptoRow, standIns := [], harness := (true, "885301b4dd9dc4705b0d6343db58d90a561d6f4d1229efd1cdaf6c901cd42f36"), looks := false }, kinds := [], alts := [], laidByText := true, laidKinds := [.data], laidTests := true, laidLooks := .later }
def MatFarUptoCardSaid : Prop := Claim7.holds Tryd.pinned (.plain (OpenSpec.upto matFarSpec)) matFarUptoCard

/-- THE SECOND FORM's CARD OF 'warpbeamlaw03.MatSteps'. -/
def matStepsUptoCard : Claim7 := { stood := { row := matStepsUptoRow, standIns := [], harness := (true, "885301b4dd9dc4705b0d6343db58d90a561d6f4d1229efd1cdaf6c901cd42f36"), looks := false }, kinds := [], alts := [], laidByText := true, laidKinds := [.data], laidTests := true, laidLooks := .later }
def MatStepsUptoCardSaid : Prop := Claim7.holds Tryd.pinned (.plain (OpenSpec.upto matStepsSpec)) matStepsUptoCard
end Rows
end Go.Proofs.YtkgfepnkikcpiaaDoor
