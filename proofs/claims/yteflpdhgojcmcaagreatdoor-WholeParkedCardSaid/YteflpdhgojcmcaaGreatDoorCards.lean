/-
  DERIVED. GIVEN WITH THE SEED: THE CARDS: each row of YteflpdhgojcmcaaGreatDoorRows.lean that lists a variable, with what it lists TIED to the program's text (the seventh form; the later family's looks); each row that meets fmt, with fmt's text TOLD by the authors' own Lean function (tested against real Go, not proved from fmt's source: count such statements apart). THE CARD IS WHAT COUNTS. Prove the row's statement (the work); the ties are given (YteflpdhgojcmcaaGreatDoorTie.lean); close each card by the builder's one call (the guide's Derived/Test/ToyasCard.lean, 'card_holds'). Laid BY PROGRAM, IN A SANDBOX (cutbox-door.mjs). By AI agents, Wed Nov 11 2026. No macro, syntax, notation, axiom, sorry.
-/
import Derived.Test.YteflpdhgojcmcaaGreatDoorRows
import GoSem.ClaimSeven
namespace Go.Proofs.YteflpdhgojcmcaaGreatDoor
namespace Rows

/-- THE TIED CARD OF 'warpbeamtop.WholeOnce'. -/
def wholeOnceCard : Claim7 := { stood := { row := wholeOnceRow, standIns := [], harness := (true, "791aa0bf8cf026ddd6bd2b6c312e414cceb6376b4348dc7e0edde0633b474158"), looks := true }, kinds := [], alts := [], laidByText := true, laidKinds := [.data], laidTests := true, laidLooks := .later }
def WholeOnceCardSaid : Prop := Claim7.holds Tryz.pinned (.plain (OpenSpec.ofChange wholeOnceSpec)) wholeOnceCard

/-- THE TIED CARD OF 'warpbeamtop.WholeParked'. -/
def wholeParkedCard : Claim7 := { stood := { row := wholeParkedRow, standIns := [], harness := (true, "791aa0bf8cf026ddd6bd2b6c312e414cceb6376b4348dc7e0edde0633b474158"), looks := true }, kinds := [], alts := [], laidByText := true, laidKinds := [.data], laidTests := true, laidLooks := .later }
def WholeParkedCardSaid : Prop := Claim7.holds Tryz.pinned (.plain (OpenSpec.ofChange wholeParkedSpec)) wholeParkedCard

/-- THE SECOND FORM's CARD OF 'warpbeamtop.WholeOnce'. -/
def wholeOnceUptoCard : Claim7 := { stood := { row := wholeOnceUptoRow, standIns := [], harness := (true, "791aa0bf8cf026ddd6bd2b6c312e414cceb6376b4348dc7e0edde0633b474158"), looks := true }, kinds := [], alts := [], laidByText := true, laidKinds := [.data], laidTests := true, laidLooks := .later }
def WholeOnceUptoCardSaid : Prop := Claim7.holds Tryz.pinned (.plain (OpenSpec.upto wholeOnceSpec)) wholeOnceUptoCard

/-- THE SECOND FORM's CARD OF 'warpbeamtop.WholeParked'. -/
def wholeParkedUptoCard : Claim7 := { stood := { row := wholeParkedUptoRow, standIns := [], harness := (true, "791aa0bf8cf026ddd6bd2b6c312e414cceb6376b4348dc7e0edde0633b474158"), looks := true }, kinds := [], alts := [], laidByText := true, laidKinds := [.data], laidTests := true, laidLooks := .later }
def WholeParkedUptoCardSaid : Prop := Claim7.holds Tryz.pinned (.plain (OpenSpec.upto wholeParkedSpec)) wholeParkedUptoCard
end Rows
end Go.Proofs.YteflpdhgojcmcaaGreatDoor
