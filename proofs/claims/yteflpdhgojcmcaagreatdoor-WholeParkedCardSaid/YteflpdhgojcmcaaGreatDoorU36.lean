/- The plain law at reader 0, writer 1. No conditions but those that each theorem names. -/
import Derived.Test.YteflpdhgojcmcaaGreatDoorU01
import Derived.Test.YteflpdhgojcmcaaGreatDoorU35
namespace Go.Proofs.YteflpdhgojcmcaaGreatDoor
def fineAll (k o : Nat) : Bool := match parkedM (k : Int) with
  | none => false
  | some P => P.still && decide (states P = [(2, 0)]) && (List.range 256).all (fun n => fine2 P k o n)
theorem fine01 : fineAll 0 1 = true := by decide +kernel
end Go.Proofs.YteflpdhgojcmcaaGreatDoor
