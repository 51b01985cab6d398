/- The plain law at reader 1 writer 2, reader 1 writer 3, reader 2 writer 0. No conditions but those that each theorem names. -/
import Derived.Test.YteflpdhgojcmcaaGreatDoorU01
import Derived.Test.YteflpdhgojcmcaaGreatDoorU36
namespace Go.Proofs.YteflpdhgojcmcaaGreatDoor
theorem fine12 : fineAll 1 2 = true := by decide +kernel
theorem fine13 : fineAll 1 3 = true := by decide +kernel
theorem fine20 : fineAll 2 0 = true := by decide +kernel
end Go.Proofs.YteflpdhgojcmcaaGreatDoor
