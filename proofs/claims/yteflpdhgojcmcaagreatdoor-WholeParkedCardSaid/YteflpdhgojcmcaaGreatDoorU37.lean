/- The plain law at reader 0 writer 2, reader 0 writer 3, reader 1 writer 0. No conditions but those that each theorem names. -/
import Derived.Test.YteflpdhgojcmcaaGreatDoorU01
import Derived.Test.YteflpdhgojcmcaaGreatDoorU36
namespace Go.Proofs.YteflpdhgojcmcaaGreatDoor
theorem fine02 : fineAll 0 2 = true := by decide +kernel
theorem fine03 : fineAll 0 3 = true := by decide +kernel
theorem fine10 : fineAll 1 0 = true := by decide +kernel
end Go.Proofs.YteflpdhgojcmcaaGreatDoor
