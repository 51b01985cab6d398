/- The plain law at reader 2 writer 1, reader 2 writer 3, reader 3 writer 0. No conditions but those that each theorem names. -/
import Derived.Test.YteflpdhgojcmcaaGreatDoorU01
import Derived.Test.YteflpdhgojcmcaaGreatDoorU36
namespace Go.Proofs.YteflpdhgojcmcaaGreatDoor
theorem fine21 : fineAll 2 1 = true := by decide +kernel
theorem fine23 : fineAll 2 3 = true := by decide +kernel
theorem fine30 : fineAll 3 0 = true := by decide +kernel
end Go.Proofs.YteflpdhgojcmcaaGreatDoor
