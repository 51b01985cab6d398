/- The plain law at reader 3 writer 1, reader 3 writer 2. No conditions but those that each theorem names. -/
import Derived.Test.YteflpdhgojcmcaaGreatDoorU01
import Derived.Test.YteflpdhgojcmcaaGreatDoorU36
namespace Go.Proofs.YteflpdhgojcmcaaGreatDoor
theorem fine31 : fineAll 3 1 = true := by decide +kernel
theorem fine32 : fineAll 3 2 = true := by decide +kernel
end Go.Proofs.YteflpdhgojcmcaaGreatDoor
