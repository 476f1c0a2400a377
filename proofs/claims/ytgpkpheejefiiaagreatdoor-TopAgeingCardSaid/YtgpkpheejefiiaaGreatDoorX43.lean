/- Arrays of 7 members: run by the evaluator in the kernel. -/
import Derived.Test.YtgpkpheejefiiaaGreatDoorX03
namespace Go.Proofs.YtgpkpheejefiiaaGreatDoor
set_option maxRecDepth 1000000 in
theorem beg71 : begB 7 1 = true := by decide +kernel
set_option maxRecDepth 1000000 in
theorem beg72 : begB 7 2 = true := by decide +kernel
set_option maxRecDepth 1000000 in
theorem beg73 : begB 7 3 = true := by decide +kernel
set_option maxRecDepth 1000000 in
theorem beg74 : begB 7 4 = true := by decide +kernel
set_option maxRecDepth 1000000 in
theorem beg75 : begB 7 5 = true := by decide +kernel
set_option maxRecDepth 1000000 in
theorem beg76 : begB 7 6 = true := by decide +kernel
end Go.Proofs.YtgpkpheejefiiaaGreatDoor
