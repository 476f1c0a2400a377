/- Arrays of 4 members: run by the evaluator in the kernel. -/
import Derived.Test.YtgpkpheejefiiaaGreatDoorX03
namespace Go.Proofs.YtgpkpheejefiiaaGreatDoor
set_option maxRecDepth 1000000 in
theorem beg41 : begB 4 1 = true := by decide +kernel
set_option maxRecDepth 1000000 in
theorem beg42 : begB 4 2 = true := by decide +kernel
set_option maxRecDepth 1000000 in
theorem beg43 : begB 4 3 = true := by decide +kernel
set_option maxRecDepth 1000000 in
theorem beg44 : begB 4 4 = true := by decide +kernel
set_option maxRecDepth 1000000 in
theorem beg45 : begB 4 5 = true := by decide +kernel
set_option maxRecDepth 1000000 in
theorem beg46 : begB 4 6 = true := by decide +kernel
end Go.Proofs.YtgpkpheejefiiaaGreatDoor
