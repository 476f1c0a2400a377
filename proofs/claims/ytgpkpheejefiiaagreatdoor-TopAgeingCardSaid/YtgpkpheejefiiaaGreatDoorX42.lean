/- Arrays of 6 members: run by the evaluator in the kernel. -/
import Derived.Test.YtgpkpheejefiiaaGreatDoorX03
namespace Go.Proofs.YtgpkpheejefiiaaGreatDoor
set_option maxRecDepth 1000000 in
theorem beg61 : begB 6 1 = true := by decide +kernel
set_option maxRecDepth 1000000 in
theorem beg62 : begB 6 2 = true := by decide +kernel
set_option maxRecDepth 1000000 in
theorem beg63 : begB 6 3 = true := by decide +kernel
set_option maxRecDepth 1000000 in
theorem beg64 : begB 6 4 = true := by decide +kernel
set_option maxRecDepth 1000000 in
theorem beg65 : begB 6 5 = true := by decide +kernel
set_option maxRecDepth 1000000 in
theorem beg66 : begB 6 6 = true := by decide +kernel
end Go.Proofs.YtgpkpheejefiiaaGreatDoor
