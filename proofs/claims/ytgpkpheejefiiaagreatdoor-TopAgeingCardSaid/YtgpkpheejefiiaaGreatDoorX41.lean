/- Arrays of 5 members: run by the evaluator in the kernel. -/
import Derived.Test.YtgpkpheejefiiaaGreatDoorX03
namespace Go.Proofs.YtgpkpheejefiiaaGreatDoor
set_option maxRecDepth 1000000 in
theorem beg51 : begB 5 1 = true := by decide +kernel
set_option maxRecDepth 1000000 in
theorem beg52 : begB 5 2 = true := by decide +kernel
set_option maxRecDepth 1000000 in
theorem beg53 : begB 5 3 = true := by decide +kernel
set_option maxRecDepth 1000000 in
theorem beg54 : begB 5 4 = true := by decide +kernel
set_option maxRecDepth 1000000 in
theorem beg55 : begB 5 5 = true := by decide +kernel
set_option maxRecDepth 1000000 in
theorem beg56 : begB 5 6 = true := by decide +kernel
end Go.Proofs.YtgpkpheejefiiaaGreatDoor
