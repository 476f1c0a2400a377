/- All arrays of the law. -/
import Derived.Test.YtgpkpheejefiiaaGreatDoorX40
import Derived.Test.YtgpkpheejefiiaaGreatDoorX41
import Derived.Test.YtgpkpheejefiiaaGreatDoorX42
import Derived.Test.YtgpkpheejefiiaaGreatDoorX43
namespace Go.Proofs.YtgpkpheejefiiaaGreatDoor
theorem beg_all (M Q : Nat) (h1 : 4 ≤ M) (h2 : M ≤ 7) (h3 : 1 ≤ Q) (h4 : Q ≤ 6) : begB M Q = true := by
  obtain rfl | rfl | rfl | rfl : M = 4 ∨ M = 5 ∨ M = 6 ∨ M = 7 := by omega
  · obtain rfl | rfl | rfl | rfl | rfl | rfl : Q = 1 ∨ Q = 2 ∨ Q = 3 ∨ Q = 4 ∨ Q = 5 ∨ Q = 6 := by omega
    · exact beg41
    · exact beg42
    · exact beg43
    · exact beg44
    · exact beg45
    · exact beg46
  · obtain rfl | rfl | rfl | rfl | rfl | rfl : Q = 1 ∨ Q = 2 ∨ Q = 3 ∨ Q = 4 ∨ Q = 5 ∨ Q = 6 := by omega
    · exact beg51
    · exact beg52
    · exact beg53
    · exact beg54
    · exact beg55
    · exact beg56
  · obtain rfl | rfl | rfl | rfl | rfl | rfl : Q = 1 ∨ Q = 2 ∨ Q = 3 ∨ Q = 4 ∨ Q = 5 ∨ Q = 6 := by omega
    · exact beg61
    · exact beg62
    · exact beg63
    · exact beg64
    · exact beg65
    · exact beg66
  · obtain rfl | rfl | rfl | rfl | rfl | rfl : Q = 1 ∨ Q = 2 ∨ Q = 3 ∨ Q = 4 ∨ Q = 5 ∨ Q = 6 := by omega
    · exact beg71
    · exact beg72
    · exact beg73
    · exact beg74
    · exact beg75
    · exact beg76
end Go.Proofs.YtgpkpheejefiiaaGreatDoor
