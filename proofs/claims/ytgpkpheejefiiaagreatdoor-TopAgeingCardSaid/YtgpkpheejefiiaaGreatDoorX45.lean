/- The closed facts of TopAgeing's row, each by itself. -/
import Derived.Test.YtgpkpheejefiiaaGreatDoorRows
import Derived.Test.YtgpkpheejefiiaaGreatDoorTie
import Derived.Test.YtgpkpheejefiiaaGreatDoorCards
import Derived.Test.YtgpkpheejefiiaaGreatDoorChecked
import Derived.JoinedOf
import Derived.SevenTiedAt
import Derived.Handed
namespace Go.Proofs.YtgpkpheejefiiaaGreatDoor.topAgeing
open Go
set_option maxRecDepth 100000
theorem cf1 : (Rows.topAgeingRow.inPlace == Tryz.prog.inPlace 3) = true := by kernel_rfl
theorem cf2 : (Rows.topAgeingRow.unfollowed == Tryz.prog.unfollowed 3) = true := by kernel_rfl
theorem cf3 : (Rows.topAgeingRow.recurses == Tryz.prog.recurses 3) = true := by kernel_rfl
theorem cf4 : (Rows.topAgeingRow.named == Tryz.prog.varsNamed 3) = true := by kernel_rfl
theorem cf5 : (Rows.topAgeingRow.wf (OpenSpec.ofChange Rows.topAgeingSpec) && laidOutB Tryz.prog && mapsRowed Tryz.prog && Tryz.f3.params.all (Tryz.prog.readableRec ·) && namedTie Tryz.prog Rows.topAgeingRow.named Rows.topAgeingSpec.vars && (Rows.topAgeingRow.stops == []) && (Tryz.prog.stops == []) && (Rows.topAgeingRow.knobs == []) && (Tryz.prog.stopKnobs == [])) = true := by kernel_rfl
theorem cf7 : Tryz.prog.stopsHeard = true := by kernel_rfl
theorem cf8 : Tryz.prog.mayEnter = true := by kernel_rfl
theorem cf9 : (Rows.topAgeingRow.lifted == Tryz.prog.liftsFinal) = true := by kernel_rfl
theorem cf10 : (Tryz.prog.make == some Rows.topAgeingRow.make) = true := by kernel_rfl
theorem cf12 : (Rows.topAgeingRow.plainKeys == Tryz.prog.plainKeys) = true := by kernel_rfl
theorem and1 {a b : Bool} (ha : a = true) (hb : b = true) : (a && b) = true := by rw [ha, hb]; rfl
theorem cfAll : joinedFacts Tryz.prog 3 Tryz.f3 Rows.topAgeingSpec Rows.topAgeingRow = true := by
  unfold joinedFacts
  exact and1 (and1 (and1 (and1 (and1 (and1 (and1 (and1 (and1 (and1 (and1 (and1 (and1 (and1 (and1 (and1 (and1 (and1 (and1 (and1 (and1 (and1 (and1 cf5 cf1) cf2) cf3) cf4) (by kernel_rfl)) (by kernel_rfl)) (by kernel_rfl)) (by kernel_rfl)) (by kernel_rfl)) (by kernel_rfl)) (by kernel_rfl)) (by kernel_rfl)) (by kernel_rfl)) cf12) (by kernel_rfl)) cf7) cf8) cf9) cf10) (by kernel_rfl)) (by kernel_rfl)) (by kernel_rfl)) (by kernel_rfl)
theorem cf13 : Tryz.f3.isInstance Tryz.prog Rows.topAgeingRow.origin Rows.topAgeingRow.targs := of_decide_eq_true (by kernel_rfl)
theorem cf14 : Tryz.f3.isWrapper Tryz.prog Rows.topAgeingRow.wrapper Rows.topAgeingRow.mainSum := by unfold Func.isWrapper; first | (rw [if_pos (by decide +kernel)]; kernel_rfl) | (rw [if_neg (by decide +kernel)]; exact ⟨rfl, rfl⟩)
theorem cg1 : Rows.topAgeingRow.wfByText (OpenSpec.ofChange Rows.topAgeingSpec) = true := by kernel_rfl
theorem cg2 : Tryz.prog.mainIs = some (true, "8580c5d3ab1ef80a409cf26dee30f9800b769394e50cceecab1067241b87fa71".toList) := by kernel_rfl
theorem cg3 : Tryz.prog.funcNamed Rows.topAgeingRow.func = some 3 := by kernel_rfl
theorem cg4 : false = Tryz.prog.looks [] := by kernel_rfl
theorem cg5 : Tryz.prog.wantsStandIn 23 = false := by kernel_rfl
theorem cg6 : Tryz.prog.wantsStandIn 24 = false := by kernel_rfl
theorem cg7 : false = Rows.topAgeingRow.goesBy Tryz.prog := by kernel_rfl
end Go.Proofs.YtgpkpheejefiiaaGreatDoor.topAgeing
