/- Signs of life: run by the evaluator in the kernel. -/
import Derived.Test.YtgpkpheejefiiaaGreatDoorX33
set_option linter.unusedVariables false
namespace Go.Proofs.YtgpkpheejefiiaaGreatDoor
open Go.RowKit
noncomputable def livesB (x : VO) : Bool := match x with
  | .val (.bool b) S _ => aB b (glob2 S)
  | _ => false
set_option maxRecDepth 1000000 in
theorem livesRun : livesB (runF 7 [] T00 3) = true := by decide +kernel
theorem lives_ok (w : World) (hw : GW w) : Calls Tryz.prog 7 #[] w fun e w' => e = .returned (.bool true) ∧ Bel w w' := by
  have h := livesRun
  unfold livesB at h
  split at h
  · rename_i b S n he
    obtain ⟨h1, h2⟩ := aB_true h
    subst h1
    refine (pure_call (run_ok F1_ok 60) he h2 hw .nil (enter_run (by kernel_rfl) _ _)).mono ?_
    rintro e w' ⟨⟨r', v, rfl, hv⟩, hb⟩
    cases hv
    exact ⟨rfl, hb⟩
  · simp at h
end Go.Proofs.YtgpkpheejefiiaaGreatDoor
