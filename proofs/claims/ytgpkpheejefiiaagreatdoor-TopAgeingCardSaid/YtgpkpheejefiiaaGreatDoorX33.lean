/- The evaluator is right of this program. -/
import Derived.Test.YtgpkpheejefiiaaGreatDoorX31
import Derived.Test.YtgpkpheejefiiaaGreatDoorX32
import Derived.Test.YtgpkpheejefiiaaGreatDoorX14
import Derived.Test.YtgpkpheejefiiaaGreatDoorX21
set_option linter.unusedVariables false
namespace Go.Proofs.YtgpkpheejefiiaaGreatDoor
open Go.RowKit
theorem knowns_ok (f : Nat) (k : KN) (h : knownF f = some k) : KnOK f k := by
  unfold knownF at h
  split at h <;> first | (obtain rfl := Option.some.inj h) | (simp at h)
  · exact kn156
  · exact kn205
  · exact kn309
  · exact kn346
  · exact kn111
  · exact kn112
  · exact kn189
  · exact kn190
  · exact kn191
  · exact kn239
  · exact kn99
  · exact kn344
  · exact kn90
  · exact kn339
  · exact kn338
  · exact kn225
theorem mixedT : Tryz.prog.follows .mixedOrders = true := by first | kernel_rfl | rfl
theorem F1_ok : FnsOK F1 where
  tab := tabZ_ok
  fn := fun f g h => ⟨(fnTab_ok f g h).1, (fnTab_ok f g h).2.1⟩
  any := fun f g c h hb => plans_ok tabZ_ok mixedT (fun f g h => (fnTab_ok f g h).2.2) f g c h hb
  known := fun f k h => knowns_ok f k h
/-- What the evaluator tells is what the call comes to. -/
theorem runF_ok {f : Nat} {args : List SV} {S : Tr} {nx : Nat} {s : SV} {S' : Tr} {nx' : Nat} (h : runF f args S nx = .val s S' nx') {r : Pl} {w : World} {args' : List Value} (hs : Sim r S nx w) (hG : Glob r) (ha : EmbL r args args')
    (he : (callFunc f args'.toArray).run Tryz.prog w = .ok (.enter f args'.toArray) w) : Calls Tryz.prog f args'.toArray w fun e w' => ∃ r' v, e = .returned v ∧ r.le r' ∧ Sim r' S' nx' w' ∧ Emb r' s v ∧ Upd (feet r) w (feet r') w' :=
  (run_ok F1_ok 60 f args S nx s S' nx' h r w args' hs hG ha).calls he
end Go.Proofs.YtgpkpheejefiiaaGreatDoor
