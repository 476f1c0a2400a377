/- A region that draws its order, walked once in the order of the text: its operations are quiet in a class of worlds. Steps for Derived/Deep/Quiet.lean's walk. -/
import Derived.Deep.Quiet
namespace Go.Proofs.Ytjgekbakommkmaa.QuietC
open Go
variable {P : Program} {ops : Array Oper} {C : World → Prop}
/-- What is asked of an operation, what follows being K. -/
def qC (P : Program) (ops : Array Oper) (o : Oper) (a : Act) (C : World → Prop) (K : Act → Prop) : Prop :=
  if Region.wanted o (yielded ops a.tmps) then o.quiet P a C K else K (a.put o.dst undef)
theorem step {Q : Act → Prop} {a : Act} {o : Oper} {rest : List Oper} (h : ∀ K : Act → Prop, (∀ a, wpQuiet P ops C Q rest a → K a) → qC P ops o a C K) : wpQuiet P ops C Q (o :: rest) a :=
  wpQuiet_step h
theorem val {o : Oper} {a : Act} {K : Act → Prop} (v : Value) (hw : Region.wanted o (yielded ops a.tmps) = true) (hrun : ∀ w, C w → (execOp a.eval o).run P w = .ok (.value v) w) (hk : K (a.put o.dst v)) : qC P ops o a C K := by
  unfold qC
  rw [if_pos hw]
  exact ⟨v, fun w hC => by unfold Oper.quietAt; rw [hrun w hC]; exact ⟨rfl, rfl⟩, hk⟩
theorem off {o : Oper} {a : Act} {K : Act → Prop} (hw : Region.wanted o (yielded ops a.tmps) = false) (hk : K (a.put o.dst undef)) : qC P ops o a C K := by
  unfold qC
  rw [hw]
  exact hk
theorem call {o : Oper} {a : Act} {K : Act → Prop} (f : FuncId) (args : Array Value) (v : Value) (hw : Region.wanted o (yielded ops a.tmps) = true) (hrun : ∀ w, C w → (execOp a.eval o).run P w = .ok (.enter f args) w)
    (hc : ∀ w, C w → Calls P f args w fun e w' => e = .returned v ∧ C w') (hk : K (a.put o.dst v)) : qC P ops o a C K := by
  unfold qC
  rw [if_pos hw]
  exact ⟨v, fun w hC => by unfold Oper.quietAt; rw [hrun w hC]; exact ⟨rfl, hc w hC⟩, hk⟩
end Go.Proofs.Ytjgekbakommkmaa.QuietC
