/- The row of QueueFull: whatever the input, the law returns true. It holds without a condition. -/
import Derived.Test.YtffegfidaolgjaaRows
import Derived.Test.YtffegfidaolgjaaLFull
import Derived.WalkKit
import Derived.ProofKit
import Derived.OpenShut
import Derived.ShutString
import Derived.ChangeOld
import Derived.Below
import Derived.SizedLaws
import Derived.Lib.SmallJoins
namespace Go.Proofs.Ytffegfidaolgjaa.queueFull
open Go.ChangeShapes Go.WideShapes Go.ChangeAt Go.RowKit
open Go.ChangeMaps (open_string shut_string)
set_option linter.unusedVariables false
theorem own : ownKnob Try.prog.godebug = none := by kernel_rfl
theorem laidOut : laidOutB Try.prog = true := by kernel_rfl
set_option maxRecDepth 100000 in
theorem open_arg1 {w : World} {b0 : Nat} {args : Value} (h : Value.okWide Try.prog w .any b0 23 args) : ∃ (x0 : Int) (x1 : Int) (x2 : Bool) (x3 : Bool), args = .agg #[.int .i64 x0, .int .u8 x1, .bool x2, .bool x3] ∧ IntKind.has .i64 x0 ∧ IntKind.has .u8 x1 := by
  simp only [Value.okWide, Try.underlying23] at h
  obtain ⟨cs, rfl, hsz, ts, hts, _, hc⟩ := h
  have hts' : Try.prog.cellTypes Try.prog.depth 23 = some [3, 5, 4, 4] := by kernel_rfl
  obtain rfl : [3, 5, 4, 4] = ts := Option.some.inj (hts'.symm.trans hts)
  have hcn : Try.prog.cellsOf 23 = 4 := by kernel_rfl
  rw [hcn] at hsz
  clear hts hts' hcn
  obtain ⟨u0, hu0, g0⟩ := hc 0 cs[0] (Array.getElem?_eq_getElem (by omega))
  obtain rfl : 3 = u0 := by simpa using hu0
  simp only [Cell.okWide, Try.underlying3] at g0
  obtain ⟨x0, e0, w0⟩ : ∃ x, cs[0] = .int .i64 x ∧ IntKind.has .i64 x := by
    generalize cs[0] = c at g0
    cases c <;> simp [Cell.ok, Try.underlying3] at g0
    obtain ⟨rfl, g⟩ := g0
    exact ⟨_, rfl, g⟩
  obtain ⟨u1, hu1, g1⟩ := hc 1 cs[1] (Array.getElem?_eq_getElem (by omega))
  obtain rfl : 5 = u1 := by simpa using hu1
  simp only [Cell.okWide, Try.underlying5] at g1
  obtain ⟨x1, e1, w1⟩ : ∃ x, cs[1] = .int .u8 x ∧ IntKind.has .u8 x := by
    generalize cs[1] = c at g1
    cases c <;> simp [Cell.ok, Try.underlying5] at g1
    obtain ⟨rfl, g⟩ := g1
    exact ⟨_, rfl, g⟩
  obtain ⟨u2, hu2, g2⟩ := hc 2 cs[2] (Array.getElem?_eq_getElem (by omega))
  obtain rfl : 4 = u2 := by simpa using hu2
  simp only [Cell.okWide, Try.underlying4] at g2
  obtain ⟨x2, e2⟩ : ∃ x, cs[2] = .bool x := by
    cases h : cs[2] <;> rw [h] at g2 <;> simp_all [Cell.ok]
  obtain ⟨u3, hu3, g3⟩ := hc 3 cs[3] (Array.getElem?_eq_getElem (by omega))
  obtain rfl : 4 = u3 := by simpa using hu3
  simp only [Cell.okWide, Try.underlying4] at g3
  obtain ⟨x3, e3⟩ : ∃ x, cs[3] = .bool x := by
    cases h : cs[3] <;> rw [h] at g3 <;> simp_all [Cell.ok]
  refine ⟨x0, x1, x2, x3, ?_, w0, w1⟩
  congr 1
  apply Array.ext
  · simpa using hsz
  · intro i h1 h2
    have : i = 0 ∨ i = 1 ∨ i = 2 ∨ i = 3 := by simp at h2; omega
    rcases this with rfl | rfl | rfl | rfl <;> simp [e0, e1, e2, e3]
set_option maxRecDepth 100000 in
theorem lifted (os : Os) (started : os.Started) (H : Type) (enc : TypeId × Value → H) :
    ReturnsInHanded {} Try.checked os 3 .any (Rows.queueFullSpec.pre6 enc Try.prog Try.f3 Rows.queueFullRow.domain false) (Rows.queueFullSpec.post enc Try.prog Try.f3 false true false false) := by
  refine returnsInHanded_of_change_sized (C := Try.checked) own started (by kernel_rfl) Try.func3
    (ChangeSpec.witness6 (enc := enc) (C := Try.checked) false ⟨#[], #[.int .i64 0, .agg #[.int .i64 0, .int .u8 0, .bool false, .bool false]], []⟩ 8 (by kernel_rfl) (by kernel_rfl) (by kernel_rfl) (by kernel_rfl)) ?_
  intro W base args ds gs before hval0 hW hcnd hsz0 _
  have hsz : (DataW.weightsEach Try.prog (Try.f3.params.toList ++ Rows.queueFullSpec.plain.varTypes Try.prog) (ds ++ gs)).all (· ≤ reachBytes) = true := hsz0
  have hval : ∀ (j : Nat) t v, Try.f3.params[j]? = some t → args[j]? = some v → Value.okWide Try.prog W .any base t v := hval0
  have hW' := hW
  obtain ⟨p, q, hA0, hV, rfl, hfz, hnd⟩ := hW
  have hA : DataW.TrodAll enc Try.prog W 0 (fun _ => true) true Try.f3.params.toList args.toList ds p := hA0
  rw [Try.params3] at hA hval hsz
  obtain ⟨v0, vs0, d0, ds0, p0, q0, hargs, rfl, rfl, h0, r0⟩ := trodAll_cons hA
  obtain ⟨v1, vs1, d1, ds1, p1, q1, rfl, rfl, rfl, h1, r1⟩ := trodAll_cons r0
  obtain ⟨rfl, rfl, rfl⟩ := trodAll_nil r1
  obtain rfl : args = #[v0, v1] := by cases args; simp_all
  obtain ⟨rfl, rfl⟩ := trodVars_none hV
  obtain ⟨a0, rfl, rfl, rfl, w0⟩ := open_int Try.underlying3 (hval 0 3 v0 rfl rfl) h0
  have k1 := h1
  have lt1 : ∀ x ∈ p1, x.block < W.heap.size := by obtain ⟨m, hm⟩ := k1; exact DataW.trod_lt m _ _ _ hm
  obtain ⟨a1_0, a1_1, a1_2, a1_3, rfl, w1_0, w1_1⟩ := open_arg1 (hval 1 23 v1 rfl rfl)
  clear hA0 hval0 hsz0 hsz
  refine (lawFullW a0 a1_0 a1_1 a1_2 a1_3 W).mono fun e W' ⟨he, bel⟩ => ?_
  subst he
  exact ⟨_, rfl, _, _, _, [], _, [], hW', trodAll_mk1 (shut_bool Try.underlying4 _), (trodAll_cons_mk (shut_int Try.underlying3 w0) (trodAll_cons_mk (Below.trod laidOut (by kernel_rfl) (of_decide_eq_true (by kernel_rfl)) k1 bel lt1) trodAll_mk0)), rfl, bel.frame _, fun h => by cases h⟩
theorem over : Rows.queueFullRow.holds Try.pinned (OpenSpec.ofChange Rows.queueFullSpec) :=
  OpenClaim.holds_of_wide 3 Try.f3 rfl rfl rfl rfl rfl rfl rfl ⟨rfl, rfl, rfl, rfl, rfl⟩ rfl rfl rfl rfl rfl (by kernel_rfl) Try.func3 (by kernel_rfl)
    (of_decide_eq_true (by kernel_rfl)) (by unfold Func.isWrapper; first | (rw [if_pos (by decide +kernel)]; kernel_rfl) | (rw [if_neg (by decide +kernel)]; exact ⟨rfl, rfl⟩))
    (fun os started H enc _ => lifted os started H enc)
theorem proved : Rows.QueueFullSaid := over
end Go.Proofs.Ytffegfidaolgjaa.queueFull
namespace Go.Proofs.Ytffegfidaolgjaa
/-- The row, under a short name, for the claim. -/
theorem queueFull_holds : Rows.QueueFullSaid := queueFull.proved
end Go.Proofs.Ytffegfidaolgjaa

