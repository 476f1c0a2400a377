/- The row of SpansPlaces: whatever the input, the law returns true. It holds without a condition. -/
import Derived.Test.YtjgekbakommkmaaRows
import Derived.Test.YtjgekbakommkmaaLPlaces
import Derived.WalkKit
import Derived.ProofKit
import Derived.OpenShut
import Derived.ShutString
import Derived.ChangeOld
import Derived.Below
import Derived.SizedLaws
import Derived.Lib.SmallJoins
import Derived.Test.YtjgekbakommkmaaOpen
namespace Go.Proofs.Ytjgekbakommkmaa.spansPlaces
open Go.ChangeShapes Go.WideShapes Go.ChangeAt Go.RowKit
open Go.ChangeMaps (open_string shut_string)
set_option linter.unusedVariables false
theorem own : ownKnob Try.prog.godebug = none := by kernel_rfl
theorem laidOut : laidOutB Try.prog = true := by kernel_rfl
set_option maxRecDepth 100000 in
theorem open_arg1 {w : World} {b0 : Nat} {args : Value} (h : Value.okWide Try.prog w .any b0 24 args) : ∃ (x0 : Int) (x1 : Int), args = .agg #[.int .i64 x0, .int .i64 x1] ∧ IntKind.has .i64 x0 ∧ IntKind.has .i64 x1 := by
  simp only [Value.okWide, Try.underlying24] at h
  obtain ⟨cs, rfl, hsz, ts, hts, _, hc⟩ := h
  have hts' : Try.prog.cellTypes Try.prog.depth 24 = some [3, 3] := by kernel_rfl
  obtain rfl : [3, 3] = ts := Option.some.inj (hts'.symm.trans hts)
  have hcn : Try.prog.cellsOf 24 = 2 := by kernel_rfl
  rw [hcn] at hsz
  clear hts hts' hcn
  obtain ⟨u0, hu0, g0⟩ := hc 0 cs[0] (Array.getElem?_eq_getElem (by omega))
  obtain rfl : 3 = u0 := by simpa using hu0
  simp only [Cell.okWide, Try.underlying3] at g0
  obtain ⟨x0, e0, w0⟩ : ∃ x, cs[0] = .int .i64 x ∧ IntKind.has .i64 x := by
    generalize cs[0] = c at g0
    cases c <;> simp [Cell.ok, Try.underlying3] at g0
    obtain ⟨rfl, g⟩ := g0
    exact ⟨_, rfl, g⟩
  obtain ⟨u1, hu1, g1⟩ := hc 1 cs[1] (Array.getElem?_eq_getElem (by omega))
  obtain rfl : 3 = u1 := by simpa using hu1
  simp only [Cell.okWide, Try.underlying3] at g1
  obtain ⟨x1, e1, w1⟩ : ∃ x, cs[1] = .int .i64 x ∧ IntKind.has .i64 x := by
    generalize cs[1] = c at g1
    cases c <;> simp [Cell.ok, Try.underlying3] at g1
    obtain ⟨rfl, g⟩ := g1
    exact ⟨_, rfl, g⟩
  refine ⟨x0, x1, ?_, w0, w1⟩
  congr 1
  apply Array.ext
  · simpa using hsz
  · intro i h1 h2
    have : i = 0 ∨ i = 1 := by simp at h2; omega
    rcases this with rfl | rfl <;> simp [e0, e1]
set_option maxRecDepth 100000 in
theorem lifted (os : Os) (started : os.Started) (H : Type) (enc : TypeId × Value → H) :
    ReturnsInHanded {} Try.checked os 6 .any (Rows.spansPlacesSpec.pre6 enc Try.prog Try.f6 Rows.spansPlacesRow.domain false) (Rows.spansPlacesSpec.post enc Try.prog Try.f6 false true false false) := by
  refine returnsInHanded_of_change_sized (C := Try.checked) own started (by kernel_rfl) Try.func6
    (ChangeSpec.witness6 (enc := enc) (C := Try.checked) false ⟨#[], #[.slice none 0 0, .agg #[.int .i64 0, .int .i64 0], .int .i64 0], []⟩ 8 (by kernel_rfl) (by kernel_rfl) (by kernel_rfl) (by kernel_rfl)) ?_
  intro W base args ds gs before hval0 hW hcnd hsz0 _
  have hsz : (DataW.weightsEach Try.prog (Try.f6.params.toList ++ Rows.spansPlacesSpec.plain.varTypes Try.prog) (ds ++ gs)).all (· ≤ reachBytes) = true := hsz0
  have hval : ∀ (j : Nat) t v, Try.f6.params[j]? = some t → args[j]? = some v → Value.okWide Try.prog W .any base t v := hval0
  have hW' := hW
  obtain ⟨p, q, hA0, hV, rfl, hfz, hnd⟩ := hW
  have hA : DataW.TrodAll enc Try.prog W 0 (fun _ => true) true Try.f6.params.toList args.toList ds p := hA0
  rw [Try.params6] at hA hval hsz
  obtain ⟨v0, vs0, d0, ds0, p0, q0, hargs, rfl, rfl, h0, r0⟩ := trodAll_cons hA
  obtain ⟨v1, vs1, d1, ds1, p1, q1, rfl, rfl, rfl, h1, r1⟩ := trodAll_cons r0
  obtain ⟨v2, vs2, d2, ds2, p2, q2, rfl, rfl, rfl, h2, r2⟩ := trodAll_cons r1
  obtain ⟨rfl, rfl, rfl⟩ := trodAll_nil r2
  obtain rfl : args = #[v0, v1, v2] := by cases args; simp_all
  obtain ⟨rfl, rfl⟩ := trodVars_none hV
  obtain ⟨a0, len0, cap0, rfl⟩ := okWide_slice Try.underlying22 (hval 0 22 v0 rfl rfl)
  have k0 := h0
  have lt0 : ∀ x ∈ p0, x.block < W.heap.size := by obtain ⟨m, hm⟩ := k0; exact DataW.trod_lt m _ _ _ hm
  obtain ⟨z0, y0, w0, c0⟩ : ∃ l : List Pl.Sp, len0 = l.length ∧ l.length ≤ cap0 ∧ Go.Proofs.YtjgekbakommkmaaW.PrintWords.Kd.C PSpansChange.k30 W a0 l.length (m30 l) := by
    obtain ⟨fuel, hf⟩ := h0
    obtain ⟨A, c, l, e, h1, h2⟩ := open_spans hf
    simp only [Value.slice.injEq] at e
    obtain ⟨rfl, rfl, rfl⟩ := e
    exact ⟨l, rfl, h1, h2⟩
  subst y0
  have k1 := h1
  have lt1 : ∀ x ∈ p1, x.block < W.heap.size := by obtain ⟨m, hm⟩ := k1; exact DataW.trod_lt m _ _ _ hm
  obtain ⟨a1_0, a1_1, rfl, w1_0, w1_1⟩ := open_arg1 (hval 1 24 v1 rfl rfl)
  obtain ⟨a2, rfl, rfl, rfl, w2⟩ := open_int Try.underlying3 (hval 2 3 v2 rfl rfl) h2
  clear hA0 hval0 hsz0 hsz
  refine (lawPlacesW a0 cap0 z0 a1_0 a1_1 a2 w0 W c0).mono fun e W' ⟨he, bel⟩ => ?_
  subst he
  exact ⟨_, rfl, _, _, _, [], _, [], hW', trodAll_mk1 (shut_bool Try.underlying4 _), (trodAll_cons_mk (Below.trod laidOut (by kernel_rfl) (of_decide_eq_true (by kernel_rfl)) k0 bel lt0) (trodAll_cons_mk (Below.trod laidOut (by kernel_rfl) (of_decide_eq_true (by kernel_rfl)) k1 bel lt1) (trodAll_cons_mk (shut_int Try.underlying3 w2) trodAll_mk0))), rfl, bel.frame _, fun h => by cases h⟩
theorem over : Rows.spansPlacesRow.holds Try.pinned (OpenSpec.ofChange Rows.spansPlacesSpec) :=
  OpenClaim.holds_of_wide 6 Try.f6 rfl rfl rfl rfl rfl rfl rfl ⟨rfl, rfl, rfl, rfl, rfl⟩ rfl rfl rfl rfl rfl (by kernel_rfl) Try.func6 (by kernel_rfl)
    (of_decide_eq_true (by kernel_rfl)) (by unfold Func.isWrapper; first | (rw [if_pos (by decide +kernel)]; kernel_rfl) | (rw [if_neg (by decide +kernel)]; exact ⟨rfl, rfl⟩))
    (fun os started H enc _ => lifted os started H enc)
theorem proved : Rows.SpansPlacesSaid := over
end Go.Proofs.Ytjgekbakommkmaa.spansPlaces
namespace Go.Proofs.Ytjgekbakommkmaa
/-- The row, under a short name, for the claim. -/
theorem spansPlaces_holds : Rows.SpansPlacesSaid := spansPlaces.proved
end Go.Proofs.Ytjgekbakommkmaa

