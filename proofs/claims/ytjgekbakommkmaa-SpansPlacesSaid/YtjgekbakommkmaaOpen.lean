/- Spans: a parameter that is a slice of spans, opened. -/
import Derived.Test.YtjgekbakommkmaaRef
import Derived.Deep.SlicePairs
import Derived.OpenShut
import Derived.WalkKit
import Derived.ProofKit
set_option linter.unusedVariables false
namespace Go.Proofs.Ytjgekbakommkmaa
open Go.RowKit Go.Proofs.YtjgekbakommkmaaW.PrintWords Go.Proofs.YtjgekbakommkmaaW.PrintMore
open PSpansChange Pl Go.Deep Go.ChangeShapes Go.WideShapes
theorem cells24 : Try.prog.cellsOf 24 = 2 := by kernel_rfl
theorem cells3 : Try.prog.cellsOf 3 = 1 := by kernel_rfl
theorem open_spans {H : Type} {enc : TypeId × Value → H} {W : World} {base : Nat} {sp : Nat → Bool} {hd : Bool} {fuel : Nat} {v : Value} {x : DataW H × List MemPlace}
    (h : DataW.trod enc Try.prog W base sp hd fuel 22 [v] = some x) : ∃ (A : Option Addr) (c : Nat) (l : List Sp), v = .slice A l.length c ∧ l.length ≤ c ∧ Kd.C k30 W A l.length (m30 l) := by
  rcases open_slice_pairs Try.underlying22 Try.underlying24 cells24 rfl rfl cells3 cells3 h with ⟨h1, h2⟩ | ⟨a, len, cap, m, n, V0, V1, D0, D1, P0, P1, h1, hb, hl, hm, hmm, hx, hc⟩
  · simp only [List.cons.injEq, and_true] at h1
    refine ⟨none, 0, [], h1, Nat.le_refl _, rfl, by simp, fun h => by simp at h⟩
  · simp only [List.cons.injEq, and_true] at h1
    have hlm : len ≤ m := by rw [hmm]; split <;> omega
    have each : ∀ i, i < len → ∃ p : Sp, W.cell? (a.add (i * 2)) = some (.int .i64 p.1) ∧ W.cell? (a.add (i * 2 + 1)) = some (.int .i64 p.2) := by
      intro i hi
      obtain ⟨g1, g2, g3, g4⟩ := hc i (by omega)
      obtain ⟨n0, e0, _, _⟩ := DataW.trod_int Try.underlying3 g3
      obtain ⟨n1, e1, _, _⟩ := DataW.trod_int Try.underlying3 g4
      simp only [List.cons.injEq, and_true] at e0 e1
      exact ⟨(n0, n1), by rw [g1, e0], by rw [g2, e1]⟩
    obtain ⟨f, hf⟩ := choose_lt each
    have hll : ((List.range len).map f).length = len := by simp
    refine ⟨some a, cap, (List.range len).map f, by rw [h1, hll], by rw [hll]; exact hl, ?_⟩
    rw [hll]
    refine ⟨by rw [m30_length, hll], by have : maxLen = 9223372036854775807 := rfl; omega, fun _ => ⟨a, rfl, fun j p hj => ?_⟩⟩
    have hjl : j < len := by
      have := (List.getElem?_eq_some_iff.1 hj).1
      rwa [m30_length, hll] at this
    have e : p = ⟨(f j).1, (f j).2⟩ := by
      unfold m30 at hj
      rw [List.getElem?_map, List.getElem?_map, List.getElem?_range hjl] at hj
      simpa using hj.symm
    subst e
    refine ⟨[.int .i64 (f j).1, .int .i64 (f j).2], rfl, k30_mk _ _, fun i u hi => ?_⟩
    obtain ⟨g1, g2⟩ := hf j hjl
    match i, hi with
    | 0, hi => simp at hi; subst hi; exact g1
    | 1, hi => simp at hi; subst hi; exact g2
end Go.Proofs.Ytjgekbakommkmaa
