/- A parameter that is a slice of acts, opened. -/
import Derived.Test.YthhigmkheccfpaaSw
import Derived.Deep.Slices
import Derived.OpenShut
import Derived.WalkKit
import Derived.ProofKit
set_option linter.unusedVariables false
set_option linter.unusedSimpArgs false
namespace Go.Proofs.Ythhigmkheccfpaa
open Go.RowKit Go.Deep Go.ChangeShapes Go.WideShapes
structure Act where
  a0 : Int
  a1 : Int
def act0 : Act := ⟨0, 0⟩
instance : Inhabited Act := ⟨act0⟩
def actAt (l : List Act) (i : Nat) : Act := l.getD i act0
/-- The acts in memory. -/
def AC (w : World) (A : Option Addr) (l : List Act) : Prop := ∀ i, i < l.length → ∃ ad, A = some ad ∧ w.cell? (ad.add (i * 2)) = some (.int .i64 (actAt l i).a0) ∧ w.cell? ⟨(ad.add (i * 2)).block, (ad.add (i * 2)).off + 1, none⟩ = some (.int .i64 (actAt l i).a1) ∧ (Lit.int .i64 (actAt l i).a0).wf = true ∧ (Lit.int .i64 (actAt l i).a1).wf = true
theorem AC.some {w : World} {A : Option Addr} {l : List Act} (h : AC w A l) (h0 : 0 < l.length) : ∃ ad, A = some ad ∧ ∀ i, i < l.length → w.cell? (ad.add (i * 2)) = some (.int .i64 (actAt l i).a0) ∧ w.cell? ⟨(ad.add (i * 2)).block, (ad.add (i * 2)).off + 1, none⟩ = some (.int .i64 (actAt l i).a1) ∧ (Lit.int .i64 (actAt l i).a0).wf = true ∧ (Lit.int .i64 (actAt l i).a1).wf = true := by
  obtain ⟨ad, rfl, _⟩ := h 0 h0
  refine ⟨ad, rfl, fun i hi => ?_⟩
  obtain ⟨ad', e, h1⟩ := h i hi
  obtain rfl := Option.some.inj e
  exact h1
theorem cellsAct : Try.prog.cellsOf 28 = 2 := by kernel_rfl
theorem cellsT3 : Try.prog.cellsOf 3 = 1 := by kernel_rfl
theorem open_acts {H : Type} {enc : TypeId × Value → H} {W : World} {base : Nat} {sp : Nat → Bool} {hd : Bool} {fuel : Nat} {v : Value} {x : DataW H × List MemPlace}
    (h : DataW.trod enc Try.prog W base sp hd fuel 22 [v] = some x) : ∃ (A : Option Addr) (c : Nat) (l : List Act), v = .slice A l.length c ∧ l.length ≤ c ∧ AC W A l := by
  rcases open_slice Try.underlying22 h with ⟨h1, h2⟩ | ⟨a, len, cap, m, n, D, Pl, h1, hb, hl, hm, hmm, hx, hc⟩
  · simp only [List.cons.injEq, and_true] at h1
    exact ⟨none, 0, [], h1, Nat.le_refl _, fun i hi => by simp at hi⟩
  · simp only [List.cons.injEq, and_true] at h1
    have hlm : len ≤ m := by rw [hmm]; split <;> omega
    have each : ∀ i, i < len → ∃ p : Act, W.cell? (a.add (i * 2)) = some (.int .i64 p.a0) ∧ W.cell? ⟨(a.add (i * 2)).block, (a.add (i * 2)).off + 1, none⟩ = some (.int .i64 p.a1) ∧ (Lit.int .i64 p.a0).wf = true ∧ (Lit.int .i64 p.a1).wf = true := by
      intro i hi
      obtain ⟨cs', h1, h2⟩ := hc i (by omega)
      rw [cellsAct] at h1
      obtain ⟨_, hlen, hcell⟩ := World.cells?_some h1
      obtain ⟨xs, k, hk, hxy, _, hxl, hf⟩ := DataW.trod_struct Try.underlying28 h2
      clear hk
      match cs', hlen, hcell, hf with
      | [v0, v1], _, hcell, hf =>
        have g0 := hf 0 _ rfl
        have g1 := hf 1 _ rfl
        simp [cellsT3] at g0 g1
        have hxs : xs.length = 2 := by rw [hxl]; rfl
        match xs, hxs, g0, g1 with
        | [y0, y1], _, g0, g1 =>
          have e0 := hcell 0 (by omega)
          obtain ⟨n0, q0, _, w0⟩ := DataW.trod_int Try.underlying3 g0
          simp only [List.cons.injEq, and_true] at q0
          rw [q0] at e0
          have e1 := hcell 1 (by omega)
          obtain ⟨n1, q1, _, w1⟩ := DataW.trod_int Try.underlying3 g1
          simp only [List.cons.injEq, and_true] at q1
          rw [q1] at e1
          simp [Addr.add] at e0 e1 ⊢
          exact ⟨⟨n0, n1⟩, e0, e1, w0, w1⟩
    obtain ⟨f, hf⟩ := choose_lt each
    have hll : ((List.range len).map f).length = len := by simp
    refine ⟨some a, cap, (List.range len).map f, by rw [h1, hll], by rw [hll]; exact hl, ?_⟩
    intro i hi
    rw [hll] at hi
    refine ⟨a, rfl, ?_⟩
    have e : actAt ((List.range len).map f) i = f i := by unfold actAt; rw [List.getD_eq_getElem?_getD, List.getElem?_map, List.getElem?_range hi]; rfl
    rw [e]
    exact hf i hi
end Go.Proofs.Ythhigmkheccfpaa

