/- A parameter that is a slice of acts, opened. -/
import Derived.Test.YtffegfidaolgjaaQP
import Derived.Deep.Slices
import Derived.OpenShut
import Derived.WalkKit
import Derived.ProofKit
set_option linter.unusedVariables false
set_option linter.unusedSimpArgs false
namespace Go.Proofs.Ytffegfidaolgjaa
open Go.RowKit Go.Deep Go.ChangeShapes Go.WideShapes
structure Act where
  a0 : Int
  a1 : Int
  a2 : Bool
  a3 : Bool
def act0 : Act := ⟨0, 0, false, false⟩
instance : Inhabited Act := ⟨act0⟩
def actAt (l : List Act) (i : Nat) : Act := l.getD i act0
/-- The acts in memory. -/
def AC (w : World) (A : Option Addr) (l : List Act) : Prop := ∀ i, i < l.length → ∃ ad, A = some ad ∧ w.cell? (ad.add (i * 4)) = some (.int .i64 (actAt l i).a0) ∧ w.cell? ⟨(ad.add (i * 4)).block, (ad.add (i * 4)).off + 1, none⟩ = some (.int .u8 (actAt l i).a1) ∧ w.cell? ⟨(ad.add (i * 4)).block, (ad.add (i * 4)).off + 2, none⟩ = some (.bool (actAt l i).a2) ∧ w.cell? ⟨(ad.add (i * 4)).block, (ad.add (i * 4)).off + 3, none⟩ = some (.bool (actAt l i).a3) ∧ (Lit.int .i64 (actAt l i).a0).wf = true ∧ (Lit.int .u8 (actAt l i).a1).wf = true
theorem AC.some {w : World} {A : Option Addr} {l : List Act} (h : AC w A l) (h0 : 0 < l.length) : ∃ ad, A = some ad ∧ ∀ i, i < l.length → w.cell? (ad.add (i * 4)) = some (.int .i64 (actAt l i).a0) ∧ w.cell? ⟨(ad.add (i * 4)).block, (ad.add (i * 4)).off + 1, none⟩ = some (.int .u8 (actAt l i).a1) ∧ w.cell? ⟨(ad.add (i * 4)).block, (ad.add (i * 4)).off + 2, none⟩ = some (.bool (actAt l i).a2) ∧ w.cell? ⟨(ad.add (i * 4)).block, (ad.add (i * 4)).off + 3, none⟩ = some (.bool (actAt l i).a3) ∧ (Lit.int .i64 (actAt l i).a0).wf = true ∧ (Lit.int .u8 (actAt l i).a1).wf = true := by
  obtain ⟨ad, rfl, _⟩ := h 0 h0
  refine ⟨ad, rfl, fun i hi => ?_⟩
  obtain ⟨ad', e, h1⟩ := h i hi
  obtain rfl := Option.some.inj e
  exact h1
theorem cellsAct : Try.prog.cellsOf 23 = 4 := by kernel_rfl
theorem cellsT3 : Try.prog.cellsOf 3 = 1 := by kernel_rfl
theorem cellsT4 : Try.prog.cellsOf 4 = 1 := by kernel_rfl
theorem cellsT5 : Try.prog.cellsOf 5 = 1 := by kernel_rfl
theorem open_acts {H : Type} {enc : TypeId × Value → H} {W : World} {base : Nat} {sp : Nat → Bool} {hd : Bool} {fuel : Nat} {v : Value} {x : DataW H × List MemPlace}
    (h : DataW.trod enc Try.prog W base sp hd fuel 37 [v] = some x) : ∃ (A : Option Addr) (c : Nat) (l : List Act), v = .slice A l.length c ∧ l.length ≤ c ∧ AC W A l := by
  rcases open_slice Try.underlying37 h with ⟨h1, h2⟩ | ⟨a, len, cap, m, n, D, Pl, h1, hb, hl, hm, hmm, hx, hc⟩
  · simp only [List.cons.injEq, and_true] at h1
    exact ⟨none, 0, [], h1, Nat.le_refl _, fun i hi => by simp at hi⟩
  · simp only [List.cons.injEq, and_true] at h1
    have hlm : len ≤ m := by rw [hmm]; split <;> omega
    have each : ∀ i, i < len → ∃ p : Act, W.cell? (a.add (i * 4)) = some (.int .i64 p.a0) ∧ W.cell? ⟨(a.add (i * 4)).block, (a.add (i * 4)).off + 1, none⟩ = some (.int .u8 p.a1) ∧ W.cell? ⟨(a.add (i * 4)).block, (a.add (i * 4)).off + 2, none⟩ = some (.bool p.a2) ∧ W.cell? ⟨(a.add (i * 4)).block, (a.add (i * 4)).off + 3, none⟩ = some (.bool p.a3) ∧ (Lit.int .i64 p.a0).wf = true ∧ (Lit.int .u8 p.a1).wf = true := by
      intro i hi
      obtain ⟨cs', h1, h2⟩ := hc i (by omega)
      rw [cellsAct] at h1
      obtain ⟨_, hlen, hcell⟩ := World.cells?_some h1
      obtain ⟨xs, k, hk, hxy, _, hxl, hf⟩ := DataW.trod_struct Try.underlying23 h2
      clear hk
      match cs', hlen, hcell, hf with
      | [v0, v1, v2, v3], _, hcell, hf =>
        have g0 := hf 0 _ rfl
        have g1 := hf 1 _ rfl
        have g2 := hf 2 _ rfl
        have g3 := hf 3 _ rfl
        simp [cellsT3, cellsT4, cellsT5] at g0 g1 g2 g3
        have hxs : xs.length = 4 := by rw [hxl]; rfl
        match xs, hxs, g0, g1, g2, g3 with
        | [y0, y1, y2, y3], _, g0, g1, g2, g3 =>
          have e0 := hcell 0 (by omega)
          obtain ⟨n0, q0, _, w0⟩ := DataW.trod_int Try.underlying3 g0
          simp only [List.cons.injEq, and_true] at q0
          rw [q0] at e0
          have e1 := hcell 1 (by omega)
          obtain ⟨n1, q1, _, w1⟩ := DataW.trod_int Try.underlying5 g1
          simp only [List.cons.injEq, and_true] at q1
          rw [q1] at e1
          have e2 := hcell 2 (by omega)
          obtain ⟨n2, q2, _⟩ := DataW.trod_bool Try.underlying4 g2
          simp only [List.cons.injEq, and_true] at q2
          rw [q2] at e2
          have e3 := hcell 3 (by omega)
          obtain ⟨n3, q3, _⟩ := DataW.trod_bool Try.underlying4 g3
          simp only [List.cons.injEq, and_true] at q3
          rw [q3] at e3
          simp [Addr.add] at e0 e1 e2 e3 ⊢
          exact ⟨⟨n0, n1, n2, n3⟩, e0, e1, e2, e3, w0, w1⟩
    obtain ⟨f, hf⟩ := choose_lt each
    have hll : ((List.range len).map f).length = len := by simp
    refine ⟨some a, cap, (List.range len).map f, by rw [h1, hll], by rw [hll]; exact hl, ?_⟩
    intro i hi
    rw [hll] at hi
    refine ⟨a, rfl, ?_⟩
    have e : actAt ((List.range len).map f) i = f i := by unfold actAt; rw [List.getD_eq_getElem?_getD, List.getElem?_map, List.getElem?_range hi]; rfl
    rw [e]
    exact hf i hi
end Go.Proofs.Ytffegfidaolgjaa

