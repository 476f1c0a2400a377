/- Ahead: a run of blocks: what has been told, and the map of what was told. -/
import Derived.Test.YtfbibiiiepgdaaaDoorRef
import Derived.Test.YtfbibiiiepgdaaaDoorWakes
import Derived.Test.YtfbibiiiepgdaaaDoorTMap
set_option linter.unusedVariables false
set_option linter.unusedSimpArgs false
namespace Go.Proofs.YtfbibiiiepgdaaaDoor
open Go.RowKit Go.Proofs.YtfbibiiiepgdaaaDoorW.PrintWords Go.Proofs.YtfbibiiiepgdaaaDoorW.PrintMore
open PAheadPlays
/-- The planner when the block b comes next, in a run from F on. -/
def StI (F b B nx run win en : Int) : Prop :=
  (b = F ∧ nx = -1 ∧ run = 0 ∧ win = 0 ∧ en = 0) ∨ (b = F + 1 ∧ nx = b ∧ run = 1 ∧ win = 0 ∧ en = F + 1) ∨ (F + 1 < b ∧ nx = b ∧ 2 ≤ run ∧ 1 ≤ win ∧ (b + 1 ≤ en ∨ en = B ∨ B ≤ b))
theorem step_note {F b B R M nx run win en : Int} (hF : 0 ≤ F) (hb : b < B) (hv : Valid B R M nx run win en) (h : StI F b B nx run win en) :
    StI F (b + 1) B (noteF B R M nx run win en b).2.1 (noteF B R M nx run win en b).2.2.1 (noteF B R M nx run win en b).2.2.2.1 (noteF B R M nx run win en b).2.2.2.2 ∧
    (((noteF B R M nx run win en b).1 = (0, 0, false) ∧ max (noteF B R M nx run win en b).2.2.2.2 (F + 2) = max en (F + 2)) ∨
     ∃ f t, (noteF B R M nx run win en b).1 = (f, t, true) ∧ f = max en (F + 2) ∧ f < t ∧ t ≤ B ∧ b < f ∧ t - f ≤ M + R ∧ (noteF B R M nx run win en b).2.2.2.2 = t) := by
  obtain ⟨b1, b2, r1, r2, m1, m2, n1, n2, u1, u2, w1, w2, e1, e2⟩ := hv
  rcases h with ⟨rfl, rfl, rfl, rfl, rfl⟩ | ⟨rfl, rfl, rfl, rfl, rfl⟩ | ⟨h1, rfl, h3, h4, h5⟩
  · unfold noteF
    rw [if_neg (by omega)]
    simp only [if_neg (show ¬ b = -1 by omega)]
    rw [if_pos (by omega)]
    exact ⟨.inr (.inl ⟨rfl, rfl, rfl, rfl, rfl⟩), .inl ⟨rfl, by simp only []; omega⟩⟩
  · unfold noteF
    rw [if_neg (by omega)]
    simp only [if_true]
    rw [if_neg (by omega), if_neg (by omega)]
    have hc := cl_bd (R := R) (x := F + 1 + 1 + min 2 M) r1
    unfold cl at hc
    have hw : 1 ≤ min 2 M := by omega
    have hw2 : min 2 M ≤ M := by omega
    generalize min 2 M = v at *
    generalize (F + 1 + 1 + v + R - 1) / R * R = c at *
    by_cases hft : max (F + 1) (F + 1 + 1) < min B c
    · rw [if_pos hft]
      refine ⟨.inr (.inr ⟨by omega, rfl, by simp only []; omega, by simp only []; omega, by simp only []; omega⟩), .inr ⟨_, _, rfl, by omega, hft, by omega, by omega, by omega, rfl⟩⟩
    · rw [if_neg hft]
      refine ⟨.inr (.inr ⟨by omega, rfl, by simp only []; omega, by simp only []; omega, by simp only []; omega⟩), .inl ⟨rfl, rfl⟩⟩
  · unfold noteF
    rw [if_neg (by omega)]
    simp only [if_true]
    rw [if_neg (by omega)]
    by_cases h6 : en - (nx + 1) > win / 2
    · rw [if_pos h6]
      refine ⟨.inr (.inr ⟨by omega, rfl, by simp only []; omega, by simp only []; omega, by simp only []; omega⟩), .inl ⟨rfl, rfl⟩⟩
    · rw [if_neg h6]
      simp only [if_neg (show ¬ win = 0 by omega)]
      have hc := cl_bd (R := R) (x := nx + 1 + min (2 * win) M) r1
      unfold cl at hc
      have hw : 1 ≤ min (2 * win) M := by omega
      have hw2 : min (2 * win) M ≤ M := by omega
      generalize min (2 * win) M = v at *
      generalize (nx + 1 + v + R - 1) / R * R = c at *
      by_cases hft : max en (nx + 1) < min B c
      · rw [if_pos hft]
        refine ⟨.inr (.inr ⟨by omega, rfl, by simp only []; omega, by simp only []; omega, by simp only []; omega⟩), .inr ⟨_, _, rfl, by omega, hft, by omega, by omega, by omega, rfl⟩⟩
      · rw [if_neg hft]
        refine ⟨.inr (.inr ⟨by omega, rfl, by simp only []; omega, by simp only []; omega, by simp only []; omega⟩), .inl ⟨rfl, rfl⟩⟩
abbrev BM (w : World) (b : Nat) (g : Int → Option Bool) (n : Nat) : Prop := TMap Tryd.prog 3 4 (fun x : Int => Value.int .i64 x) (fun x => (Lit.int .i64 x).wf = true) (fun b : Bool => Value.bool b) w b g n
theorem keyed3 : Maps.Keyed Tryd.prog 3 := Maps.int_keyed Tryd.underlying3
theorem zero4 (w : World) : (zeroValue 4).run Tryd.prog w = .ok (.bool false) w := by kernel_rfl
theorem BM.look {w : World} {b n : Nat} {g : Int → Option Bool} (h : BM w b g n) (x : Int) (hx : (Lit.int .i64 x).wf = true) : (Instr.lookup 28 (.map (some b)) (.int .i64 x) false).run Tryd.prog w = .ok (.bool ((g x).getD false)) w :=
  TMap.lookup (a0 := false) h keyed3 Tryd.underlying28 (zero4 w) (plainElem_bool Tryd.underlying4 false) hx (Maps.keyOf_int_mk Tryd.underlying3 hx)
/-- The keys are those from f on up to t; each is true. -/
def gI (f t : Int) : Int → Option Bool := fun x => if f ≤ x ∧ x < t then some true else none
theorem gI_none {f t x : Int} (h : ¬ (f ≤ x ∧ x < t)) : gI f t x = none := if_neg h
theorem gI_some {f t x : Int} (h : f ≤ x ∧ x < t) : gI f t x = some true := if_pos h
theorem gI_succ {f t : Int} (h : f ≤ t) : (fun y => if y = t then some true else gI f t y) = gI f (t + 1) := by
  funext y
  unfold gI
  by_cases hy : y = t
  · rw [if_pos hy, if_pos (by omega)]
  · rw [if_neg hy]
    by_cases hh : f ≤ y ∧ y < t
    · rw [if_pos hh, if_pos (by omega)]
    · rw [if_neg hh, if_neg (by omega)]
theorem gI_empty (f : Int) : gI f f = fun _ => none := by
  funext x; exact gI_none (by omega)
end Go.Proofs.YtfbibiiiepgdaaaDoor
