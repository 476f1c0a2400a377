/- Ahead: what Note does to a planner's state, and the contracts of the planner's methods. -/
import Derived.Test.YtfbibiiiepgdaaaDoorPAheadPlaysx1
import Derived.Test.YtfbibiiiepgdaaaDoorPAheadPlaysx2
import Derived.Handy
import Derived.Lib.Hide
import Derived.Lib.MinMax
import Derived.Outline
import Derived.Deep.RegionWith
set_option linter.unusedVariables false
set_option linter.unusedSimpArgs false
namespace Go.Proofs.YtfbibiiiepgdaaaDoor
open Go.RowKit Go.Proofs.YtfbibiiiepgdaaaDoorW.PrintWords Go.Proofs.YtfbibiiiepgdaaaDoorW.PrintMore
open PAheadPlays
theorem wp_gen {P : Program} {c : Code} {Q : Exit → Act → World → Prop} {a : Act} {w : World} (Φ : World → Prop) (hΦ : Φ w) (h : ∀ W, Φ W → c.wp P Q a W) : c.wp P Q a w := h w hΦ
theorem w64 {x : Int} (h1 : -9223372036854775808 ≤ x) (h2 : x ≤ 9223372036854775807) : wrap64 x = x := by unfold wrap64; omega
/-- What a note makes of a planner: what is told, and the planner behind it. -/
def noteF (B R M nx run win en b : Int) : (Int × Int × Bool) × (Int × Int × Int × Int) :=
  if b < 0 ∨ B ≤ b then ((0, 0, false), (nx, run, win, en))
  else
    let r1 := if b = nx then run + 1 else 1
    let w1 := if b = nx then win else 0
    let e1 := if b = nx then en else b + 1
    if r1 < 2 then ((0, 0, false), (b + 1, r1, w1, e1))
    else if e1 - (b + 1) > w1 / 2 then ((0, 0, false), (b + 1, r1, w1, e1))
    else
      let w2 := if w1 = 0 then min 2 M else min (2 * w1) M
      let f := max e1 (b + 1)
      let t := min B ((b + 1 + w2 + R - 1) / R * R)
      if f < t then ((f, t, true), (b + 1, r1, w2, t)) else ((0, 0, false), (b + 1, r1, w2, e1))
structure Valid (B R M nx run win en : Int) : Prop where
  b1 : 1 ≤ B
  b2 : B ≤ 1099511627776
  r1 : 1 ≤ R
  r2 : R ≤ 32
  m1 : 1 ≤ M
  m2 : M ≤ 64
  n1 : -1 ≤ nx
  n2 : nx ≤ B
  u1 : 0 ≤ run
  u2 : run ≤ nx + 1
  w1 : 0 ≤ win
  w2 : win ≤ 64
  e1 : 0 ≤ en
  e2 : en ≤ B
theorem valid_note {B R M nx run win en : Int} (h : Valid B R M nx run win en) (b : Int) : Valid B R M (noteF B R M nx run win en b).2.1 (noteF B R M nx run win en b).2.2.1 (noteF B R M nx run win en b).2.2.2.1 (noteF B R M nx run win en b).2.2.2.2 := by
  obtain ⟨b1, b2, r1, r2, m1, m2, n1, n2, u1, u2, w1, w2, e1, e2⟩ := h
  unfold noteF
  by_cases hb : b < 0 ∨ B ≤ b
  · rw [if_pos hb]; exact ⟨b1, b2, r1, r2, m1, m2, n1, n2, u1, u2, w1, w2, e1, e2⟩
  · rw [if_neg hb]
    have hr : 0 ≤ (if b = nx then run + 1 else 1) ∧ (if b = nx then run + 1 else 1) ≤ b + 1 + 1 := by split <;> omega
    have hw : 0 ≤ (if b = nx then win else 0) ∧ (if b = nx then win else 0) ≤ 64 := by split <;> omega
    have he : 0 ≤ (if b = nx then en else b + 1) ∧ (if b = nx then en else b + 1) ≤ B := by split <;> omega
    dsimp only
    generalize (if b = nx then run + 1 else 1) = x at *
    generalize (if b = nx then win else 0) = y at *
    generalize (if b = nx then en else b + 1) = z at *
    have h2 : 0 ≤ (if y = 0 then min 2 M else min (2 * y) M) ∧ (if y = 0 then min 2 M else min (2 * y) M) ≤ 64 := by split <;> omega
    generalize (if y = 0 then min 2 M else min (2 * y) M) = v at *
    split
    · constructor <;> first | omega | (simp; omega)
    · split
      · constructor <;> first | omega | (simp; omega)
      · split
        · constructor <;> first | omega | (simp; omega)
        · constructor <;> first | omega | (simp; omega)
abbrev IsP := IsS52
theorem followsB {B R M nx run win en : Int} (b : Int) (hv : Valid B R M nx run win en) (h0 : 0 ≤ b) (h1 : b < B) (g : Nat) (w0 w : World) (hI : IsP w0 w g B R M nx run win en) (hB : Below w0.heap.size w0 w) :
    Calls Tryd.prog 18 #[.pointer (some ⟨g, 0, none⟩), .int .i64 b] w fun e w' => e = .returned (.bool (decide (2 ≤ (if b = nx then run + 1 else 1)))) ∧ IsP w0 w' g B R M (b + 1) (if b = nx then run + 1 else 1) (if b = nx then win else 0) (if b = nx then en else b + 1) ∧ Below w0.heap.size w0 w' ∧ KeepBut w w' g none := by
  obtain ⟨b1, b2, r1, r2, m1, m2, n1, n2, u1, u2, w1, w2, e1, e2⟩ := hv
  refine ahead_Planner_follows.calls g _ _ _ _ _ _ _ _ _ _ _ _ _ _ _ _ w0 w hI hB ?_
  unfold ahead_Planner_follows.f
  rw [w64 (x := run + 1) (by omega) (by omega), w64 (x := b + 1) (by omega) (by omega)]
  split <;> simp
theorem widerB {B R M nx run win en : Int} (hv : 0 ≤ win ∧ win ≤ 64) (g : Nat) (w0 w : World) (hI : IsP w0 w g B R M nx run win en) (hB : Below w0.heap.size w0 w) :
    Calls Tryd.prog 19 #[.pointer (some ⟨g, 0, none⟩)] w fun e w' => e = .returned (.int .i64 (if win = 0 then min 2 M else min (2 * win) M)) ∧ IsP w0 w' g B R M nx run win en ∧ Below w0.heap.size w0 w' ∧ KeepBut w w' g none := by
  refine ahead_Planner_wider.calls g _ _ _ _ _ _ _ _ _ _ _ _ _ _ _ w0 w hI hB ?_
  unfold ahead_Planner_wider.f
  rw [w64 (x := 2 * win) (by omega) (by omega)]
  unfold mn
  split <;> simp <;> split <;> omega
theorem upB {B R M nx run win en : Int} (at_ : Int) (h0 : 0 ≤ at_) (h1 : at_ ≤ 1099511628000) (hr1 : 1 ≤ R) (hr2 : R ≤ 32) (g : Nat) (w0 w : World) (hI : IsP w0 w g B R M nx run win en) (hB : Below w0.heap.size w0 w) :
    Calls Tryd.prog 20 #[.pointer (some ⟨g, 0, none⟩), .int .i64 at_] w fun e w' => e = .returned (.int .i64 (min B ((at_ + R - 1) / R * R))) ∧ IsP w0 w' g B R M nx run win en ∧ Below w0.heap.size w0 w' ∧ KeepBut w w' g none := by
  refine ahead_Planner_up.calls g _ _ _ _ _ _ _ _ _ _ _ _ _ _ _ _ w0 w hI hB ?_
  unfold ahead_Planner_up.f
  have hq0 := Int.ediv_nonneg (a := at_ + R - 1) (b := R) (by omega) (by omega)
  have hq1 := Int.ediv_mul_le (at_ + R - 1) (b := R) (by omega)
  rw [w64 (x := at_ + R) (by omega) (by omega), w64 (x := at_ + R - 1) (by omega) (by omega), Int.tdiv_eq_ediv_of_nonneg (by omega)]
  have hq2 : (at_ + R - 1) / R ≤ at_ + R - 1 := Int.ediv_le_self _ (by omega)
  have hq3 : 0 ≤ (at_ + R - 1) / R * R := Int.mul_nonneg hq0 (by omega)
  rw [w64 (x := (at_ + R - 1) / R) (by omega) (by omega), w64 (x := (at_ + R - 1) / R * R) (by omega) (by omega), if_neg (by omega)]
  unfold mn
  simp
  split <;> omega
theorem goodB (a c : Int) (w : World) : Calls Tryd.prog 10 #[.agg #[.int .i64 a, .int .i64 c]] w fun e w' => e = .returned (.bool (decide (0 ≤ a) && decide (a < c) && decide (c ≤ 1099511627776))) ∧ Below w.heap.size w w' := by
  refine spans_Span_Good.calls a c _ w ?_
  unfold spans_Span_Good.f
  by_cases h1 : 0 ≤ a <;> by_cases h2 : a < c <;> simp [h1, h2]
end Go.Proofs.YtfbibiiiepgdaaaDoor
