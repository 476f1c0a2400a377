/- Geometry: the worlds' words, and the walks of within. -/
import Derived.Test.YtgjalgmnkadbaaaPGeomRowsx2
import Derived.Handy
import Derived.Lib.Hide
set_option linter.unusedVariables false
set_option linter.unusedSimpArgs false
namespace Go.Proofs.Ytgjalgmnkadbaaa
open Go.RowKit Go.Proofs.YtgjalgmnkadbaaaW.PrintWords
def Bel (w w' : World) : Prop := Below w.heap.size w w'
theorem Bel.refl (w : World) : Bel w w := Below.refl _ w
theorem Bel.trans {w w1 w2 : World} (h : Bel w w1) (k : Bel w1 w2) : Bel w w2 := below_then h h.size k
theorem Bel.below {w w' : World} (h : Bel w w') : Below w.heap.size w w' := h
theorem Bel.alloc (w : World) (o : Obj) : Bel w (w.alloc o) := (Below.refl _ w).alloc (Nat.le_refl _) o
theorem Bel.drew (w : World) : Bel w w.drew := below_drew (Below.refl _ w)
theorem Bel.drewN (w : World) (n : Nat) : Bel w (w.drewN n) := pw_below_drewN (Below.refl _ w) n
def gd (m s : Int) : Bool := decide (4 ≤ m) && decide (m ≤ 32) && decide (1 ≤ s) && decide (s ≤ 64)
theorem goodB (m s : Int) (w : World) : Calls Try.prog 14 #[.agg #[.int .i64 m, .int .i64 s]] w fun e w' => e = .returned (.bool (gd m s)) ∧ Bel w w' := by
  refine PGeomRows.geom_Geometry_Good.calls m s _ w ?_
  unfold PGeomRows.geom_Geometry_Good.f gd
  by_cases h1 : 4 ≤ m <;> by_cases h2 : m ≤ 32 <;> by_cases h3 : 1 ≤ s <;> simp [h1, h2, h3]
theorem ret_int {k : IntKind} {a b : Int} (h : a = b) : Ending.returned (.int k a) = .returned (.int k b) := by rw [h]
theorem cellB {w w1 : World} (h : Bel w w1) {a : Addr} {v : Value} (hc : w.cell? a = some v) : w1.cell? a = some v := pw_cell_below h hc
def wit1 (m s a b : Int) : Int := if gd m s = true then (if 0 ≤ a ∧ a < b then 0 else 3) else 4
def wit2 (m s a b c d : Int) : Int := if gd m s = true then (if 0 ≤ a ∧ a < b ∧ 0 ≤ c ∧ c < d then 0 else 3) else 4
set_option maxHeartbeats 2000000 in
theorem within1 (m s a b : Int) (w : World) (B : Nat) (hc0 : w.cell? ⟨B, 0, none⟩ = some (.int .i64 a)) (hc1 : w.cell? ⟨B, 1, none⟩ = some (.int .i64 b)) :
    Calls Try.prog 31 #[.agg #[.int .i64 m, .int .i64 s], .slice (some ⟨B, 0, none⟩) 1 1] w fun e w' => e = .returned (.int .i64 (wit1 m s a b)) ∧ Bel w w' := by
  have hgood := goodB m s
  by_cases hg : gd m s = true
  · rw [hg] at hgood
    have hv : Hid (wit1 m s a b = if 0 ≤ a ∧ a < b then 0 else 3) := Lib.hid (by unfold wit1; rw [if_pos hg])
    have Hgood := Lib.hid hgood
    clear hg hgood
    generalize wit1 m s a b = V at *
    by_cases q0 : 0 ≤ a
    · by_cases q1 : a < b
      · go_enter Try.func31, Try.ntmps31
        go_wp2_with fail
        refine (Hgood.out _).mono ?_
        rintro e w1 ⟨rfl, hb1⟩
        have hb := (Bel.alloc w (Obj.cells #[Value.int IntKind.i64 m, Value.int IntKind.i64 s] 24)).trans hb1
        have c0 := cellB hb hc0
        have c1 := cellB hb hc1
        go_wp2_with fail
        go_rounds 2
        go_ret
        exact ⟨ret_int (by rw [hv.out]; rw [if_pos (by omega)]), by repeat (first | exact hb | refine Bel.trans ?_ (Bel.alloc _ _))⟩
      · go_enter Try.func31, Try.ntmps31
        go_wp2_with fail
        refine (Hgood.out _).mono ?_
        rintro e w1 ⟨rfl, hb1⟩
        have hb := (Bel.alloc w (Obj.cells #[Value.int IntKind.i64 m, Value.int IntKind.i64 s] 24)).trans hb1
        have c0 := cellB hb hc0
        have c1 := cellB hb hc1
        go_wp2_with fail
        go_rounds 2
        go_ret
        exact ⟨ret_int (by rw [hv.out]; rw [if_neg (by omega)]), by repeat (first | exact hb | refine Bel.trans ?_ (Bel.alloc _ _))⟩
    · go_enter Try.func31, Try.ntmps31
      go_wp2_with fail
      refine (Hgood.out _).mono ?_
      rintro e w1 ⟨rfl, hb1⟩
      have hb := (Bel.alloc w (Obj.cells #[Value.int IntKind.i64 m, Value.int IntKind.i64 s] 24)).trans hb1
      have c0 := cellB hb hc0
      have c1 := cellB hb hc1
      go_wp2_with fail
      go_rounds 2
      go_ret
      exact ⟨ret_int (by rw [hv.out]; rw [if_neg (by omega)]), by repeat (first | exact hb | refine Bel.trans ?_ (Bel.alloc _ _))⟩
  · have hgf : gd m s = false := by simpa using hg
    rw [hgf] at hgood
    have hv : wit1 m s a b = 4 := by unfold wit1; rw [if_neg hg]
    rw [hv]
    have Hgood := Lib.hid hgood
    clear hg hgood hgf hv
    go_enter Try.func31, Try.ntmps31
    go_wp2_with fail
    refine (Hgood.out _).mono ?_
    rintro e w1 ⟨rfl, hb1⟩
    go_wp2_with fail
    go_ret
    exact ⟨rfl, (Bel.alloc w _).trans hb1⟩
set_option maxHeartbeats 2000000 in
theorem within2 (m s a b c d : Int) (w : World) (B : Nat) (hc0 : w.cell? ⟨B, 0, none⟩ = some (.int .i64 a)) (hc1 : w.cell? ⟨B, 1, none⟩ = some (.int .i64 b)) (hc2 : w.cell? ⟨B, 2, none⟩ = some (.int .i64 c)) (hc3 : w.cell? ⟨B, 3, none⟩ = some (.int .i64 d)) :
    Calls Try.prog 31 #[.agg #[.int .i64 m, .int .i64 s], .slice (some ⟨B, 0, none⟩) 2 2] w fun e w' => e = .returned (.int .i64 (wit2 m s a b c d)) ∧ Bel w w' := by
  have hgood := goodB m s
  by_cases hg : gd m s = true
  · rw [hg] at hgood
    have hv : Hid (wit2 m s a b c d = if 0 ≤ a ∧ a < b ∧ 0 ≤ c ∧ c < d then 0 else 3) := Lib.hid (by unfold wit2; rw [if_pos hg])
    have Hgood := Lib.hid hgood
    clear hg hgood
    generalize wit2 m s a b c d = V at *
    by_cases q0 : 0 ≤ a
    · by_cases q1 : a < b
      · by_cases q2 : 0 ≤ c
        · by_cases q3 : c < d
          · go_enter Try.func31, Try.ntmps31
            go_wp2_with fail
            refine (Hgood.out _).mono ?_
            rintro e w1 ⟨rfl, hb1⟩
            have hb := (Bel.alloc w (Obj.cells #[Value.int IntKind.i64 m, Value.int IntKind.i64 s] 24)).trans hb1
            have c0 := cellB hb hc0
            have c1 := cellB hb hc1
            have c2 := cellB hb hc2
            have c3 := cellB hb hc3
            have d2 := fun o => cellB (Bel.alloc w1 o) c2
            have d3 := fun o => cellB (Bel.alloc w1 o) c3
            go_wp2_with fail
            go_rounds 3
            go_ret
            exact ⟨ret_int (by rw [hv.out]; rw [if_pos (by omega)]), by repeat (first | exact hb | refine Bel.trans ?_ (Bel.alloc _ _))⟩
          · go_enter Try.func31, Try.ntmps31
            go_wp2_with fail
            refine (Hgood.out _).mono ?_
            rintro e w1 ⟨rfl, hb1⟩
            have hb := (Bel.alloc w (Obj.cells #[Value.int IntKind.i64 m, Value.int IntKind.i64 s] 24)).trans hb1
            have c0 := cellB hb hc0
            have c1 := cellB hb hc1
            have c2 := cellB hb hc2
            have c3 := cellB hb hc3
            have d2 := fun o => cellB (Bel.alloc w1 o) c2
            have d3 := fun o => cellB (Bel.alloc w1 o) c3
            go_wp2_with fail
            go_rounds 3
            go_ret
            exact ⟨ret_int (by rw [hv.out]; rw [if_neg (by omega)]), by repeat (first | exact hb | refine Bel.trans ?_ (Bel.alloc _ _))⟩
        · go_enter Try.func31, Try.ntmps31
          go_wp2_with fail
          refine (Hgood.out _).mono ?_
          rintro e w1 ⟨rfl, hb1⟩
          have hb := (Bel.alloc w (Obj.cells #[Value.int IntKind.i64 m, Value.int IntKind.i64 s] 24)).trans hb1
          have c0 := cellB hb hc0
          have c1 := cellB hb hc1
          have c2 := cellB hb hc2
          have c3 := cellB hb hc3
          have d2 := fun o => cellB (Bel.alloc w1 o) c2
          have d3 := fun o => cellB (Bel.alloc w1 o) c3
          go_wp2_with fail
          go_rounds 3
          go_ret
          exact ⟨ret_int (by rw [hv.out]; rw [if_neg (by omega)]), by repeat (first | exact hb | refine Bel.trans ?_ (Bel.alloc _ _))⟩
      · go_enter Try.func31, Try.ntmps31
        go_wp2_with fail
        refine (Hgood.out _).mono ?_
        rintro e w1 ⟨rfl, hb1⟩
        have hb := (Bel.alloc w (Obj.cells #[Value.int IntKind.i64 m, Value.int IntKind.i64 s] 24)).trans hb1
        have c0 := cellB hb hc0
        have c1 := cellB hb hc1
        have c2 := cellB hb hc2
        have c3 := cellB hb hc3
        have d2 := fun o => cellB (Bel.alloc w1 o) c2
        have d3 := fun o => cellB (Bel.alloc w1 o) c3
        go_wp2_with fail
        go_rounds 3
        go_ret
        exact ⟨ret_int (by rw [hv.out]; rw [if_neg (by omega)]), by repeat (first | exact hb | refine Bel.trans ?_ (Bel.alloc _ _))⟩
    · go_enter Try.func31, Try.ntmps31
      go_wp2_with fail
      refine (Hgood.out _).mono ?_
      rintro e w1 ⟨rfl, hb1⟩
      have hb := (Bel.alloc w (Obj.cells #[Value.int IntKind.i64 m, Value.int IntKind.i64 s] 24)).trans hb1
      have c0 := cellB hb hc0
      have c1 := cellB hb hc1
      have c2 := cellB hb hc2
      have c3 := cellB hb hc3
      have d2 := fun o => cellB (Bel.alloc w1 o) c2
      have d3 := fun o => cellB (Bel.alloc w1 o) c3
      go_wp2_with fail
      go_rounds 3
      go_ret
      exact ⟨ret_int (by rw [hv.out]; rw [if_neg (by omega)]), by repeat (first | exact hb | refine Bel.trans ?_ (Bel.alloc _ _))⟩
  · have hgf : gd m s = false := by simpa using hg
    rw [hgf] at hgood
    have hv : wit2 m s a b c d = 4 := by unfold wit2; rw [if_neg hg]
    rw [hv]
    have Hgood := Lib.hid hgood
    clear hg hgood hgf hv
    go_enter Try.func31, Try.ntmps31
    go_wp2_with fail
    refine (Hgood.out _).mono ?_
    rintro e w1 ⟨rfl, hb1⟩
    go_wp2_with fail
    go_ret
    exact ⟨rfl, (Bel.alloc w _).trans hb1⟩
end Go.Proofs.Ytgjalgmnkadbaaa
