/- Geometry: the law's own check of what the document fixes (wakes). -/
import Derived.Test.YtgjalgmnkadbaaaRow
set_option linter.unusedVariables false
set_option linter.unusedSimpArgs false
namespace Go.Proofs.Ytgjalgmnkadbaaa
open Go.RowKit Go.Proofs.YtgjalgmnkadbaaaW.PrintWords Go.Proofs.YtgjalgmnkadbaaaW.PrintMore
theorem row_okC (m s t : Int) (w : World) (hg : gd m s = true) (h0 : 0 ≤ t) (h1 : t < s) : Calls Try.prog 21 #[.agg #[.int .i64 m, .int .i64 s], .int .i64 t] w fun e w' => ∃ A c, e = .returned (.tuple #[.slice A (rowL m t m.toNat).length c, .int .i64 0]) ∧ (rowL m t m.toNat).length ≤ c ∧ Kd.C (Kd.int .i64) w' A (rowL m t m.toNat).length (rowL m t m.toNat) ∧ Bel w w' := by
  refine (row_ok m s t w hg h0 h1).mono ?_
  rintro e w' ⟨v, rfl, hR, hb⟩
  obtain ⟨A, c, rfl, hl, hC⟩ := Kd.R_reads hR
  exact ⟨A, c, rfl, hl, hC, hb⟩
theorem wk_row (w : World) : Calls Try.prog 21 #[.agg #[.int .i64 5, .int .i64 2], .int .i64 1] w fun e w' => ∃ A c, e = .returned (.tuple #[.slice A 5 c, .int .i64 0]) ∧ 5 ≤ c ∧ Kd.C (Kd.int .i64) w' A 5 [0, 1, 2, 3, 4] ∧ Bel w w' := by
  have h := row_okC 5 2 1 w (by decide) (by omega) (by omega)
  rw [show rowL 5 1 (5 : Int).toNat = [0, 1, 2, 3, 4] by decide] at h
  exact h
theorem wk_equal (w : World) (A1 A2 : Option Addr) (c1 c2 : Nat) (h1 : 5 ≤ c1) (h2 : 5 ≤ c2) (hC1 : Kd.C (Kd.int .i64) w A1 5 [0, 1, 2, 3, 4]) (hC2 : Kd.C (Kd.int .i64) w A2 5 [0, 1, 2, 3, 4]) : Calls Try.prog 24 #[.slice A1 5 c1, .slice A2 5 c2] w fun e w' => e = .returned (.bool true) ∧ Bel w w' :=
  (PGeomRows.trunnionlaw09_equal.calls 9 A1 c1 [0, 1, 2, 3, 4] A2 c2 [0, 1, 2, 3, 4] true w hC1 h1 hC2 h2 (by decide +kernel)).mono fun _ _ h => ⟨h.1, h.2.below⟩
set_option maxHeartbeats 2000000 in
theorem wakesB (w : World) : Calls Try.prog 10 #[] w fun e w' => e = .returned (.bool true) ∧ Bel w w' := by
  go_enter Try.func10, Try.ntmps10
  go_wp2_with fail
  refine (wk_row _).mono ?_
  rintro e w1 ⟨A, c, rfl, hc, hC, hb1⟩
  have HC := Lib.hid hC
  clear hC
  go_wp2_with fail
  have hnew : Kd.C (Kd.int .i64) (w1.alloc (Obj.cells #[Value.int IntKind.i64 0, Value.int IntKind.i64 1, Value.int IntKind.i64 2, Value.int IntKind.i64 3, Value.int IntKind.i64 4] 3)) (some ⟨w1.heap.size, 0, none⟩) 5 [0, 1, 2, 3, 4] := by
    refine Kd.C_of_reads (d := (0 : Int)) (h1 := fun _ => rfl) ⟨rfl, by omega, fun _ => ⟨_, rfl, fun j hj => ?_⟩⟩
    rcases (by omega : j = 0 ∨ j = 1 ∨ j = 2 ∨ j = 3 ∨ j = 4) with rfl | rfl | rfl | rfl | rfl <;> simp [go_sem]
  refine (wk_equal _ _ _ _ _ hc (by omega) (Kd.C_alloc HC.out _) hnew).mono ?_
  rintro e w2 ⟨rfl, hb2⟩
  go_wp2_with fail
  go_ret
  exact ⟨rfl, (hb1.trans (Bel.alloc _ _)).trans hb2⟩
end Go.Proofs.Ytgjalgmnkadbaaa
