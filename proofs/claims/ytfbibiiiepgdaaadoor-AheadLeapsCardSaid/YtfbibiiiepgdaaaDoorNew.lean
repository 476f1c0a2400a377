/- Ahead: the contracts of New, Run, Window, Reset; of the reference's New and Note. -/
import Derived.Test.YtfbibiiiepgdaaaDoorState
set_option linter.unusedVariables false
set_option linter.unusedSimpArgs false
namespace Go.Proofs.YtfbibiiiepgdaaaDoor
open Go.RowKit Go.Proofs.YtfbibiiiepgdaaaDoorW.PrintWords Go.Proofs.YtfbibiiiepgdaaaDoorW.PrintMore
open PAheadPlays
theorem heap_at (w : World) (o : Obj) {k : Nat} (hk : k = w.heap.size) : (w.alloc o).heap[k]? = some o := by subst hk; exact heap_alloc_new w o
/-- The variable 'start' holds what the program's text lays. -/
structure Laid (w : World) : Prop where
  c0 : w.cell? ⟨0, 0, none⟩ = some (.int .i64 (-1))
  c1 : w.cell? ⟨0, 1, none⟩ = some (.int .i64 0)
  c2 : w.cell? ⟨0, 2, none⟩ = some (.int .i64 0)
  c3 : w.cell? ⟨0, 3, none⟩ = some (.int .i64 0)
theorem Laid.below {w w' : World} (h : Laid w) (hb : Below w.heap.size w w') : Laid w' := ⟨pw_cell_below hb h.c0, pw_cell_below hb h.c1, pw_cell_below hb h.c2, pw_cell_below hb h.c3⟩
theorem ix0 (B R M : Int) (w : World) : (Instr.index 48 (.agg #[.int .i64 B, .int .i64 1099511627776, .int .i64 R, .int .i64 32, .int .i64 M, .int .i64 64]) (.int .i64 0)).run Tryd.prog w = .ok (.agg #[.int .i64 B, .int .i64 1099511627776]) w := by kernel_rfl
theorem ix1 (B R M : Int) (w : World) : (Instr.index 48 (.agg #[.int .i64 B, .int .i64 1099511627776, .int .i64 R, .int .i64 32, .int .i64 M, .int .i64 64]) (.int .i64 1)).run Tryd.prog w = .ok (.agg #[.int .i64 R, .int .i64 32]) w := by kernel_rfl
theorem ix2 (B R M : Int) (w : World) : (Instr.index 48 (.agg #[.int .i64 B, .int .i64 1099511627776, .int .i64 R, .int .i64 32, .int .i64 M, .int .i64 64]) (.int .i64 2)).run Tryd.prog w = .ok (.agg #[.int .i64 M, .int .i64 64]) w := by kernel_rfl
def okN (B R M : Int) : Prop := (1 ≤ B ∧ B ≤ 1099511627776) ∧ (1 ≤ R ∧ R ≤ 32) ∧ (1 ≤ M ∧ M ≤ 64)
set_option maxHeartbeats 4000000 in
set_option maxRecDepth 100000 in
theorem new_err (B R M : Int) (w : World) (h : ¬ okN B R M) : Calls Tryd.prog 7 #[.int .i64 B, .int .i64 R, .int .i64 M] w fun e w' => e = .returned (.tuple #[.pointer none, .int .i64 2]) ∧ Below w.heap.size w w' := by
  unfold okN at h
  have hc : (B < 1) ∨ (1 ≤ B ∧ 1099511627776 < B) ∨ (1 ≤ B ∧ B ≤ 1099511627776 ∧ R < 1) ∨ (1 ≤ B ∧ B ≤ 1099511627776 ∧ 1 ≤ R ∧ 32 < R) ∨ (1 ≤ B ∧ B ≤ 1099511627776 ∧ 1 ≤ R ∧ R ≤ 32 ∧ M < 1) ∨ (1 ≤ B ∧ B ≤ 1099511627776 ∧ 1 ≤ R ∧ R ≤ 32 ∧ 1 ≤ M ∧ 64 < M) := by omega
  clear h
  have i0 := ix0 B R M
  have i1 := ix1 B R M
  have i2 := ix2 B R M
  rcases hc with h | ⟨h1, h2⟩ | ⟨h1, h2, h3⟩ | ⟨h1, h2, h3, h4⟩ | ⟨h1, h2, h3, h4, h5⟩ | ⟨h1, h2, h3, h4, h5, h6⟩
  all_goals
    go_enter Tryd.func7, Tryd.ntmps7
    go_wp2_with fail
    go_rounds 4
    all_goals
      go_ret2
      exact ⟨rfl, by go_grown⟩
set_option maxHeartbeats 4000000 in
set_option maxRecDepth 100000 in
theorem new_ok (B R M : Int) (w0 w : World) (h : okN B R M) (hL : Laid w) (hB : Below w0.heap.size w0 w) : Calls Tryd.prog 7 #[.int .i64 B, .int .i64 R, .int .i64 M] w fun e w' => ∃ g, e = .returned (.tuple #[.pointer (some ⟨g, 0, none⟩), .int .i64 0]) ∧ w.heap.size ≤ g ∧ IsP w0 w' g B R M (-1) 0 0 0 ∧ Below w.heap.size w w' := by
  obtain ⟨⟨b1, b2⟩, ⟨r1, r2⟩, ⟨m1, m2⟩⟩ := h
  have l0 := fun o p q => (((hL.below ((Below.refl _ _).alloc (Nat.le_refl _) o)).below ((Below.refl _ _).alloc (Nat.le_refl _) p)).below ((Below.refl _ _).alloc (Nat.le_refl _) q)).c0
  have l1 := fun o p q => (((hL.below ((Below.refl _ _).alloc (Nat.le_refl _) o)).below ((Below.refl _ _).alloc (Nat.le_refl _) p)).below ((Below.refl _ _).alloc (Nat.le_refl _) q)).c1
  have l2 := fun o p q => (((hL.below ((Below.refl _ _).alloc (Nat.le_refl _) o)).below ((Below.refl _ _).alloc (Nat.le_refl _) p)).below ((Below.refl _ _).alloc (Nat.le_refl _) q)).c2
  have l3 := fun o p q => (((hL.below ((Below.refl _ _).alloc (Nat.le_refl _) o)).below ((Below.refl _ _).alloc (Nat.le_refl _) p)).below ((Below.refl _ _).alloc (Nat.le_refl _) q)).c3
  have HB := Lib.hid hB
  clear hL hB
  have i0 := ix0 B R M
  have i1 := ix1 B R M
  have i2 := ix2 B R M
  go_enter Tryd.func7, Tryd.ntmps7
  go_wp2_with fail
  go_rounds 4
  go_ret2
  exact ⟨_, rfl, by omega, ⟨heap_at _ _ (by simp), by have := HB.out.size; omega⟩, by go_grown⟩
end Go.Proofs.YtfbibiiiepgdaaaDoor
