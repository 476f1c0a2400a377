/- AheadLeaps, the walk. -/
import Derived.Test.YtfbibiiiepgdaaaDoorPlaysWalk
import Derived.Carry
set_option linter.unusedVariables false
set_option linter.unusedSimpArgs false
namespace Go.Proofs.YtfbibiiiepgdaaaDoor
open Go.RowKit Go.Proofs.YtfbibiiiepgdaaaDoorW.PrintWords Go.Proofs.YtfbibiiiepgdaaaDoorW.PrintMore
open PAheadPlays
namespace Leaps
set_option maxHeartbeats 1000000 in
theorem nilReset (w : World) : Calls Tryd.prog 13 #[.pointer none] w fun e w' => e = .returned (.tuple #[]) ∧ w = w' := by
  have hnil := fun (w : World) (p : Option Addr) => run_neq_pointer_nil (P := Tryd.prog) w 23 p ptr23
  go_enter Tryd.func13, Tryd.ntmps13
  go_wp2_with fail
  go_end0
  exact ⟨rfl, rfl⟩
set_option maxHeartbeats 1000000 in
theorem nilRun (w : World) : Calls Tryd.prog 16 #[.pointer none] w fun e w' => e = .returned (.int .i64 0) ∧ w = w' := by
  have hnil := fun (w : World) (p : Option Addr) => run_eql_pointer_nil (P := Tryd.prog) w 23 p ptr23
  go_enter Tryd.func16, Tryd.ntmps16
  go_wp2_with fail
  go_ret
  exact ⟨rfl, rfl⟩
set_option maxHeartbeats 1000000 in
theorem nilWindow (w : World) : Calls Tryd.prog 17 #[.pointer none] w fun e w' => e = .returned (.int .i64 0) ∧ w = w' := by
  have hnil := fun (w : World) (p : Option Addr) => run_eql_pointer_nil (P := Tryd.prog) w 23 p ptr23
  go_enter Tryd.func17, Tryd.ntmps17
  go_wp2_with fail
  go_ret
  exact ⟨rfl, rfl⟩
set_option maxHeartbeats 1000000 in
theorem nilNote (b : Int) (w : World) : Calls Tryd.prog 9 #[.pointer none, .int .i64 b] w fun e w' => e = .returned (.tuple #[.agg #[.int .i64 0, .int .i64 0], .bool false]) ∧ Below w.heap.size w w' := by
  have hnil := fun (w : World) (p : Option Addr) => run_eql_pointer_nil (P := Tryd.prog) w 23 p ptr23
  go_enter Tryd.func9, Tryd.ntmps9
  go_wp2_with fail
  exact bodyPost_ret (v := .tuple #[.agg #[.int .i64 0, .int .i64 0], .bool false]) (by simp [results, Tryd.results9, go_sem]) rfl ⟨rfl, by go_grown⟩
/-- A planner behind the block l (none as yet: -1). -/
structure Sit (w : World) (gp : Nat) (l B R M : Int) (W : World) : Prop where
  st : ∃ nx run win en, Valid B R M nx run win en ∧ (nx = l + 1 ∨ (nx = -1 ∧ l = -1)) ∧ IsP w W gp B R M nx run win en
  b : Below w.heap.size w W
set_option maxHeartbeats 8000000 in
set_option maxRecDepth 100000 in
theorem leaps_calls (x0 x1 x2 : Int) (A : Option Addr) (len cap : Nat) (zs : List Int) (w : World) (hcap : len ≤ cap) (hcm : cap ≤ 9223372036854775807) (hrow : Row w A len zs) (hL : Laid w) :
    Calls Tryd.prog 6 #[.agg #[.int .i64 x0, .int .i64 x1, .int .i64 x2], .slice A len cap] w fun e w' => e = .returned (.bool true) ∧ Below w.heap.size w w' := by
  have KW := Lib.hid wakesB
  have HL := Lib.hid hL
  have HR := Lib.hid hrow
  clear hL hrow
  obtain ⟨m, hm⟩ : ∃ m : Nat, min (len : Int) 80 = m := ⟨(min (len : Int) 80).toNat, by omega⟩
  have hm1 : m ≤ len := by omega
  have hm2 : m ≤ 80 := by omega
  obtain ⟨B, hy0⟩ : ∃ y, y = 1 + max 0 x0 % 300 := ⟨_, rfl⟩
  obtain ⟨R, hy1⟩ : ∃ y, y = 1 + max 0 x1 % 32 := ⟨_, rfl⟩
  obtain ⟨M, hy2⟩ : ∃ y, y = 1 + max 0 x2 % 64 := ⟨_, rfl⟩
  have r0 := Int.emod_nonneg (max 0 x0) (show (300 : Int) ≠ 0 by omega)
  have r0' := Int.emod_lt_of_pos (max 0 x0) (show (0 : Int) < 300 by omega)
  have r1 := Int.emod_nonneg (max 0 x1) (show (32 : Int) ≠ 0 by omega)
  have r1' := Int.emod_lt_of_pos (max 0 x1) (show (0 : Int) < 32 by omega)
  have r2 := Int.emod_nonneg (max 0 x2) (show (64 : Int) ≠ 0 by omega)
  have r2' := Int.emod_lt_of_pos (max 0 x2) (show (0 : Int) < 64 by omega)
  have hB1 : 1 ≤ B := by omega
  have hB2 : B ≤ 300 := by omega
  have hOK : Hid (okN B R M) := Lib.hid (by unfold okN; omega)
  have hR : 1 ≤ R ∧ R ≤ 32 := by omega
  have hM : 1 ≤ M ∧ M ≤ 64 := by omega
  have hy0' := hy0.symm
  have hy1' := hy1.symm
  have hy2' := hy2.symm
  clear hy0 hy1 hy2
  go_enter Tryd.func6, Tryd.ntmps6
  go_wp2_with fail
  refine calls_gen (fun W => Below w.heap.size w W) (by go_grown) ?_
  intro W0 hb0
  refine (new_ok B R M w _ hOK.out (HL.out.below hb0) hb0).mono ?_
  rintro e w1 ⟨gp, rfl, hg1, hi1, hb1⟩
  have I1 := Lib.hid hi1
  have B1 := Lib.hid (below_then hb0 hb0.size hb1)
  clear hi1 hb1 hg1 hb0
  go_wp2_with fail
  refine (KW.out _ (HL.out.below B1.out)).mono ?_
  rintro e w2 ⟨rfl, hb2⟩
  have I2 := Lib.hid (I1.out.below hb2)
  have B2 := Lib.hid (below_then B1.out B1.out.size hb2)
  clear hb2 I1 B1
  go_wp2_with fail
  refine (nilReset _).mono ?_
  rintro e w3 ⟨rfl, rfl⟩
  go_wp2_with fail
  have H1 : Hid (Sit w gp (-1) B R M w2) := Lib.hid ⟨⟨-1, 0, 0, 0, by constructor <;> omega, .inr ⟨rfl, rfl⟩, I2.out⟩, B2.out⟩
  clear hy0' hy1' hy2' r0 r0' r1 r1' r2 r2' I2 B2
  go_loopw [51, 9] (fun v51 v9 wr => ∃ (j l : Int), v51 = .int .i64 j ∧ v9 = .int .i64 l ∧ 0 ≤ j ∧ j ≤ m ∧ -1 ≤ l ∧ l < B ∧ Hid (Sit w gp l B R M wr)) (fun v51 _ _ => (m - intOf v51).toNat)
  case atStart => exact ⟨0, -1, rfl, rfl, by omega, by omega, by omega, by omega, H1⟩
  case round =>
    obtain ⟨wo, rfl⟩ : ∃ wo : World, wo = wr := ⟨_, rfl⟩
    obtain ⟨j, l, rfl, rfl, j0, j1, l0, l1, HS⟩ := hrel
    clear H1
    by_cases hj : j < m
    · obtain ⟨ad, rfl, hcell⟩ := HR.out (by omega)
      have hcj := pw_cell_below HS.out.b (hcell j.toNat (by omega))
      generalize zs.getD j.toNat 0 = z at *
      have b0 := Int.emod_nonneg (max 0 z) (show B ≠ 0 by omega)
      have b1 := Int.emod_lt_of_pos (max 0 z) (show 0 < B by omega)
      have hz0 : 0 ≤ max 0 z := by omega
      have HC := Lib.hid hcell
      clear hcell
      by_cases hbl : max 0 z % B = l + 1
      · have hbl' : (max 0 z % B == l + 1) = true := by simpa using hbl
        clear hbl
        go_wp2_with fail
        exact ⟨⟨j + 1, l, rfl, rfl, by omega, by omega, by omega, by omega, HS⟩, by simp [intOf]; omega⟩
      · have hbl' : (max 0 z % B == l + 1) = false := by simpa using hbl
        obtain ⟨⟨nx, run, win, en, hv, hnx, hip⟩, hbw⟩ := HS.out
        have hnote := noteP (w0 := w) (max 0 z % B) hv gp wo hip hbw
        have hv2 := valid_note hv (max 0 z % B)
        have hr : noteF B R M nx run win en (max 0 z % B) = ((0, 0, false), (max 0 z % B + 1, 1, 0, max 0 z % B + 1)) := by
          unfold noteF
          rw [if_neg (by omega)]
          simp only [if_neg (show ¬ max 0 z % B = nx by omega)]
          rw [if_pos (by omega)]
        rw [hr] at hnote hv2
        have HN := Lib.hid hnote
        have HV := Lib.hid hv2
        clear hbl hv hnx hip hbw hnote hv2 hr
        go_wp2_with fail
        generalize max 0 z % B = b at *
        refine HN.out.mono ?_
        rintro e w4 ⟨rfl, hi4, hb4, hk4⟩
        have I4 := Lib.hid (hi4.alloc (.cells #[.int .i64 0, .int .i64 0] 30))
        have B4 := Lib.hid (hb4.alloc hb4.size (.cells #[.int .i64 0, .int .i64 0] 30))
        clear hi4 hb4 hk4
        go_wp2_with fail
        refine (nilNote _ _).mono ?_
        rintro e w5 ⟨rfl, hb5⟩
        have I5 := Lib.hid ((I4.out.below hb5).alloc (.cells #[.int .i64 0, .int .i64 0] 30))
        have B5 := Lib.hid ((below_then B4.out B4.out.size hb5).alloc (below_then B4.out B4.out.size hb5).size (.cells #[.int .i64 0, .int .i64 0] 30))
        clear hb5 I4 B4
        go_wp2_with fail
        refine (runB gp w _ I5.out).mono ?_
        rintro e w6 ⟨rfl, rfl⟩
        go_wp2_with fail
        refine (windowB gp w _ I5.out).mono ?_
        rintro e w7 ⟨rfl, rfl⟩
        go_wp2_with fail
        refine (nilRun _).mono ?_
        rintro e w8 ⟨rfl, rfl⟩
        go_wp2_with fail
        refine (nilWindow _).mono ?_
        rintro e w9 ⟨rfl, rfl⟩
        have hfin : Hid (Sit w gp b B R M (w5.alloc (.cells #[.int .i64 0, .int .i64 0] 30))) := Lib.hid ⟨⟨b + 1, 1, 0, b + 1, HV.out, .inl rfl, I5.out⟩, B5.out⟩
        clear I5 B5
        go_wp2_with fail
        exact ⟨⟨j + 1, b, rfl, rfl, by omega, by omega, by omega, by omega, hfin⟩, by simp [intOf]; omega⟩
    · have hbw := HS.out.b
      go_wp2_with fail
      go_ret
      exact ⟨rfl, hbw⟩
theorem leaps_law {W : World} (x0 x1 x2 : Int) (A : Option Addr) (len cap : Nat) (zs : List Int) (h0 : IntKind.has .i64 x0) (h1 : IntKind.has .i64 x1) (h2 : IntKind.has .i64 x2)
    (h : (A = none ∧ len = 0 ∧ cap = 0 ∧ zs = []) ∨ ∃ x, A = some x ∧ len ≤ cap ∧ cap ≤ maxLen ∧ zs.length = cap ∧ (∀ i, i < zs.length → W.cell? (x.add i) = some (.int .i64 (zs.getD i 0))) ∧ ∀ n ∈ zs, (Lit.int .i64 n).wf = true) (hL : Laid W) (w : World) (hw : w = W) :
    Calls Tryd.prog 6 #[.agg #[.int .i64 x0, .int .i64 x1, .int .i64 x2], .slice A len cap] w fun e w' => e = .returned (.bool true) ∧ Below w.heap.size w w' := by
  subst hw
  obtain ⟨r1, r2, r3⟩ := row_of h
  exact leaps_calls x0 x1 x2 A len cap zs w r1 r2 r3 hL
end Leaps
end Go.Proofs.YtfbibiiiepgdaaaDoor
