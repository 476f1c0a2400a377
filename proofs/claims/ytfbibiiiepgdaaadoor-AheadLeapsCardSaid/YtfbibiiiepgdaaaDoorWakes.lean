/- Ahead: the contracts of Run, Window, Reset; the law's own check of what the document fixes (wakes); the reference's New and Note. -/
import Derived.Test.YtfbibiiiepgdaaaDoorNew
import Derived.Test.YtfbibiiiepgdaaaDoorNote
set_option linter.unusedVariables false
set_option linter.unusedSimpArgs false
namespace Go.Proofs.YtfbibiiiepgdaaaDoor
open Go.RowKit Go.Proofs.YtfbibiiiepgdaaaDoorW.PrintWords Go.Proofs.YtfbibiiiepgdaaaDoorW.PrintMore
open PAheadPlays
section
variable {B R M nx run win en : Int}
set_option maxHeartbeats 1000000 in
theorem runB (g : Nat) (w0 w : World) (hI : IsP w0 w g B R M nx run win en) : Calls Tryd.prog 16 #[.pointer (some ⟨g, 0, none⟩)] w fun e w' => e = .returned (.int .i64 run) ∧ w = w' := by
  have hnil := fun (w : World) (p : Option Addr) => run_eql_pointer_nil (P := Tryd.prog) w 23 p ptr23
  have c4 := cellS52_4 hI.1
  clear hI
  go_enter Tryd.func16, Tryd.ntmps16
  go_wp2_with fail
  go_ret
  exact ⟨rfl, rfl⟩
set_option maxHeartbeats 1000000 in
theorem windowB (g : Nat) (w0 w : World) (hI : IsP w0 w g B R M nx run win en) : Calls Tryd.prog 17 #[.pointer (some ⟨g, 0, none⟩)] w fun e w' => e = .returned (.int .i64 win) ∧ w = w' := by
  have hnil := fun (w : World) (p : Option Addr) => run_eql_pointer_nil (P := Tryd.prog) w 23 p ptr23
  have c5 := cellS52_5 hI.1
  clear hI
  go_enter Tryd.func17, Tryd.ntmps17
  go_wp2_with fail
  go_ret
  exact ⟨rfl, rfl⟩
set_option maxHeartbeats 1000000 in
theorem resetB (g : Nat) (w0 w : World) (hL : Laid w) (hI : IsP w0 w g B R M nx run win en) (hB : Below w0.heap.size w0 w) : Calls Tryd.prog 13 #[.pointer (some ⟨g, 0, none⟩)] w fun e w' => e = .returned (.tuple #[]) ∧ IsP w0 w' g B R M (-1) 0 0 0 ∧ Below w0.heap.size w0 w' ∧ KeepBut w w' g none := by
  have hnil := fun (w : World) (p : Option Addr) => run_neq_pointer_nil (P := Tryd.prog) w 23 p ptr23
  obtain ⟨l0, l1, l2, l3⟩ := hL
  have c3 := cellS52_3 hI.1
  have c4 := cellS52_4 hI.1
  have c5 := cellS52_5 hI.1
  have c6 := cellS52_6 hI.1
  have f3 := blk_frozen hI.1 3
  have f4 := blk_frozen hI.1 4
  have f5 := blk_frozen hI.1 5
  have f6 := blk_frozen hI.1 6
  have HI := Lib.hid hI
  have HB := Lib.hid hB
  clear hI hB
  go_enter Tryd.func13, Tryd.ntmps13
  go_wp2_with fail
  go_end0
  exact ⟨rfl, (((HI.out.set_3 _).set_4 _).set_5 _).set_6 _, (((HB.out.setCell (p := ⟨g, 3, none⟩) HI.out.2 _).setCell (p := ⟨g, 4, none⟩) HI.out.2 _).setCell (p := ⟨g, 5, none⟩) HI.out.2 _).setCell (p := ⟨g, 6, none⟩) HI.out.2 _, kb_set (p := ⟨g, 6, none⟩) (kb_set (p := ⟨g, 5, none⟩) (kb_set (p := ⟨g, 4, none⟩) (kb_set (p := ⟨g, 3, none⟩) (KeepBut.refl _ _ _) (.inr rfl) _) (.inr rfl) _) (.inr rfl) _) (.inr rfl) _⟩
end
theorem note_is {B R M nx run win en : Int} (b : Int) {r : (Int × Int × Bool) × (Int × Int × Int × Int)} (hr : noteF B R M nx run win en b = r) (hv : Valid B R M nx run win en) (g : Nat) (w0 w : World) (hI : IsP w0 w g B R M nx run win en) (hB : Below w0.heap.size w0 w) :
    Calls Tryd.prog 9 #[.pointer (some ⟨g, 0, none⟩), .int .i64 b] w fun e w' => e = .returned (.tuple #[.agg #[.int .i64 r.1.1, .int .i64 r.1.2.1], .bool r.1.2.2]) ∧ IsP w0 w' g B R M r.2.1 r.2.2.1 r.2.2.2.1 r.2.2.2.2 ∧ Below w0.heap.size w0 w' ∧ KeepBut w w' g none := by
  subst hr
  exact noteP b hv g w0 w hI hB
theorem eqs (a b : Int) (w : World) : (binOp .eql 30 (.agg #[.int .i64 12, .int .i64 15]) (.agg #[.int .i64 12, .int .i64 15])).run Tryd.prog w = .ok (.bool true) w := by kernel_rfl
theorem eqs2 (w : World) : (binOp .eql 30 (.agg #[.int .i64 15, .int .i64 18]) (.agg #[.int .i64 15, .int .i64 18])).run Tryd.prog w = .ok (.bool true) w := by kernel_rfl
set_option maxHeartbeats 2000000 in
set_option maxRecDepth 100000 in
theorem wakesB (w : World) (hL : Laid w) : Calls Tryd.prog 8 #[] w fun e w' => e = .returned (.bool true) ∧ Below w.heap.size w w' := by
  have hk : okN 100 3 8 := by unfold okN; omega
  have v0 : Valid 100 3 8 (-1) 0 0 0 := by constructor <;> omega
  have v1 : Valid 100 3 8 11 1 0 11 := by constructor <;> omega
  have v2 : Valid 100 3 8 12 2 2 15 := by constructor <;> omega
  have v3 : Valid 100 3 8 13 3 2 15 := by constructor <;> omega
  have N0 := Lib.hid (fun g wx h => note_is (B := 100) (R := 3) (M := 8) (nx := -1) (run := 0) (win := 0) (en := 0) 10 (r := ((0, 0, false), (11, 1, 0, 11))) (by decide) v0 g w wx h)
  have N1 := Lib.hid (fun g wx h => note_is (B := 100) (R := 3) (M := 8) (nx := 11) (run := 1) (win := 0) (en := 11) 11 (r := ((12, 15, true), (12, 2, 2, 15))) (by decide) v1 g w wx h)
  have N2 := Lib.hid (fun g wx h => note_is (B := 100) (R := 3) (M := 8) (nx := 12) (run := 2) (win := 2) (en := 15) 12 (r := ((0, 0, false), (13, 3, 2, 15))) (by decide) v2 g w wx h)
  have N3 := Lib.hid (fun g wx h => note_is (B := 100) (R := 3) (M := 8) (nx := 13) (run := 3) (win := 2) (en := 15) 13 (r := ((15, 18, true), (14, 4, 4, 18))) (by decide) v3 g w wx h)
  have K := Lib.hid (new_ok 100 3 8 w w hk hL (Below.refl _ _))
  have E1 := eqs 0 0
  have E2 := eqs2
  clear hL hk v0 v1 v2 v3
  go_enter Tryd.func8, Tryd.ntmps8
  go_wp2_with fail
  refine K.out.mono ?_
  rintro e w1 ⟨g, rfl, hg, hi1, hb1⟩
  have I1 := Lib.hid hi1
  have B1 := Lib.hid hb1
  clear hi1 hb1
  go_wp2_with fail
  refine (N0.out g _ I1.out B1.out).mono ?_
  rintro e w2 ⟨rfl, hi2, hb2, hk2⟩
  have I2 := Lib.hid (hi2.alloc (.cells #[.int .i64 0, .int .i64 0] 30))
  have B2 := Lib.hid (hb2.alloc hb2.size (.cells #[.int .i64 0, .int .i64 0] 30))
  clear hi2 hb2 hk2 I1 B1
  go_wp2_with fail
  refine (N1.out g _ I2.out B2.out).mono ?_
  rintro e w3 ⟨rfl, hi3, hb3, hk3⟩
  have I3 := Lib.hid (hi3.alloc (.cells #[.int .i64 12, .int .i64 15] 30))
  have B3 := Lib.hid (hb3.alloc hb3.size (.cells #[.int .i64 12, .int .i64 15] 30))
  have hbl : (w3.alloc (.cells #[.int .i64 12, .int .i64 15] 30)).heap[w3.heap.size]? = some (.cells #[.int .i64 12, .int .i64 15] 30 (0, 0)) := heap_alloc_new _ _
  have BL := Lib.hid hbl
  have hgl : g ≠ w3.heap.size := by have := hi3.lt; omega
  clear hi3 hb3 hk3 I2 B2 hbl
  go_wp2_with fail
  refine (N2.out g _ I3.out B3.out).mono ?_
  rintro e w4 ⟨rfl, hi4, hb4, hk4⟩
  have BL4 := Lib.hid ((hk4.2 w3.heap.size (by simp) (by omega) (by simp)).trans BL.out)
  have I4 := Lib.hid (hi4.alloc (.cells #[.int .i64 0, .int .i64 0] 30))
  have B4 := Lib.hid (hb4.alloc hb4.size (.cells #[.int .i64 0, .int .i64 0] 30))
  have hlt4 := blk_lt BL4.out
  clear hi4 hb4 hk4 I3 B3
  go_wp2_with fail
  refine (N3.out g _ I4.out B4.out).mono ?_
  rintro e w5 ⟨rfl, hi5, hb5, hk5⟩
  have BL5 := Lib.hid ((hk5.2 w3.heap.size (by simp; omega) (by omega) (by simp)).trans ((Below.heap_alloc w4 _ _ hlt4).trans BL4.out))
  have I5 := Lib.hid (hi5.alloc (.cells #[.int .i64 15, .int .i64 18] 30))
  have B5 := Lib.hid (hb5.alloc hb5.size (.cells #[.int .i64 15, .int .i64 18] 30))
  have hlt5 := blk_lt BL5.out
  have BL6 := Lib.hid ((Below.heap_alloc w5 (.cells #[.int .i64 15, .int .i64 18] 30) _ hlt5).trans BL5.out)
  have d0 := blk_cell BL6.out 0
  have d1 := blk_cell BL6.out 1
  clear hi5 hb5 hk5 I4 B4 hlt4 hlt5
  go_wp2_with fail
  refine (runB g w _ I5.out).mono ?_
  rintro e w6 ⟨rfl, rfl⟩
  go_wp2_with fail
  go_ret
  exact ⟨rfl, B5.out⟩
end Go.Proofs.YtfbibiiiepgdaaaDoor
