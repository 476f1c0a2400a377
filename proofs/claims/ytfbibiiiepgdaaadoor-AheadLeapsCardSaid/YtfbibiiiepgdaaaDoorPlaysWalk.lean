/- AheadPlays, the walk. -/
import Derived.Test.YtfbibiiiepgdaaaDoorRef
import Derived.Test.YtfbibiiiepgdaaaDoorWakes
import Derived.Deep.QuietTactic
import Derived.BigQuiet
set_option linter.unusedVariables false
set_option linter.unusedSimpArgs false
namespace Go.Proofs.YtfbibiiiepgdaaaDoor
open Go.RowKit Go.Proofs.YtfbibiiiepgdaaaDoorW.PrintWords Go.Proofs.YtfbibiiiepgdaaaDoorW.PrintMore
open PAheadPlays
theorem runQ {B R M nx run win en : Int} (g : Nat) (w0 w : World) (hI : IsP w0 w g B R M nx run win en) : Calls Tryd.prog 16 #[.pointer (some ⟨g, 0, none⟩)] w fun e w' => e = .returned (.int .i64 run) ∧ w' = w := (runB g w0 w hI).mono fun _ _ h => ⟨h.1, h.2.symm⟩
theorem windowQ {B R M nx run win en : Int} (g : Nat) (w0 w : World) (hI : IsP w0 w g B R M nx run win en) : Calls Tryd.prog 17 #[.pointer (some ⟨g, 0, none⟩)] w fun e w' => e = .returned (.int .i64 win) ∧ w' = w := (windowB g w0 w hI).mono fun _ _ h => ⟨h.1, h.2.symm⟩
theorem calls_gen {P : Program} {f : FuncId} {args : Array Value} {R : Ending → World → Prop} {w : World} (Φ : World → Prop) (hΦ : Φ w) (h : ∀ W, Φ W → Calls P f args W R) : Calls P f args w R := h w hΦ
theorem ptr38 : Tryd.prog.underlying 38 = some (.pointer (Tryd.prog.pointee 38)) := by kernel_rfl
def mvF (a k : Int) : Int := if (Go.bits .and .i64 k 7) > 0 then wrap64 (a + 1) else k
theorem movedB (a k : Int) (w : World) : Calls Tryd.prog 14 #[.int .i64 a, .int .i64 k] w fun e w' => e = .returned (.int .i64 (mvF a k)) ∧ Below w.heap.size w w' := by
  refine (trunnionlaw22_moved.calls a k _ w ?_).mono fun _ _ h => ⟨h.1, h.2.below⟩
  unfold trunnionlaw22_moved.f mvF
  split <;> rfl
/-- A slice of ints that is read. -/
def Row (w : World) (A : Option Addr) (n : Nat) (zs : List Int) : Prop := 0 < n → ∃ ad, A = some ad ∧ ∀ i, i < n → w.cell? (ad.add i) = some (.int .i64 (zs.getD i 0))
theorem Row.below {w w' : World} {A : Option Addr} {n : Nat} {zs : List Int} (h : Row w A n zs) (hb : Below w.heap.size w w') : Row w' A n zs := fun hn => by
  obtain ⟨ad, e, hc⟩ := h hn
  exact ⟨ad, e, fun i hi => pw_cell_below hb (hc i hi)⟩
set_option maxHeartbeats 8000000 in
set_option maxRecDepth 100000 in
theorem plays_calls (x0 x1 x2 : Int) (A : Option Addr) (len cap : Nat) (zs : List Int) (w : World) (hcap : len ≤ cap) (hcm : cap ≤ 9223372036854775807) (hrow : Row w A len zs) (hL : Laid w) :
    Calls Tryd.prog 5 #[.agg #[.int .i64 x0, .int .i64 x1, .int .i64 x2], .slice A len cap] w fun e w' => e = .returned (.bool true) ∧ Below w.heap.size w w' := by
  have KW := Lib.hid wakesB
  have HR := Lib.hid hrow
  have HL := Lib.hid hL
  clear hrow hL
  obtain ⟨y0, hy0⟩ : ∃ y, y = 1 + max 0 x0 % 200 := ⟨_, rfl⟩
  obtain ⟨y1, hy1⟩ : ∃ y, y = 1 + max 0 x1 % 32 := ⟨_, rfl⟩
  obtain ⟨y2, hy2⟩ : ∃ y, y = 1 + max 0 x2 % 64 := ⟨_, rfl⟩
  have r0 := Int.emod_nonneg (max 0 x0) (show (200 : Int) ≠ 0 by omega)
  have r0' := Int.emod_lt_of_pos (max 0 x0) (show (0 : Int) < 200 by omega)
  have r1 := Int.emod_nonneg (max 0 x1) (show (32 : Int) ≠ 0 by omega)
  have r1' := Int.emod_lt_of_pos (max 0 x1) (show (0 : Int) < 32 by omega)
  have r2 := Int.emod_nonneg (max 0 x2) (show (64 : Int) ≠ 0 by omega)
  have r2' := Int.emod_lt_of_pos (max 0 x2) (show (0 : Int) < 64 by omega)
  obtain ⟨m, hm⟩ : ∃ m : Nat, min (len : Int) 80 = m := ⟨(min (len : Int) 80).toNat, by omega⟩
  have hm1 : m ≤ len := by omega
  have hm2 : m ≤ 80 := by omega
  have hy0' := hy0.symm
  have hy1' := hy1.symm
  have hy2' := hy2.symm
  clear hy0 hy1 hy2
  go_enter Tryd.func5, Tryd.ntmps5
  go_wp2_with fail
  refine wp_gen (fun W => Below w.heap.size w W ∧ (W.heap[w.heap.size + 1]? = some (.cells #[.int .i64 x0, .int .i64 x1, .int .i64 x2, .int .i64 y0, .int .i64 y1, .int .i64 y2] 22 (0, 0)))) ⟨by go_grown, heap_at _ _ (by simp)⟩ ?_
  rintro W1 ⟨hbW, hblk⟩
  have HW := Lib.hid hbW
  have HK := Lib.hid hblk
  have HO2 : Hid (okN y0 y1 y2) := Lib.hid (by unfold okN; omega)
  clear hbW hblk hy0' hy1' hy2' r0 r0' r1 r1' r2 r2'
  go_loopw [38] (fun v38 wr => ∃ (k : Int), v38 = .int .i64 k ∧ 0 ≤ k ∧ k ≤ 2 ∧ Hid (Below W1.heap.size W1 wr)) (fun v38 _ => (2 - intOf v38).toNat)
  case atStart => exact ⟨0, rfl, by omega, by omega, Lib.hid (Below.refl _ _)⟩
  case round =>
    obtain ⟨wo, rfl⟩ : ∃ wo : World, wo = wr := ⟨_, rfl⟩
    obtain ⟨k, rfl, k0, k1, HB⟩ := hrel
    have hwo : Hid (Below w.heap.size w wo) := Lib.hid (below_then HW.out HW.out.size HB.out)
    by_cases hlt : k < 2
    · have hbl := (HB.out.block _ (blk_lt HK.out)).trans HK.out
      have c0 := fun o => blk_cell ((Below.heap_alloc wo o _ (blk_lt hbl)).trans hbl)
      have c0' := blk_cell hbl
      have hc : ∃ B R M : Int, (wo.cell? ⟨w.heap.size + 1, k.toNat * 3, none⟩ = some (.int .i64 B) ∧ wo.cell? ⟨w.heap.size + 1, k.toNat * 3 + 1, none⟩ = some (.int .i64 R) ∧ wo.cell? ⟨w.heap.size + 1, k.toNat * 3 + 2, none⟩ = some (.int .i64 M)) := by
        rcases (by omega : k = 0 ∨ k = 1) with rfl | rfl
        · exact ⟨x0, x1, x2, c0' 0, c0' 1, c0' 2⟩
        · exact ⟨y0, y1, y2, c0' 3, c0' 4, c0' 5⟩
      obtain ⟨B, R, M, q0, q1, q2⟩ := hc
      clear c0 c0' hbl
      go_wp2_with fail
      have hlw : w.heap.size + 1 < wo.heap.size := Nat.lt_of_lt_of_le (blk_lt HK.out) HB.out.size
      refine calls_gen (fun W => Below wo.heap.size wo W ∧ W.heap[wo.heap.size]? = some (.cells #[.int .i64 B, .int .i64 R, .int .i64 M] 22 (0, 0))) ⟨(Below.refl _ _).alloc (Nat.le_refl _) _, heap_alloc_new _ _⟩ ?_
      rintro W6 ⟨hb6, hk6⟩
      have H6 := Lib.hid hb6
      have Q6 := Lib.hid hk6
      have hw6 : Hid (Below w.heap.size w W6) := Lib.hid (below_then hwo.out hwo.out.size hb6)
      clear hb6 hk6 q0 q1 q2
      have hnil := fun (w : World) (p : Option Addr) => run_eql_pointer_nil (P := Tryd.prog) w 23 p ptr23
      have hnil2 := fun (w : World) (p : Option Addr) => run_eql_pointer_nil (P := Tryd.prog) w 38 p ptr38
      by_cases hok : okN B R M
      · refine (new_ok B R M W6 W6 hok (HL.out.below hw6.out) (Below.refl _ _)).mono ?_
        rintro e w7 ⟨gp, rfl, hgp, hip, hb7⟩
        have IP := Lib.hid hip
        have B7 := Lib.hid hb7
        have z0 := blk_cell ((hb7.block _ (blk_lt Q6.out)).trans Q6.out) 0
        have z1 := blk_cell ((hb7.block _ (blk_lt Q6.out)).trans Q6.out) 1
        have z2 := blk_cell ((hb7.block _ (blk_lt Q6.out)).trans Q6.out) 2
        clear hip hb7
        go_wp2_with fail
        refine (rnew_ok B R M W6 w7 hok B7.out).mono ?_
        rintro e w8 ⟨gr, rfl, hgr, hir, hb8⟩
        have IR := Lib.hid hir
        have IP8 := Lib.hid (IP.out.below hb8)
        have B8 := Lib.hid (below_then B7.out B7.out.size hb8)
        have HOK := Lib.hid hok
        clear hir hb8 IP B7 z0 z1 z2 hok
        go_wp2_with fail
        have V0 : Hid (∃ nx run win en, Valid B R M nx run win en ∧ IsP W6 w8 gp B R M nx run win en ∧ IsR W6 w8 gr B R M nx run win en ∧ Below W6.heap.size W6 w8) :=
          Lib.hid ⟨-1, 0, 0, 0, by obtain ⟨⟨a, b⟩, ⟨c, d⟩, ⟨e, f⟩⟩ := HOK.out; constructor <;> omega, IP8.out, IR.out, B8.out⟩
        clear IP8 IR B8
        go_loopw [80, 11, 9] (fun v80 v11 v9 wr => ∃ (j a : Int) (gr : Nat), v80 = .int .i64 j ∧ v11 = .int .i64 a ∧ v9 = .pointer (some ⟨gr, 0, none⟩) ∧ 0 ≤ j ∧ j ≤ m ∧ Hid (∃ nx run win en, Valid B R M nx run win en ∧ IsP W6 wr gp B R M nx run win en ∧ IsR W6 wr gr B R M nx run win en ∧ Below W6.heap.size W6 wr)) (fun v80 _ _ _ => (m - intOf v80).toNat)
        case atStart => exact ⟨0, 0, gr, rfl, rfl, rfl, by omega, by omega, V0⟩
        case round =>
          obtain ⟨wi, rfl⟩ : ∃ wi : World, wi = wr := ⟨_, rfl⟩
          obtain ⟨j, a, gr, rfl, rfl, rfl, j0, j1, HV⟩ := hrel
          clear V0
          by_cases hj : j < m
          · obtain ⟨ad, rfl, hcell⟩ := HR.out (by omega)
            obtain ⟨nx, run, win, en, hv, hip, hir, hb⟩ := HV.out
            have hcj := pw_cell_below (below_then hw6.out hw6.out.size hb) (hcell j.toNat (by omega))
            have hvw : Below w.heap.size w wi := below_then hw6.out hw6.out.size hb
            generalize zs.getD j.toNat 0 = z at *
            have IP := Lib.hid hip
            have IR := Lib.hid hir
            have BB := Lib.hid hb
            have VV := Lib.hid hv
            have BW := Lib.hid hvw
            have HC := Lib.hid hcell
            clear hcell hip hir hb hv hvw HV
            by_cases h77 : z = 77
            · have h77' : (z == 77) = true := by simpa using h77
              clear h77
              go_wp2_with fail
              refine (resetB gp W6 wi (HL.out.below BW.out) IP.out BB.out).mono ?_
              rintro e w9 ⟨rfl, hi9, hb9, hk9⟩
              have I9 := Lib.hid hi9
              have B9 := Lib.hid hb9
              have z0 := blk_cell ((hb9.block _ (blk_lt Q6.out)).trans Q6.out) 0
              have z1 := blk_cell ((hb9.block _ (blk_lt Q6.out)).trans Q6.out) 1
              have z2 := blk_cell ((hb9.block _ (blk_lt Q6.out)).trans Q6.out) 2
              clear hi9 hb9 hk9 IP IR BB VV BW hcj
              go_wp2_with fail
              refine (rnew_ok B R M W6 w9 HOK.out B9.out).mono ?_
              rintro e w10 ⟨gr2, rfl, hg2, hir2, hb10⟩
              have V1 : Hid (∃ nx run win en, Valid B R M nx run win en ∧ IsP W6 w10 gp B R M nx run win en ∧ IsR W6 w10 gr2 B R M nx run win en ∧ Below W6.heap.size W6 w10) :=
                Lib.hid ⟨-1, 0, 0, 0, by obtain ⟨⟨a, b⟩, ⟨c, d⟩, ⟨e, f⟩⟩ := HOK.out; constructor <;> omega, I9.out.below hb10, hir2, below_then B9.out B9.out.size hb10⟩
              clear hg2 hir2 hb10 I9 B9 z0 z1 z2
              go_wp2_with fail
              exact ⟨⟨j + 1, a, gr2, rfl, rfl, rfl, by omega, by omega, V1⟩, by simp [intOf]; omega⟩
            · have h77' : (z == 77) = false := by simpa using h77
              clear h77
              go_wp2_with fail
              refine (movedB _ _ _).mono ?_
              rintro e w9 ⟨rfl, hb9⟩
              generalize mvF (min a 1099511627776) z = b at *
              have I9 := Lib.hid (IP.out.below hb9)
              have R9 := Lib.hid (IR.out.below hb9)
              have B9 := Lib.hid (below_then BB.out BB.out.size hb9)
              clear hb9 IP IR BB BW hcj
              go_wp2_with fail
              refine (noteP b VV.out gp W6 w9 I9.out B9.out).mono ?_
              rintro e w10 ⟨rfl, hi10, hb10, hk10⟩
              have hgne : gr ≠ gp := fun e => by
                subst e
                have h1 := I9.out.1
                have h2 := R9.out.1
                rw [h1] at h2
                cases h2
              have hv2 := valid_note VV.out b
              have hrn := rnoteB (w0 := W6) b VV.out gr
              generalize noteF B R M nx run win en b = r at *
              obtain ⟨⟨fr, to_, ok⟩, nx2, run2, win2, en2⟩ := r
              have R10 := Lib.hid ((hk10.2 gr R9.out.lt hgne (by simp)).trans R9.out.1)
              have HRN := Lib.hid hrn
              have I10 := Lib.hid (hi10.alloc (.cells #[.int .i64 fr, .int .i64 to_] 30))
              have B10 := Lib.hid (hb10.alloc hb10.size (.cells #[.int .i64 fr, .int .i64 to_] 30))
              have hlt10 := blk_lt R10.out
              have R11 : Hid (IsR W6 (w10.alloc (.cells #[.int .i64 fr, .int .i64 to_] 30)) gr B R M nx run win en) := Lib.hid ⟨(Below.heap_alloc w10 _ _ hlt10).trans R10.out, R9.out.2⟩
              have V2 := Lib.hid hv2
              have hnew : Hid ((w10.alloc (.cells #[.int .i64 fr, .int .i64 to_] 30)).heap[w10.heap.size]? = some (.cells #[.int .i64 fr, .int .i64 to_] 30 (0, 0))) := Lib.hid (heap_alloc_new _ _)
              have hgne2 : w10.heap.size ≠ gr := by omega
              clear hi10 hb10 hk10 hrn hv2 I9 R9 B9 R10 VV
              go_wp2_with fail
              refine (HRN.out _ R11.out B10.out).mono ?_
              rintro e w12 ⟨rfl, hr12, hb12, hk12⟩
              have I12 := Lib.hid ((hk12.2 gp I10.out.lt (by omega) (by simp)).trans I10.out.1)
              have P12 : Hid (IsP W6 w12 gp B R M nx2 run2 win2 en2) := Lib.hid ⟨I12.out, I10.out.2⟩
              have d0 := blk_cell ((hk12.2 _ (by simp) hgne2 (by simp)).trans hnew.out) 0
              have d1 := blk_cell ((hk12.2 _ (by simp) hgne2 (by simp)).trans hnew.out) 1
              have c4 := cellS45_4 hr12.1
              have c5 := cellS45_5 hr12.1
              have V1 : Hid (∃ nx run win en, Valid B R M nx run win en ∧ IsP W6 w12 gp B R M nx run win en ∧ IsR W6 w12 gr B R M nx run win en ∧ Below W6.heap.size W6 w12) :=
                Lib.hid ⟨_, _, _, _, V2.out, P12.out, hr12, hb12⟩
              clear hr12 hb12 hk12 I10 B10 R11 I12 V2 HRN
              go_wp2_with fail
              go_quiet ((first | (go_at_call 16; exact Calls.quiet_of_same (runQ gp W6 _ (by first | exact P12.out.drewN _ | exact P12.out))) | (go_at_call 17; exact Calls.quiet_of_same (windowQ gp W6 _ (by first | exact P12.out.drewN _ | exact P12.out)))))
              go_wp2_with fail
              exact ⟨⟨j + 1, b, gr, rfl, rfl, rfl, by omega, by omega, Lib.hid (by
                obtain ⟨n1, n2, n3, n4, hv, hp, hr, hb⟩ := V1.out
                exact ⟨n1, n2, n3, n4, hv, hp.drewN _, hr.drewN _, pw_below_drewN hb _⟩)⟩, by simp [intOf]; omega⟩
          · have HBE : Hid (Below W1.heap.size W1 wi) := Lib.hid (by
              obtain ⟨nx, run, win, en, hv, hip, hir, hb⟩ := HV.out
              exact below_then (below_then HB.out HB.out.size H6.out) (Nat.le_trans HB.out.size H6.out.size) hb)
            go_wp2_with fail
            exact ⟨⟨k + 1, rfl, by omega, by omega, HBE⟩, by simp [intOf]; omega⟩
      · refine (new_err B R M W6 hok).mono ?_
        rintro e w7 ⟨rfl, hb7⟩
        have z0 := blk_cell ((hb7.block _ (blk_lt Q6.out)).trans Q6.out) 0
        have z1 := blk_cell ((hb7.block _ (blk_lt Q6.out)).trans Q6.out) 1
        have z2 := blk_cell ((hb7.block _ (blk_lt Q6.out)).trans Q6.out) 2
        have B7 := Lib.hid hb7
        clear hb7
        go_wp2_with fail
        refine (rnew_err B R M w7 hok).mono ?_
        rintro e w8 ⟨rfl, hb8⟩
        have hbe : Below W1.heap.size W1 w8 := below_then (below_then (below_then HB.out HB.out.size H6.out) (Nat.le_trans HB.out.size H6.out.size) B7.out) (Nat.le_trans (Nat.le_trans HB.out.size H6.out.size) B7.out.size) hb8
        have HBE := Lib.hid hbe
        clear hb8 hbe hok z0 z1 z2
        go_wp2_with fail
        exact ⟨⟨k + 1, rfl, by omega, by omega, HBE⟩, by simp [intOf]; omega⟩
    · go_wp2_with fail
      refine (KW.out _ (HL.out.below hwo.out)).mono ?_
      rintro e w2 ⟨rfl, hb2⟩
      go_wp2_with fail
      go_ret
      exact ⟨rfl, below_then hwo.out hwo.out.size hb2⟩
theorem row_of {w : World} {a : Option Addr} {len cap : Nat} {zs : List Int} (h : (a = none ∧ len = 0 ∧ cap = 0 ∧ zs = []) ∨ ∃ x, a = some x ∧ len ≤ cap ∧ cap ≤ maxLen ∧ zs.length = cap ∧ (∀ i, i < zs.length → w.cell? (x.add i) = some (.int .i64 (zs.getD i 0))) ∧ ∀ n ∈ zs, (Lit.int .i64 n).wf = true) :
    len ≤ cap ∧ cap ≤ 9223372036854775807 ∧ Row w a len zs := by
  rcases h with ⟨rfl, rfl, rfl, rfl⟩ | ⟨x, rfl, hl, hm, hz, hc, _⟩
  · exact ⟨Nat.le_refl _, by omega, fun h => absurd h (by omega)⟩
  · exact ⟨hl, by unfold maxLen at hm; omega, fun _ => ⟨x, rfl, fun i hi => hc i (by omega)⟩⟩
theorem plays_law {W : World} (x0 x1 x2 : Int) (A : Option Addr) (len cap : Nat) (zs : List Int) (h0 : IntKind.has .i64 x0) (h1 : IntKind.has .i64 x1) (h2 : IntKind.has .i64 x2)
    (h : (A = none ∧ len = 0 ∧ cap = 0 ∧ zs = []) ∨ ∃ x, A = some x ∧ len ≤ cap ∧ cap ≤ maxLen ∧ zs.length = cap ∧ (∀ i, i < zs.length → W.cell? (x.add i) = some (.int .i64 (zs.getD i 0))) ∧ ∀ n ∈ zs, (Lit.int .i64 n).wf = true) (hL : Laid W) (w : World) (hw : w = W) :
    Calls Tryd.prog 5 #[.agg #[.int .i64 x0, .int .i64 x1, .int .i64 x2], .slice A len cap] w fun e w' => e = .returned (.bool true) ∧ Below w.heap.size w w' := by
  subst hw
  obtain ⟨r1, r2, r3⟩ := row_of h
  exact plays_calls x0 x1 x2 A len cap zs w r1 r2 r3 hL
end Go.Proofs.YtfbibiiiepgdaaaDoor
