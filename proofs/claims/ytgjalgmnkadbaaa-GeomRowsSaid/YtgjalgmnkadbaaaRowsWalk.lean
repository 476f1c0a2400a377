/- GeomRows, the walk. -/
import Derived.Test.YtgjalgmnkadbaaaCols
import Derived.Test.YtgjalgmnkadbaaaWakes
import Derived.OpenShut
import Derived.Deep.RegionHeld3
set_option linter.unusedVariables false
set_option linter.unusedSimpArgs false
namespace Go.Proofs.Ytgjalgmnkadbaaa
open Go.RowKit Go.Proofs.YtgjalgmnkadbaaaW.PrintWords Go.Proofs.YtgjalgmnkadbaaaW.PrintMore
def gMr (m : Int) : Int := 4 + (mx 0 m) % 29
def gSr (s : Int) : Int := 1 + (mx 0 s) % 64
theorem goodGBr (m s : Int) (w : World) : Calls Try.prog 9 #[.agg #[.int .i64 m, .int .i64 s]] w fun e w' => e = .returned (.agg #[.int .i64 (gMr m), .int .i64 (gSr s)]) ∧ Bel w w' :=
  PGeomRows.trunnionlaw09_good.calls m s _ _ w rfl
theorem sV_zero (m s t : Int) (h : rE m s t = 0) : sV m s t = 100 + t := if_pos h
theorem rE_bd (m s t : Int) (h : rE m s t = 0) : 0 ≤ t ∧ t < 64 := by
  have hz := rE_zero h
  have := (gd_iff m s).1 hz.1
  omega
set_option maxHeartbeats 8000000 in
set_option maxRecDepth 100000 in
theorem rows_calls (m s y0 y1 : Int) (w : World) : Calls Try.prog 5 #[.agg #[.int .i64 m, .int .i64 s], .agg #[.int .i64 y0, .int .i64 y1]] w fun e w' => e = .returned (.bool true) ∧ Bel w w' := by
  have K1 := Lib.hid (goodGBr m s)
  have K2 := Lib.hid memberB
  have K3 := Lib.hid rmemberB
  have K4 := Lib.hid columnB
  have K5 := Lib.hid rcolumnB
  have K6 := Lib.hid rowB
  have K7 := Lib.hid rrowB
  have K8 := Lib.hid sectorB
  go_enter Try.func5, Try.ntmps5
  go_wp2_with fail
  have fx : ∀ wx, Bel ((w.alloc (Obj.cells #[Value.int IntKind.i64 m, Value.int IntKind.i64 s] 23)).alloc (Obj.cells #[Value.int IntKind.i64 y0, Value.int IntKind.i64 y1] 37)) wx → wx.cell? ⟨w.heap.size, 0, none⟩ = some (.int .i64 m) ∧ wx.cell? ⟨w.heap.size, 1, none⟩ = some (.int .i64 s) ∧ wx.cell? ⟨w.heap.size + 1, 0, none⟩ = some (.int .i64 y0) ∧ wx.cell? ⟨w.heap.size + 1, 1, none⟩ = some (.int .i64 y1) := fun wx hx => ⟨cellB hx (by simp [go_sem]), cellB hx (by simp [go_sem]), cellB hx (by simp [go_sem]), cellB hx (by simp [go_sem])⟩
  have hW : Bel w ((w.alloc (Obj.cells #[Value.int IntKind.i64 m, Value.int IntKind.i64 s] 23)).alloc (Obj.cells #[Value.int IntKind.i64 y0, Value.int IntKind.i64 y1] 37)) := (Bel.alloc _ _).trans (Bel.alloc _ _)
  generalize (w.alloc (Obj.cells #[Value.int IntKind.i64 m, Value.int IntKind.i64 s] 23)).alloc (Obj.cells #[Value.int IntKind.i64 y0, Value.int IntKind.i64 y1] 37) = W0 at fx hW ⊢
  have fx0 := fun wx hx => (fx wx hx).1
  have fx1 := fun wx hx => (fx wx hx).2.1
  have Fx := Lib.hid fx
  clear fx
  go_region_held3 (fun w' => Bel W0 w') (first | assumption | exact Bel.drew _ | exact Bel.trans (by assumption) (Bel.drew _) | exact Bel.trans (by assumption) (by assumption) | exact Bel.trans (by assumption) (Bel.alloc _ _)) ((first | (go_at_call 9; refine (K1.out _).mono ?_; rintro e wa ⟨rfl, hba⟩)))
  clear fx0 fx1
  have hW1 : Bel W0 (wa.alloc (Obj.cells #[Value.int IntKind.i64 m, Value.int IntKind.i64 s, Value.int IntKind.i64 (gMr m), Value.int IntKind.i64 (gSr s)] 24)) := by assumption
  go_wp2_with fail
  have fs : ∀ wx, Bel (wa.alloc (Obj.cells #[Value.int IntKind.i64 m, Value.int IntKind.i64 s, Value.int IntKind.i64 (gMr m), Value.int IntKind.i64 (gSr s)] 24)) wx → wx.cell? ⟨wa.heap.size, 0, none⟩ = some (.int .i64 m) ∧ wx.cell? ⟨wa.heap.size, 1, none⟩ = some (.int .i64 s) ∧ wx.cell? ⟨wa.heap.size, 2, none⟩ = some (.int .i64 (gMr m)) ∧ wx.cell? ⟨wa.heap.size, 3, none⟩ = some (.int .i64 (gSr s)) := fun wx hx => ⟨cellB hx (by simp [go_sem]), cellB hx (by simp [go_sem]), cellB hx (by simp [go_sem]), cellB hx (by simp [go_sem])⟩
  have Fs := Lib.hid fs
  clear fs
  generalize wa.alloc (Obj.cells #[Value.int IntKind.i64 m, Value.int IntKind.i64 s, Value.int IntKind.i64 (gMr m), Value.int IntKind.i64 (gSr s)] 24) = W1 at Fs hW1 ⊢
  have Fy : Hid (∀ wx, Bel W1 wx → wx.cell? ⟨w.heap.size + 1, 0, none⟩ = some (.int .i64 y0) ∧ wx.cell? ⟨w.heap.size + 1, 1, none⟩ = some (.int .i64 y1)) := Lib.hid (fun wx hx => (Fx.out wx (hW1.trans hx)).2.2)
  have hWW : Bel w W1 := hW.trans hW1
  clear Fx hW1 hW hba
  go_loopw [29] (fun v29 wr => ∃ (k : Int), 0 ≤ k ∧ k ≤ 2 ∧ v29 = .int .i64 k ∧ Hid (Bel W1 wr)) (fun v29 _ => (2 - intOf v29).toNat)
  case atStart => exact ⟨0, by omega, by omega, rfl, Lib.hid (Bel.refl _)⟩
  case round =>
    obtain ⟨wo, rfl⟩ : ∃ wo : World, wo = wr := ⟨_, rfl⟩
    obtain ⟨k, hk0, hk, rfl, HB⟩ := hrel
    by_cases hlt : k < 2
    · have hb := HB.out
      clear HB
      obtain ⟨d0, d1, d2, d3⟩ := Fs.out wo hb
      obtain ⟨q0, q1⟩ := Fy.out wo hb
      have p0 := fun o p => cellB ((Bel.alloc wo o).trans (Bel.alloc _ p)) q0
      have p1 := fun o p => cellB ((Bel.alloc wo o).trans (Bel.alloc _ p)) q1
      generalize gMr m = m2 at *
      generalize gSr s = s2 at *
      rcases (by omega : k = 0 ∨ k = 1) with rfl | rfl
      · go_wp2_with fail
        have F4 : Hid (∀ wx, Bel (((wo.alloc (Obj.cells #[Value.int IntKind.i64 m, Value.int IntKind.i64 s] 24)).alloc (Obj.cells #[Value.int IntKind.i64 m, Value.int IntKind.i64 s] 33)).alloc (Obj.cells #[Value.int IntKind.i64 y0, Value.int IntKind.i64 y1, Value.int IntKind.i64 (Go.bits .and .i64 y0 63), Value.int IntKind.i64 (Go.bits .and .i64 y1 31)] 37)) wx → wx.cell? ⟨wo.heap.size, 0, none⟩ = some (.int .i64 m) ∧ wx.cell? ⟨wo.heap.size, 1, none⟩ = some (.int .i64 s) ∧ wx.cell? ⟨wo.heap.size + 1, 0, none⟩ = some (.int .i64 m) ∧ wx.cell? ⟨wo.heap.size + 1, 1, none⟩ = some (.int .i64 s)) := Lib.hid (fun wx hx => ⟨cellB hx (by simp [go_sem]), cellB hx (by simp [go_sem]), cellB hx (by simp [go_sem]), cellB hx (by simp [go_sem])⟩)
        have F3 : Hid (∀ wx, Bel (((wo.alloc (Obj.cells #[Value.int IntKind.i64 m, Value.int IntKind.i64 s] 24)).alloc (Obj.cells #[Value.int IntKind.i64 m, Value.int IntKind.i64 s] 33)).alloc (Obj.cells #[Value.int IntKind.i64 y0, Value.int IntKind.i64 y1, Value.int IntKind.i64 (Go.bits .and .i64 y0 63), Value.int IntKind.i64 (Go.bits .and .i64 y1 31)] 37)) wx → wx.cell? ⟨wo.heap.size + 1 + 1, 0, none⟩ = some (.int .i64 y0) ∧ wx.cell? ⟨wo.heap.size + 1 + 1, 1, none⟩ = some (.int .i64 y1) ∧ wx.cell? ⟨wo.heap.size + 1 + 1, 2, none⟩ = some (.int .i64 (Go.bits .and .i64 y0 63)) ∧ wx.cell? ⟨wo.heap.size + 1 + 1, 3, none⟩ = some (.int .i64 (Go.bits .and .i64 y1 31))) := Lib.hid (fun wx hx => ⟨cellB hx (by simp [go_sem]), cellB hx (by simp [go_sem]), cellB hx (by simp [go_sem]), cellB hx (by simp [go_sem])⟩)
        have hW3 : Bel wo (((wo.alloc (Obj.cells #[Value.int IntKind.i64 m, Value.int IntKind.i64 s] 24)).alloc (Obj.cells #[Value.int IntKind.i64 m, Value.int IntKind.i64 s] 33)).alloc (Obj.cells #[Value.int IntKind.i64 y0, Value.int IntKind.i64 y1, Value.int IntKind.i64 (Go.bits .and .i64 y0 63), Value.int IntKind.i64 (Go.bits .and .i64 y1 31)] 37)) := ((Bel.alloc _ _).trans (Bel.alloc _ _)).trans (Bel.alloc _ _)
        generalize ((wo.alloc (Obj.cells #[Value.int IntKind.i64 m, Value.int IntKind.i64 s] 24)).alloc (Obj.cells #[Value.int IntKind.i64 m, Value.int IntKind.i64 s] 33)).alloc (Obj.cells #[Value.int IntKind.i64 y0, Value.int IntKind.i64 y1, Value.int IntKind.i64 (Go.bits .and .i64 y0 63), Value.int IntKind.i64 (Go.bits .and .i64 y1 31)] 37) = W3 at F3 F4 hW3 ⊢
        go_loopw [44] (fun vz wz => ∃ (i : Int), 0 ≤ i ∧ i ≤ 2 ∧ vz = .int .i64 i ∧ Hid (Bel W3 wz)) (fun vz _ => (2 - intOf vz).toNat)
        case atStart => exact ⟨0, by omega, by omega, rfl, Lib.hid (Bel.refl _)⟩
        case round =>
          obtain ⟨wk, rfl⟩ : ∃ wk : World, wk = wr := ⟨_, rfl⟩
          obtain ⟨i, hi0, hi, rfl, HB3⟩ := hrel
          have hb3 := HB3.out
          clear HB3
          by_cases hlt3 : i < 2
          · obtain ⟨z0, z1, z2, z3⟩ := F3.out _ hb3
            obtain ⟨g0, g1, g2, g3⟩ := F4.out _ hb3
            rcases (by omega : i = 0 ∨ i = 1) with rfl | rfl
            · have a0 := fun o => cellB (Bel.alloc wk o) g0
              have a1 := fun o => cellB (Bel.alloc wk o) g1
              have vv0 : (wk.alloc (Obj.cells #[Value.int IntKind.i64 y0, Value.int IntKind.i64 y1] 37)).cell? ⟨wk.heap.size, 0, none⟩ = some (.int .i64 y0) := by simp [go_sem]
              have vv1 : (wk.alloc (Obj.cells #[Value.int IntKind.i64 y0, Value.int IntKind.i64 y1] 37)).cell? ⟨wk.heap.size, 1, none⟩ = some (.int .i64 y1) := by simp [go_sem]
              have hz_0 := hb3.trans (Bel.alloc wk (Obj.cells #[Value.int IntKind.i64 y0, Value.int IntKind.i64 y1] 37))
              have hu_0 := Bel.refl (wk.alloc (Obj.cells #[Value.int IntKind.i64 y0, Value.int IntKind.i64 y1] 37))
              have VV0 := Lib.hid vv0
              have VV1 := Lib.hid vv1
              clear vv0 vv1
              go_wp2_with fail
              refine (K2.out _ _ _ _ _).mono ?_
              rintro e wb ⟨rfl, hb_wb⟩
              have hz_wb := hz_0.trans hb_wb
              have hu_wb := hu_0.trans hb_wb
              obtain ⟨e0wb, e1wb, e2wb, e3wb⟩ := F4.out _ hz_wb
              have v0wb := cellB hu_wb VV0.out
              have v1wb := cellB hu_wb VV1.out
              go_wp2_with fail
              refine (K3.out _ _ _ _ _).mono ?_
              rintro e wc ⟨rfl, hb_wc⟩
              have hz_wc := hz_wb.trans hb_wc
              have hu_wc := hu_wb.trans hb_wc
              obtain ⟨e0wc, e1wc, e2wc, e3wc⟩ := F4.out _ hz_wc
              have v0wc := cellB hu_wc VV0.out
              have v1wc := cellB hu_wc VV1.out
              go_wp2_with fail
              refine (K4.out _ _ _ _ _).mono ?_
              rintro e wd ⟨rfl, hb_wd⟩
              have hz_wd := hz_wc.trans hb_wd
              have hu_wd := hu_wc.trans hb_wd
              obtain ⟨e0wd, e1wd, e2wd, e3wd⟩ := F4.out _ hz_wd
              have v0wd := cellB hu_wd VV0.out
              have v1wd := cellB hu_wd VV1.out
              go_wp2_with fail
              refine (K5.out _ _ _ _ _).mono ?_
              rintro e we ⟨rfl, hb_we⟩
              have hz_we := hz_wd.trans hb_we
              have hu_we := hu_wd.trans hb_we
              obtain ⟨e0we, e1we, e2we, e3we⟩ := F4.out _ hz_we
              have v0we := cellB hu_we VV0.out
              have v1we := cellB hu_we VV1.out
              go_wp2_with fail
              refine (K6.out _ _ _ _).mono ?_
              rintro e wf ⟨Awf, cwf, rfl, hlwf, hCwf, hb_wf⟩
              have HCwf := Lib.hid hCwf
              clear hCwf
              have hz_wf := hz_we.trans hb_wf
              have hu_wf := hu_we.trans hb_wf
              obtain ⟨e0wf, e1wf, e2wf, e3wf⟩ := F4.out _ hz_wf
              have v0wf := cellB hu_wf VV0.out
              have v1wf := cellB hu_wf VV1.out
              go_wp2_with fail
              refine (K7.out _ _ _ _).mono ?_
              rintro e wg ⟨Awg, cwg, rfl, hlwg, hCwg, hb_wg⟩
              have HCwg := Lib.hid hCwg
              clear hCwg
              have hz_wg := hz_wf.trans hb_wg
              have hu_wg := hu_wf.trans hb_wg
              obtain ⟨e0wg, e1wg, e2wg, e3wg⟩ := F4.out _ hz_wg
              have v0wg := cellB hu_wg VV0.out
              have v1wg := cellB hu_wg VV1.out
              go_wp2_with fail
              refine (K8.out _ _ _ _).mono ?_
              rintro e wh ⟨rfl, hb_wh⟩
              have hz_wh := hz_wg.trans hb_wh
              have hu_wh := hu_wg.trans hb_wh
              obtain ⟨e0wh, e1wh, e2wh, e3wh⟩ := F4.out _ hz_wh
              have v0wh := cellB hu_wh VV0.out
              have v1wh := cellB hu_wh VV1.out
              go_wp2_with fail
              have heq := equalB (rV m s y0) (rV_len _ _ _) wh _ _ _ _ hlwf hlwg (Kd.C_below HCwf.out (hb_wg.trans hb_wh).below) (Kd.C_below HCwg.out hb_wh.below)
              refine heq.mono ?_
              rintro e wi ⟨rfl, hb_wi⟩
              clear heq
              have hz_wi := hz_wh.trans hb_wi
              have hu_wi := hu_wh.trans hb_wi
              have v0wi := cellB hu_wi VV0.out
              have v1wi := cellB hu_wi VV1.out
              by_cases hr : rE m s y0 = 0
              · have hs := sV_zero m s y0 hr
                have hbd := rE_bd m s y0 hr
                go_wp2_with fail
                go_roundw
                case rel => exact ⟨_, by omega, by omega, rfl, Lib.hid hz_wi⟩
                case measure => decide
              · have hr1 : (rE m s y0 == 0) = false := beq_eq_false_iff_ne.mpr hr
                have hr2 : (rE m s y0 != 0) = true := bne_iff_ne.mpr hr
                have hs : sV m s y0 = 0 := if_neg hr
                go_wp2_with fail
                go_roundw
                case rel => exact ⟨_, by omega, by omega, rfl, Lib.hid hz_wi⟩
                case measure => decide
            · have a0 := fun o => cellB (Bel.alloc wk o) g0
              have a1 := fun o => cellB (Bel.alloc wk o) g1
              have vv0 : (wk.alloc (Obj.cells #[Value.int IntKind.i64 (Go.bits .and .i64 y0 63), Value.int IntKind.i64 (Go.bits .and .i64 y1 31)] 37)).cell? ⟨wk.heap.size, 0, none⟩ = some (.int .i64 (Go.bits .and .i64 y0 63)) := by simp [go_sem]
              have vv1 : (wk.alloc (Obj.cells #[Value.int IntKind.i64 (Go.bits .and .i64 y0 63), Value.int IntKind.i64 (Go.bits .and .i64 y1 31)] 37)).cell? ⟨wk.heap.size, 1, none⟩ = some (.int .i64 (Go.bits .and .i64 y1 31)) := by simp [go_sem]
              have hz_0 := hb3.trans (Bel.alloc wk (Obj.cells #[Value.int IntKind.i64 (Go.bits .and .i64 y0 63), Value.int IntKind.i64 (Go.bits .and .i64 y1 31)] 37))
              have hu_0 := Bel.refl (wk.alloc (Obj.cells #[Value.int IntKind.i64 (Go.bits .and .i64 y0 63), Value.int IntKind.i64 (Go.bits .and .i64 y1 31)] 37))
              have VV0 := Lib.hid vv0
              have VV1 := Lib.hid vv1
              clear vv0 vv1
              go_wp2_with fail
              refine (K2.out _ _ _ _ _).mono ?_
              rintro e wb ⟨rfl, hb_wb⟩
              have hz_wb := hz_0.trans hb_wb
              have hu_wb := hu_0.trans hb_wb
              obtain ⟨e0wb, e1wb, e2wb, e3wb⟩ := F4.out _ hz_wb
              have v0wb := cellB hu_wb VV0.out
              have v1wb := cellB hu_wb VV1.out
              go_wp2_with fail
              refine (K3.out _ _ _ _ _).mono ?_
              rintro e wc ⟨rfl, hb_wc⟩
              have hz_wc := hz_wb.trans hb_wc
              have hu_wc := hu_wb.trans hb_wc
              obtain ⟨e0wc, e1wc, e2wc, e3wc⟩ := F4.out _ hz_wc
              have v0wc := cellB hu_wc VV0.out
              have v1wc := cellB hu_wc VV1.out
              go_wp2_with fail
              refine (K4.out _ _ _ _ _).mono ?_
              rintro e wd ⟨rfl, hb_wd⟩
              have hz_wd := hz_wc.trans hb_wd
              have hu_wd := hu_wc.trans hb_wd
              obtain ⟨e0wd, e1wd, e2wd, e3wd⟩ := F4.out _ hz_wd
              have v0wd := cellB hu_wd VV0.out
              have v1wd := cellB hu_wd VV1.out
              go_wp2_with fail
              refine (K5.out _ _ _ _ _).mono ?_
              rintro e we ⟨rfl, hb_we⟩
              have hz_we := hz_wd.trans hb_we
              have hu_we := hu_wd.trans hb_we
              obtain ⟨e0we, e1we, e2we, e3we⟩ := F4.out _ hz_we
              have v0we := cellB hu_we VV0.out
              have v1we := cellB hu_we VV1.out
              go_wp2_with fail
              refine (K6.out _ _ _ _).mono ?_
              rintro e wf ⟨Awf, cwf, rfl, hlwf, hCwf, hb_wf⟩
              have HCwf := Lib.hid hCwf
              clear hCwf
              have hz_wf := hz_we.trans hb_wf
              have hu_wf := hu_we.trans hb_wf
              obtain ⟨e0wf, e1wf, e2wf, e3wf⟩ := F4.out _ hz_wf
              have v0wf := cellB hu_wf VV0.out
              have v1wf := cellB hu_wf VV1.out
              go_wp2_with fail
              refine (K7.out _ _ _ _).mono ?_
              rintro e wg ⟨Awg, cwg, rfl, hlwg, hCwg, hb_wg⟩
              have HCwg := Lib.hid hCwg
              clear hCwg
              have hz_wg := hz_wf.trans hb_wg
              have hu_wg := hu_wf.trans hb_wg
              obtain ⟨e0wg, e1wg, e2wg, e3wg⟩ := F4.out _ hz_wg
              have v0wg := cellB hu_wg VV0.out
              have v1wg := cellB hu_wg VV1.out
              go_wp2_with fail
              refine (K8.out _ _ _ _).mono ?_
              rintro e wh ⟨rfl, hb_wh⟩
              have hz_wh := hz_wg.trans hb_wh
              have hu_wh := hu_wg.trans hb_wh
              obtain ⟨e0wh, e1wh, e2wh, e3wh⟩ := F4.out _ hz_wh
              have v0wh := cellB hu_wh VV0.out
              have v1wh := cellB hu_wh VV1.out
              go_wp2_with fail
              have heq := equalB (rV m s (Go.bits .and .i64 y0 63)) (rV_len _ _ _) wh _ _ _ _ hlwf hlwg (Kd.C_below HCwf.out (hb_wg.trans hb_wh).below) (Kd.C_below HCwg.out hb_wh.below)
              refine heq.mono ?_
              rintro e wi ⟨rfl, hb_wi⟩
              clear heq
              have hz_wi := hz_wh.trans hb_wi
              have hu_wi := hu_wh.trans hb_wi
              have v0wi := cellB hu_wi VV0.out
              have v1wi := cellB hu_wi VV1.out
              by_cases hr : rE m s (Go.bits .and .i64 y0 63) = 0
              · have hs := sV_zero m s (Go.bits .and .i64 y0 63) hr
                have hbd := rE_bd m s (Go.bits .and .i64 y0 63) hr
                go_wp2_with fail
                go_roundw
                case rel => exact ⟨_, by omega, by omega, rfl, Lib.hid hz_wi⟩
                case measure => decide
              · have hr1 : (rE m s (Go.bits .and .i64 y0 63) == 0) = false := beq_eq_false_iff_ne.mpr hr
                have hr2 : (rE m s (Go.bits .and .i64 y0 63) != 0) = true := bne_iff_ne.mpr hr
                have hs : sV m s (Go.bits .and .i64 y0 63) = 0 := if_neg hr
                go_wp2_with fail
                go_roundw
                case rel => exact ⟨_, by omega, by omega, rfl, Lib.hid hz_wi⟩
                case measure => decide
          · have hi2 : i = 2 := by omega
            subst hi2
            go_wp2_with fail
            go_roundw
            case rel => exact ⟨_, by omega, by omega, rfl, Lib.hid ((hb.trans hW3).trans hb3)⟩
            case measure => decide
      · go_wp2_with fail
        have F4 : Hid (∀ wx, Bel (((wo.alloc (Obj.cells #[Value.int IntKind.i64 m2, Value.int IntKind.i64 s2] 24)).alloc (Obj.cells #[Value.int IntKind.i64 m2, Value.int IntKind.i64 s2] 33)).alloc (Obj.cells #[Value.int IntKind.i64 y0, Value.int IntKind.i64 y1, Value.int IntKind.i64 (Go.bits .and .i64 y0 63), Value.int IntKind.i64 (Go.bits .and .i64 y1 31)] 37)) wx → wx.cell? ⟨wo.heap.size, 0, none⟩ = some (.int .i64 m2) ∧ wx.cell? ⟨wo.heap.size, 1, none⟩ = some (.int .i64 s2) ∧ wx.cell? ⟨wo.heap.size + 1, 0, none⟩ = some (.int .i64 m2) ∧ wx.cell? ⟨wo.heap.size + 1, 1, none⟩ = some (.int .i64 s2)) := Lib.hid (fun wx hx => ⟨cellB hx (by simp [go_sem]), cellB hx (by simp [go_sem]), cellB hx (by simp [go_sem]), cellB hx (by simp [go_sem])⟩)
        have F3 : Hid (∀ wx, Bel (((wo.alloc (Obj.cells #[Value.int IntKind.i64 m2, Value.int IntKind.i64 s2] 24)).alloc (Obj.cells #[Value.int IntKind.i64 m2, Value.int IntKind.i64 s2] 33)).alloc (Obj.cells #[Value.int IntKind.i64 y0, Value.int IntKind.i64 y1, Value.int IntKind.i64 (Go.bits .and .i64 y0 63), Value.int IntKind.i64 (Go.bits .and .i64 y1 31)] 37)) wx → wx.cell? ⟨wo.heap.size + 1 + 1, 0, none⟩ = some (.int .i64 y0) ∧ wx.cell? ⟨wo.heap.size + 1 + 1, 1, none⟩ = some (.int .i64 y1) ∧ wx.cell? ⟨wo.heap.size + 1 + 1, 2, none⟩ = some (.int .i64 (Go.bits .and .i64 y0 63)) ∧ wx.cell? ⟨wo.heap.size + 1 + 1, 3, none⟩ = some (.int .i64 (Go.bits .and .i64 y1 31))) := Lib.hid (fun wx hx => ⟨cellB hx (by simp [go_sem]), cellB hx (by simp [go_sem]), cellB hx (by simp [go_sem]), cellB hx (by simp [go_sem])⟩)
        have hW3 : Bel wo (((wo.alloc (Obj.cells #[Value.int IntKind.i64 m2, Value.int IntKind.i64 s2] 24)).alloc (Obj.cells #[Value.int IntKind.i64 m2, Value.int IntKind.i64 s2] 33)).alloc (Obj.cells #[Value.int IntKind.i64 y0, Value.int IntKind.i64 y1, Value.int IntKind.i64 (Go.bits .and .i64 y0 63), Value.int IntKind.i64 (Go.bits .and .i64 y1 31)] 37)) := ((Bel.alloc _ _).trans (Bel.alloc _ _)).trans (Bel.alloc _ _)
        generalize ((wo.alloc (Obj.cells #[Value.int IntKind.i64 m2, Value.int IntKind.i64 s2] 24)).alloc (Obj.cells #[Value.int IntKind.i64 m2, Value.int IntKind.i64 s2] 33)).alloc (Obj.cells #[Value.int IntKind.i64 y0, Value.int IntKind.i64 y1, Value.int IntKind.i64 (Go.bits .and .i64 y0 63), Value.int IntKind.i64 (Go.bits .and .i64 y1 31)] 37) = W3 at F3 F4 hW3 ⊢
        go_loopw [44] (fun vz wz => ∃ (i : Int), 0 ≤ i ∧ i ≤ 2 ∧ vz = .int .i64 i ∧ Hid (Bel W3 wz)) (fun vz _ => (2 - intOf vz).toNat)
        case atStart => exact ⟨0, by omega, by omega, rfl, Lib.hid (Bel.refl _)⟩
        case round =>
          obtain ⟨wk, rfl⟩ : ∃ wk : World, wk = wr := ⟨_, rfl⟩
          obtain ⟨i, hi0, hi, rfl, HB3⟩ := hrel
          have hb3 := HB3.out
          clear HB3
          by_cases hlt3 : i < 2
          · obtain ⟨z0, z1, z2, z3⟩ := F3.out _ hb3
            obtain ⟨g0, g1, g2, g3⟩ := F4.out _ hb3
            rcases (by omega : i = 0 ∨ i = 1) with rfl | rfl
            · have a0 := fun o => cellB (Bel.alloc wk o) g0
              have a1 := fun o => cellB (Bel.alloc wk o) g1
              have vv0 : (wk.alloc (Obj.cells #[Value.int IntKind.i64 y0, Value.int IntKind.i64 y1] 37)).cell? ⟨wk.heap.size, 0, none⟩ = some (.int .i64 y0) := by simp [go_sem]
              have vv1 : (wk.alloc (Obj.cells #[Value.int IntKind.i64 y0, Value.int IntKind.i64 y1] 37)).cell? ⟨wk.heap.size, 1, none⟩ = some (.int .i64 y1) := by simp [go_sem]
              have hz_0 := hb3.trans (Bel.alloc wk (Obj.cells #[Value.int IntKind.i64 y0, Value.int IntKind.i64 y1] 37))
              have hu_0 := Bel.refl (wk.alloc (Obj.cells #[Value.int IntKind.i64 y0, Value.int IntKind.i64 y1] 37))
              have VV0 := Lib.hid vv0
              have VV1 := Lib.hid vv1
              clear vv0 vv1
              go_wp2_with fail
              refine (K2.out _ _ _ _ _).mono ?_
              rintro e wb ⟨rfl, hb_wb⟩
              have hz_wb := hz_0.trans hb_wb
              have hu_wb := hu_0.trans hb_wb
              obtain ⟨e0wb, e1wb, e2wb, e3wb⟩ := F4.out _ hz_wb
              have v0wb := cellB hu_wb VV0.out
              have v1wb := cellB hu_wb VV1.out
              go_wp2_with fail
              refine (K3.out _ _ _ _ _).mono ?_
              rintro e wc ⟨rfl, hb_wc⟩
              have hz_wc := hz_wb.trans hb_wc
              have hu_wc := hu_wb.trans hb_wc
              obtain ⟨e0wc, e1wc, e2wc, e3wc⟩ := F4.out _ hz_wc
              have v0wc := cellB hu_wc VV0.out
              have v1wc := cellB hu_wc VV1.out
              go_wp2_with fail
              refine (K4.out _ _ _ _ _).mono ?_
              rintro e wd ⟨rfl, hb_wd⟩
              have hz_wd := hz_wc.trans hb_wd
              have hu_wd := hu_wc.trans hb_wd
              obtain ⟨e0wd, e1wd, e2wd, e3wd⟩ := F4.out _ hz_wd
              have v0wd := cellB hu_wd VV0.out
              have v1wd := cellB hu_wd VV1.out
              go_wp2_with fail
              refine (K5.out _ _ _ _ _).mono ?_
              rintro e we ⟨rfl, hb_we⟩
              have hz_we := hz_wd.trans hb_we
              have hu_we := hu_wd.trans hb_we
              obtain ⟨e0we, e1we, e2we, e3we⟩ := F4.out _ hz_we
              have v0we := cellB hu_we VV0.out
              have v1we := cellB hu_we VV1.out
              go_wp2_with fail
              refine (K6.out _ _ _ _).mono ?_
              rintro e wf ⟨Awf, cwf, rfl, hlwf, hCwf, hb_wf⟩
              have HCwf := Lib.hid hCwf
              clear hCwf
              have hz_wf := hz_we.trans hb_wf
              have hu_wf := hu_we.trans hb_wf
              obtain ⟨e0wf, e1wf, e2wf, e3wf⟩ := F4.out _ hz_wf
              have v0wf := cellB hu_wf VV0.out
              have v1wf := cellB hu_wf VV1.out
              go_wp2_with fail
              refine (K7.out _ _ _ _).mono ?_
              rintro e wg ⟨Awg, cwg, rfl, hlwg, hCwg, hb_wg⟩
              have HCwg := Lib.hid hCwg
              clear hCwg
              have hz_wg := hz_wf.trans hb_wg
              have hu_wg := hu_wf.trans hb_wg
              obtain ⟨e0wg, e1wg, e2wg, e3wg⟩ := F4.out _ hz_wg
              have v0wg := cellB hu_wg VV0.out
              have v1wg := cellB hu_wg VV1.out
              go_wp2_with fail
              refine (K8.out _ _ _ _).mono ?_
              rintro e wh ⟨rfl, hb_wh⟩
              have hz_wh := hz_wg.trans hb_wh
              have hu_wh := hu_wg.trans hb_wh
              obtain ⟨e0wh, e1wh, e2wh, e3wh⟩ := F4.out _ hz_wh
              have v0wh := cellB hu_wh VV0.out
              have v1wh := cellB hu_wh VV1.out
              go_wp2_with fail
              have heq := equalB (rV m2 s2 y0) (rV_len _ _ _) wh _ _ _ _ hlwf hlwg (Kd.C_below HCwf.out (hb_wg.trans hb_wh).below) (Kd.C_below HCwg.out hb_wh.below)
              refine heq.mono ?_
              rintro e wi ⟨rfl, hb_wi⟩
              clear heq
              have hz_wi := hz_wh.trans hb_wi
              have hu_wi := hu_wh.trans hb_wi
              have v0wi := cellB hu_wi VV0.out
              have v1wi := cellB hu_wi VV1.out
              by_cases hr : rE m2 s2 y0 = 0
              · have hs := sV_zero m2 s2 y0 hr
                have hbd := rE_bd m2 s2 y0 hr
                go_wp2_with fail
                go_roundw
                case rel => exact ⟨_, by omega, by omega, rfl, Lib.hid hz_wi⟩
                case measure => decide
              · have hr1 : (rE m2 s2 y0 == 0) = false := beq_eq_false_iff_ne.mpr hr
                have hr2 : (rE m2 s2 y0 != 0) = true := bne_iff_ne.mpr hr
                have hs : sV m2 s2 y0 = 0 := if_neg hr
                go_wp2_with fail
                go_roundw
                case rel => exact ⟨_, by omega, by omega, rfl, Lib.hid hz_wi⟩
                case measure => decide
            · have a0 := fun o => cellB (Bel.alloc wk o) g0
              have a1 := fun o => cellB (Bel.alloc wk o) g1
              have vv0 : (wk.alloc (Obj.cells #[Value.int IntKind.i64 (Go.bits .and .i64 y0 63), Value.int IntKind.i64 (Go.bits .and .i64 y1 31)] 37)).cell? ⟨wk.heap.size, 0, none⟩ = some (.int .i64 (Go.bits .and .i64 y0 63)) := by simp [go_sem]
              have vv1 : (wk.alloc (Obj.cells #[Value.int IntKind.i64 (Go.bits .and .i64 y0 63), Value.int IntKind.i64 (Go.bits .and .i64 y1 31)] 37)).cell? ⟨wk.heap.size, 1, none⟩ = some (.int .i64 (Go.bits .and .i64 y1 31)) := by simp [go_sem]
              have hz_0 := hb3.trans (Bel.alloc wk (Obj.cells #[Value.int IntKind.i64 (Go.bits .and .i64 y0 63), Value.int IntKind.i64 (Go.bits .and .i64 y1 31)] 37))
              have hu_0 := Bel.refl (wk.alloc (Obj.cells #[Value.int IntKind.i64 (Go.bits .and .i64 y0 63), Value.int IntKind.i64 (Go.bits .and .i64 y1 31)] 37))
              have VV0 := Lib.hid vv0
              have VV1 := Lib.hid vv1
              clear vv0 vv1
              go_wp2_with fail
              refine (K2.out _ _ _ _ _).mono ?_
              rintro e wb ⟨rfl, hb_wb⟩
              have hz_wb := hz_0.trans hb_wb
              have hu_wb := hu_0.trans hb_wb
              obtain ⟨e0wb, e1wb, e2wb, e3wb⟩ := F4.out _ hz_wb
              have v0wb := cellB hu_wb VV0.out
              have v1wb := cellB hu_wb VV1.out
              go_wp2_with fail
              refine (K3.out _ _ _ _ _).mono ?_
              rintro e wc ⟨rfl, hb_wc⟩
              have hz_wc := hz_wb.trans hb_wc
              have hu_wc := hu_wb.trans hb_wc
              obtain ⟨e0wc, e1wc, e2wc, e3wc⟩ := F4.out _ hz_wc
              have v0wc := cellB hu_wc VV0.out
              have v1wc := cellB hu_wc VV1.out
              go_wp2_with fail
              refine (K4.out _ _ _ _ _).mono ?_
              rintro e wd ⟨rfl, hb_wd⟩
              have hz_wd := hz_wc.trans hb_wd
              have hu_wd := hu_wc.trans hb_wd
              obtain ⟨e0wd, e1wd, e2wd, e3wd⟩ := F4.out _ hz_wd
              have v0wd := cellB hu_wd VV0.out
              have v1wd := cellB hu_wd VV1.out
              go_wp2_with fail
              refine (K5.out _ _ _ _ _).mono ?_
              rintro e we ⟨rfl, hb_we⟩
              have hz_we := hz_wd.trans hb_we
              have hu_we := hu_wd.trans hb_we
              obtain ⟨e0we, e1we, e2we, e3we⟩ := F4.out _ hz_we
              have v0we := cellB hu_we VV0.out
              have v1we := cellB hu_we VV1.out
              go_wp2_with fail
              refine (K6.out _ _ _ _).mono ?_
              rintro e wf ⟨Awf, cwf, rfl, hlwf, hCwf, hb_wf⟩
              have HCwf := Lib.hid hCwf
              clear hCwf
              have hz_wf := hz_we.trans hb_wf
              have hu_wf := hu_we.trans hb_wf
              obtain ⟨e0wf, e1wf, e2wf, e3wf⟩ := F4.out _ hz_wf
              have v0wf := cellB hu_wf VV0.out
              have v1wf := cellB hu_wf VV1.out
              go_wp2_with fail
              refine (K7.out _ _ _ _).mono ?_
              rintro e wg ⟨Awg, cwg, rfl, hlwg, hCwg, hb_wg⟩
              have HCwg := Lib.hid hCwg
              clear hCwg
              have hz_wg := hz_wf.trans hb_wg
              have hu_wg := hu_wf.trans hb_wg
              obtain ⟨e0wg, e1wg, e2wg, e3wg⟩ := F4.out _ hz_wg
              have v0wg := cellB hu_wg VV0.out
              have v1wg := cellB hu_wg VV1.out
              go_wp2_with fail
              refine (K8.out _ _ _ _).mono ?_
              rintro e wh ⟨rfl, hb_wh⟩
              have hz_wh := hz_wg.trans hb_wh
              have hu_wh := hu_wg.trans hb_wh
              obtain ⟨e0wh, e1wh, e2wh, e3wh⟩ := F4.out _ hz_wh
              have v0wh := cellB hu_wh VV0.out
              have v1wh := cellB hu_wh VV1.out
              go_wp2_with fail
              have heq := equalB (rV m2 s2 (Go.bits .and .i64 y0 63)) (rV_len _ _ _) wh _ _ _ _ hlwf hlwg (Kd.C_below HCwf.out (hb_wg.trans hb_wh).below) (Kd.C_below HCwg.out hb_wh.below)
              refine heq.mono ?_
              rintro e wi ⟨rfl, hb_wi⟩
              clear heq
              have hz_wi := hz_wh.trans hb_wi
              have hu_wi := hu_wh.trans hb_wi
              have v0wi := cellB hu_wi VV0.out
              have v1wi := cellB hu_wi VV1.out
              by_cases hr : rE m2 s2 (Go.bits .and .i64 y0 63) = 0
              · have hs := sV_zero m2 s2 (Go.bits .and .i64 y0 63) hr
                have hbd := rE_bd m2 s2 (Go.bits .and .i64 y0 63) hr
                go_wp2_with fail
                go_roundw
                case rel => exact ⟨_, by omega, by omega, rfl, Lib.hid hz_wi⟩
                case measure => decide
              · have hr1 : (rE m2 s2 (Go.bits .and .i64 y0 63) == 0) = false := beq_eq_false_iff_ne.mpr hr
                have hr2 : (rE m2 s2 (Go.bits .and .i64 y0 63) != 0) = true := bne_iff_ne.mpr hr
                have hs : sV m2 s2 (Go.bits .and .i64 y0 63) = 0 := if_neg hr
                go_wp2_with fail
                go_roundw
                case rel => exact ⟨_, by omega, by omega, rfl, Lib.hid hz_wi⟩
                case measure => decide
          · have hi2 : i = 2 := by omega
            subst hi2
            go_wp2_with fail
            go_roundw
            case rel => exact ⟨_, by omega, by omega, rfl, Lib.hid ((hb.trans hW3).trans hb3)⟩
            case measure => decide
    · have hk2 : k = 2 := by omega
      subst hk2
      go_wp2_with fail
      refine (wakesB _).mono ?_
      rintro e wz ⟨rfl, hbz⟩
      go_wp2_with fail
      go_ret
      exact ⟨rfl, (hWW.trans HB.out).trans hbz⟩
theorem rows_law (m s : Int) (y0 y1 : Int) (hm : IntKind.has .i64 m) (hs : IntKind.has .i64 s) (h0 : IntKind.has .i64 y0) (h1 : IntKind.has .i64 y1) (w : World) : Calls Try.prog 5 #[.agg #[.int .i64 m, .int .i64 s], .agg #[.int .i64 y0, .int .i64 y1]] w fun e w' => e = .returned (.bool true) ∧ Below w.heap.size w w' := rows_calls m s y0 y1 w
end Go.Proofs.Ytgjalgmnkadbaaa
