/- GeomTouched, the walk. -/
import Derived.Test.YtgjalgmnkadbaaaTouchedVals
import Derived.Test.YtgjalgmnkadbaaaWakes
import Derived.OpenShut
import Derived.Deep.RegionHeld3
set_option linter.unusedVariables false
set_option linter.unusedSimpArgs false
namespace Go.Proofs.Ytgjalgmnkadbaaa
open Go.RowKit Go.Proofs.YtgjalgmnkadbaaaW.PrintWords Go.Proofs.YtgjalgmnkadbaaaW.PrintMore
def gMt (m : Int) : Int := 4 + (mx 0 m) % 29
def gSt (s : Int) : Int := 1 + (mx 0 s) % 64
theorem goodGBt (m s : Int) (w : World) : Calls Try.prog 9 #[.agg #[.int .i64 m, .int .i64 s]] w fun e w' => e = .returned (.agg #[.int .i64 (gMt m), .int .i64 (gSt s)]) ∧ Bel w w' :=
  PGeomTouched.trunnionlaw09_good.calls m s _ _ w rfl
set_option maxHeartbeats 8000000 in
set_option maxRecDepth 100000 in
theorem touched_calls (m s y0 y1 : Int) (w : World) : Calls Try.prog 7 #[.agg #[.int .i64 m, .int .i64 s], .int .i64 y0, .int .i64 y1] w fun e w' => e = .returned (.bool true) ∧ Bel w w' := by
  have K1 := Lib.hid (goodGBt m s)
  have K2 := Lib.hid touchedB
  have K3 := Lib.hid rtouchedB
  go_enter Try.func7, Try.ntmps7
  go_wp2_with fail
  have fx : ∀ wx, Bel (w.alloc (Obj.cells #[Value.int IntKind.i64 m, Value.int IntKind.i64 s] 23)) wx → wx.cell? ⟨w.heap.size, 0, none⟩ = some (.int .i64 m) ∧ wx.cell? ⟨w.heap.size, 1, none⟩ = some (.int .i64 s) := fun wx hx => ⟨cellB hx (by simp [go_sem]), cellB hx (by simp [go_sem])⟩
  have hW : Bel w (w.alloc (Obj.cells #[Value.int IntKind.i64 m, Value.int IntKind.i64 s] 23)) := Bel.alloc _ _
  generalize w.alloc (Obj.cells #[Value.int IntKind.i64 m, Value.int IntKind.i64 s] 23) = W0 at fx hW ⊢
  have fx0 := fun wx hx => (fx wx hx).1
  have fx1 := fun wx hx => (fx wx hx).2
  have Fx := Lib.hid fx
  clear fx
  go_region_held3 (fun w' => Bel W0 w') (first | assumption | exact Bel.drew _ | exact Bel.trans (by assumption) (Bel.drew _) | exact Bel.trans (by assumption) (by assumption) | exact Bel.trans (by assumption) (Bel.alloc _ _)) ((first | (go_at_call 9; refine (K1.out _).mono ?_; rintro e wa ⟨rfl, hba⟩)))
  clear fx0 fx1
  have hW1 : Bel W0 (wa.alloc (Obj.cells #[Value.int IntKind.i64 m, Value.int IntKind.i64 s, Value.int IntKind.i64 (gMt m), Value.int IntKind.i64 (gSt s)] 24)) := by assumption
  go_wp2_with fail
  have fs : ∀ wx, Bel (wa.alloc (Obj.cells #[Value.int IntKind.i64 m, Value.int IntKind.i64 s, Value.int IntKind.i64 (gMt m), Value.int IntKind.i64 (gSt s)] 24)) wx → wx.cell? ⟨wa.heap.size, 0, none⟩ = some (.int .i64 m) ∧ wx.cell? ⟨wa.heap.size, 1, none⟩ = some (.int .i64 s) ∧ wx.cell? ⟨wa.heap.size, 2, none⟩ = some (.int .i64 (gMt m)) ∧ wx.cell? ⟨wa.heap.size, 3, none⟩ = some (.int .i64 (gSt s)) := fun wx hx => ⟨cellB hx (by simp [go_sem]), cellB hx (by simp [go_sem]), cellB hx (by simp [go_sem]), cellB hx (by simp [go_sem])⟩
  have Fs := Lib.hid fs
  clear fs
  generalize wa.alloc (Obj.cells #[Value.int IntKind.i64 m, Value.int IntKind.i64 s, Value.int IntKind.i64 (gMt m), Value.int IntKind.i64 (gSt s)] 24) = W1 at Fs hW1 ⊢
  have hWW : Bel w W1 := hW.trans hW1
  clear Fx hW1 hW hba
  go_loopw [21] (fun v29 wr => ∃ (k : Int), 0 ≤ k ∧ k ≤ 2 ∧ v29 = .int .i64 k ∧ Hid (Bel W1 wr)) (fun v29 _ => (2 - intOf v29).toNat)
  case atStart => exact ⟨0, by omega, by omega, rfl, Lib.hid (Bel.refl _)⟩
  case round =>
    obtain ⟨wo, rfl⟩ : ∃ wo : World, wo = wr := ⟨_, rfl⟩
    obtain ⟨k, hk0, hk, rfl, HB⟩ := hrel
    by_cases hlt : k < 2
    · have hb := HB.out
      clear HB
      obtain ⟨d0, d1, d2, d3⟩ := Fs.out wo hb
      generalize gMt m = m2 at *
      generalize gSt s = s2 at *
      rcases (by omega : k = 0 ∨ k = 1) with rfl | rfl
      · go_wp2_with fail
        have F4 : Hid (∀ wx, Bel (((wo.alloc (Obj.cells #[Value.int IntKind.i64 m, Value.int IntKind.i64 s] 24)).alloc (Obj.cells #[Value.int IntKind.i64 m, Value.int IntKind.i64 s] 33)).alloc (Obj.cells #[Value.int IntKind.i64 y0, Value.int IntKind.i64 y1, Value.int IntKind.i64 (Go.bits .and .i64 y0 255), Value.int IntKind.i64 (Go.bits .and .i64 y1 127)] 37)) wx → wx.cell? ⟨wo.heap.size, 0, none⟩ = some (.int .i64 m) ∧ wx.cell? ⟨wo.heap.size, 1, none⟩ = some (.int .i64 s) ∧ wx.cell? ⟨wo.heap.size + 1, 0, none⟩ = some (.int .i64 m) ∧ wx.cell? ⟨wo.heap.size + 1, 1, none⟩ = some (.int .i64 s)) := Lib.hid (fun wx hx => ⟨cellB hx (by simp [go_sem]), cellB hx (by simp [go_sem]), cellB hx (by simp [go_sem]), cellB hx (by simp [go_sem])⟩)
        have F3 : Hid (∀ wx, Bel (((wo.alloc (Obj.cells #[Value.int IntKind.i64 m, Value.int IntKind.i64 s] 24)).alloc (Obj.cells #[Value.int IntKind.i64 m, Value.int IntKind.i64 s] 33)).alloc (Obj.cells #[Value.int IntKind.i64 y0, Value.int IntKind.i64 y1, Value.int IntKind.i64 (Go.bits .and .i64 y0 255), Value.int IntKind.i64 (Go.bits .and .i64 y1 127)] 37)) wx → wx.cell? ⟨wo.heap.size + 1 + 1, 0, none⟩ = some (.int .i64 y0) ∧ wx.cell? ⟨wo.heap.size + 1 + 1, 1, none⟩ = some (.int .i64 y1) ∧ wx.cell? ⟨wo.heap.size + 1 + 1, 2, none⟩ = some (.int .i64 (Go.bits .and .i64 y0 255)) ∧ wx.cell? ⟨wo.heap.size + 1 + 1, 3, none⟩ = some (.int .i64 (Go.bits .and .i64 y1 127))) := Lib.hid (fun wx hx => ⟨cellB hx (by simp [go_sem]), cellB hx (by simp [go_sem]), cellB hx (by simp [go_sem]), cellB hx (by simp [go_sem])⟩)
        have hW3 : Bel wo (((wo.alloc (Obj.cells #[Value.int IntKind.i64 m, Value.int IntKind.i64 s] 24)).alloc (Obj.cells #[Value.int IntKind.i64 m, Value.int IntKind.i64 s] 33)).alloc (Obj.cells #[Value.int IntKind.i64 y0, Value.int IntKind.i64 y1, Value.int IntKind.i64 (Go.bits .and .i64 y0 255), Value.int IntKind.i64 (Go.bits .and .i64 y1 127)] 37)) := ((Bel.alloc _ _).trans (Bel.alloc _ _)).trans (Bel.alloc _ _)
        generalize ((wo.alloc (Obj.cells #[Value.int IntKind.i64 m, Value.int IntKind.i64 s] 24)).alloc (Obj.cells #[Value.int IntKind.i64 m, Value.int IntKind.i64 s] 33)).alloc (Obj.cells #[Value.int IntKind.i64 y0, Value.int IntKind.i64 y1, Value.int IntKind.i64 (Go.bits .and .i64 y0 255), Value.int IntKind.i64 (Go.bits .and .i64 y1 127)] 37) = W3 at F3 F4 hW3 ⊢
        go_loopw [36] (fun vz wz => ∃ (i : Int), 0 ≤ i ∧ i ≤ 2 ∧ vz = .int .i64 i ∧ Hid (Bel W3 wz)) (fun vz _ => (2 - intOf vz).toNat)
        case atStart => exact ⟨0, by omega, by omega, rfl, Lib.hid (Bel.refl _)⟩
        case round =>
          obtain ⟨wk, rfl⟩ : ∃ wk : World, wk = wr := ⟨_, rfl⟩
          obtain ⟨i, hi0, hi, rfl, HB3⟩ := hrel
          have hb3 := HB3.out
          clear HB3
          by_cases hlt3 : i < 2
          · obtain ⟨z0, z1, z2, z3⟩ := F3.out _ hb3
            obtain ⟨g0, g1, g2, g3⟩ := F4.out _ hb3
            rcases (by omega : i = 0 ∨ i = 1) with rfl | rfl
            · have a0 := fun o => cellB (Bel.alloc wk o) g0
              have a1 := fun o => cellB (Bel.alloc wk o) g1
              have vv0 : (wk.alloc (Obj.cells #[Value.int IntKind.i64 y0, Value.int IntKind.i64 y1] 37)).cell? ⟨wk.heap.size, 0, none⟩ = some (.int .i64 y0) := by simp [go_sem]
              have vv1 : (wk.alloc (Obj.cells #[Value.int IntKind.i64 y0, Value.int IntKind.i64 y1] 37)).cell? ⟨wk.heap.size, 1, none⟩ = some (.int .i64 y1) := by simp [go_sem]
              have hz_0 := hb3.trans (Bel.alloc wk (Obj.cells #[Value.int IntKind.i64 y0, Value.int IntKind.i64 y1] 37))
              have hu_0 := Bel.refl (wk.alloc (Obj.cells #[Value.int IntKind.i64 y0, Value.int IntKind.i64 y1] 37))
              have VV0 := Lib.hid vv0
              have VV1 := Lib.hid vv1
              clear vv0 vv1
              go_wp2_with fail
              refine (K2.out _ _ _ _ _).mono ?_
              rintro e wb ⟨Awb, cwb, rfl, hlwb, hCwb, hb_wb⟩
              have HCwb := Lib.hid hCwb
              clear hCwb
              have hz_wb := hz_0.trans hb_wb
              have hu_wb := hu_0.trans hb_wb
              obtain ⟨e0wb, e1wb, e2wb, e3wb⟩ := F4.out _ hz_wb
              have v0wb := cellB hu_wb VV0.out
              have v1wb := cellB hu_wb VV1.out
              go_wp2_with fail
              refine (K3.out _ _ _ _ _).mono ?_
              rintro e wc ⟨Awc, cwc, rfl, hlwc, hCwc, hb_wc⟩
              have HCwc := Lib.hid hCwc
              clear hCwc
              have hz_wc := hz_wb.trans hb_wc
              have hu_wc := hu_wb.trans hb_wc
              obtain ⟨e0wc, e1wc, e2wc, e3wc⟩ := F4.out _ hz_wc
              have v0wc := cellB hu_wc VV0.out
              have v1wc := cellB hu_wc VV1.out
              go_wp2_with fail
              have heq := equalB (tV m s y0 y1) (tV_len _ _ _ _) wc _ _ _ _ hlwb hlwc (Kd.C_below HCwb.out hb_wc.below) HCwc.out
              refine heq.mono ?_
              rintro e wi ⟨rfl, hb_wi⟩
              clear heq
              have hz_wi := hz_wc.trans hb_wi
              have hu_wi := hu_wc.trans hb_wi
              have v0wi := cellB hu_wi VV0.out
              have v1wi := cellB hu_wi VV1.out
              go_wp2_with fail
              go_roundw
              case rel => exact ⟨_, by omega, by omega, rfl, Lib.hid hz_wi⟩
              case measure => decide
            · have a0 := fun o => cellB (Bel.alloc wk o) g0
              have a1 := fun o => cellB (Bel.alloc wk o) g1
              have vv0 : (wk.alloc (Obj.cells #[Value.int IntKind.i64 (Go.bits .and .i64 y0 255), Value.int IntKind.i64 (Go.bits .and .i64 y1 127)] 37)).cell? ⟨wk.heap.size, 0, none⟩ = some (.int .i64 (Go.bits .and .i64 y0 255)) := by simp [go_sem]
              have vv1 : (wk.alloc (Obj.cells #[Value.int IntKind.i64 (Go.bits .and .i64 y0 255), Value.int IntKind.i64 (Go.bits .and .i64 y1 127)] 37)).cell? ⟨wk.heap.size, 1, none⟩ = some (.int .i64 (Go.bits .and .i64 y1 127)) := by simp [go_sem]
              have hz_0 := hb3.trans (Bel.alloc wk (Obj.cells #[Value.int IntKind.i64 (Go.bits .and .i64 y0 255), Value.int IntKind.i64 (Go.bits .and .i64 y1 127)] 37))
              have hu_0 := Bel.refl (wk.alloc (Obj.cells #[Value.int IntKind.i64 (Go.bits .and .i64 y0 255), Value.int IntKind.i64 (Go.bits .and .i64 y1 127)] 37))
              have VV0 := Lib.hid vv0
              have VV1 := Lib.hid vv1
              clear vv0 vv1
              go_wp2_with fail
              refine (K2.out _ _ _ _ _).mono ?_
              rintro e wb ⟨Awb, cwb, rfl, hlwb, hCwb, hb_wb⟩
              have HCwb := Lib.hid hCwb
              clear hCwb
              have hz_wb := hz_0.trans hb_wb
              have hu_wb := hu_0.trans hb_wb
              obtain ⟨e0wb, e1wb, e2wb, e3wb⟩ := F4.out _ hz_wb
              have v0wb := cellB hu_wb VV0.out
              have v1wb := cellB hu_wb VV1.out
              go_wp2_with fail
              refine (K3.out _ _ _ _ _).mono ?_
              rintro e wc ⟨Awc, cwc, rfl, hlwc, hCwc, hb_wc⟩
              have HCwc := Lib.hid hCwc
              clear hCwc
              have hz_wc := hz_wb.trans hb_wc
              have hu_wc := hu_wb.trans hb_wc
              obtain ⟨e0wc, e1wc, e2wc, e3wc⟩ := F4.out _ hz_wc
              have v0wc := cellB hu_wc VV0.out
              have v1wc := cellB hu_wc VV1.out
              go_wp2_with fail
              have heq := equalB (tV m s (Go.bits .and .i64 y0 255) (Go.bits .and .i64 y1 127)) (tV_len _ _ _ _) wc _ _ _ _ hlwb hlwc (Kd.C_below HCwb.out hb_wc.below) HCwc.out
              refine heq.mono ?_
              rintro e wi ⟨rfl, hb_wi⟩
              clear heq
              have hz_wi := hz_wc.trans hb_wi
              have hu_wi := hu_wc.trans hb_wi
              have v0wi := cellB hu_wi VV0.out
              have v1wi := cellB hu_wi VV1.out
              go_wp2_with fail
              go_roundw
              case rel => exact ⟨_, by omega, by omega, rfl, Lib.hid hz_wi⟩
              case measure => decide
          · have hi2 : i = 2 := by omega
            subst hi2
            go_wp2_with fail
            go_roundw
            case rel => exact ⟨_, by omega, by omega, rfl, Lib.hid ((hb.trans hW3).trans hb3)⟩
            case measure => decide
      · go_wp2_with fail
        have F4 : Hid (∀ wx, Bel (((wo.alloc (Obj.cells #[Value.int IntKind.i64 m2, Value.int IntKind.i64 s2] 24)).alloc (Obj.cells #[Value.int IntKind.i64 m2, Value.int IntKind.i64 s2] 33)).alloc (Obj.cells #[Value.int IntKind.i64 y0, Value.int IntKind.i64 y1, Value.int IntKind.i64 (Go.bits .and .i64 y0 255), Value.int IntKind.i64 (Go.bits .and .i64 y1 127)] 37)) wx → wx.cell? ⟨wo.heap.size, 0, none⟩ = some (.int .i64 m2) ∧ wx.cell? ⟨wo.heap.size, 1, none⟩ = some (.int .i64 s2) ∧ wx.cell? ⟨wo.heap.size + 1, 0, none⟩ = some (.int .i64 m2) ∧ wx.cell? ⟨wo.heap.size + 1, 1, none⟩ = some (.int .i64 s2)) := Lib.hid (fun wx hx => ⟨cellB hx (by simp [go_sem]), cellB hx (by simp [go_sem]), cellB hx (by simp [go_sem]), cellB hx (by simp [go_sem])⟩)
        have F3 : Hid (∀ wx, Bel (((wo.alloc (Obj.cells #[Value.int IntKind.i64 m2, Value.int IntKind.i64 s2] 24)).alloc (Obj.cells #[Value.int IntKind.i64 m2, Value.int IntKind.i64 s2] 33)).alloc (Obj.cells #[Value.int IntKind.i64 y0, Value.int IntKind.i64 y1, Value.int IntKind.i64 (Go.bits .and .i64 y0 255), Value.int IntKind.i64 (Go.bits .and .i64 y1 127)] 37)) wx → wx.cell? ⟨wo.heap.size + 1 + 1, 0, none⟩ = some (.int .i64 y0) ∧ wx.cell? ⟨wo.heap.size + 1 + 1, 1, none⟩ = some (.int .i64 y1) ∧ wx.cell? ⟨wo.heap.size + 1 + 1, 2, none⟩ = some (.int .i64 (Go.bits .and .i64 y0 255)) ∧ wx.cell? ⟨wo.heap.size + 1 + 1, 3, none⟩ = some (.int .i64 (Go.bits .and .i64 y1 127))) := Lib.hid (fun wx hx => ⟨cellB hx (by simp [go_sem]), cellB hx (by simp [go_sem]), cellB hx (by simp [go_sem]), cellB hx (by simp [go_sem])⟩)
        have hW3 : Bel wo (((wo.alloc (Obj.cells #[Value.int IntKind.i64 m2, Value.int IntKind.i64 s2] 24)).alloc (Obj.cells #[Value.int IntKind.i64 m2, Value.int IntKind.i64 s2] 33)).alloc (Obj.cells #[Value.int IntKind.i64 y0, Value.int IntKind.i64 y1, Value.int IntKind.i64 (Go.bits .and .i64 y0 255), Value.int IntKind.i64 (Go.bits .and .i64 y1 127)] 37)) := ((Bel.alloc _ _).trans (Bel.alloc _ _)).trans (Bel.alloc _ _)
        generalize ((wo.alloc (Obj.cells #[Value.int IntKind.i64 m2, Value.int IntKind.i64 s2] 24)).alloc (Obj.cells #[Value.int IntKind.i64 m2, Value.int IntKind.i64 s2] 33)).alloc (Obj.cells #[Value.int IntKind.i64 y0, Value.int IntKind.i64 y1, Value.int IntKind.i64 (Go.bits .and .i64 y0 255), Value.int IntKind.i64 (Go.bits .and .i64 y1 127)] 37) = W3 at F3 F4 hW3 ⊢
        go_loopw [36] (fun vz wz => ∃ (i : Int), 0 ≤ i ∧ i ≤ 2 ∧ vz = .int .i64 i ∧ Hid (Bel W3 wz)) (fun vz _ => (2 - intOf vz).toNat)
        case atStart => exact ⟨0, by omega, by omega, rfl, Lib.hid (Bel.refl _)⟩
        case round =>
          obtain ⟨wk, rfl⟩ : ∃ wk : World, wk = wr := ⟨_, rfl⟩
          obtain ⟨i, hi0, hi, rfl, HB3⟩ := hrel
          have hb3 := HB3.out
          clear HB3
          by_cases hlt3 : i < 2
          · obtain ⟨z0, z1, z2, z3⟩ := F3.out _ hb3
            obtain ⟨g0, g1, g2, g3⟩ := F4.out _ hb3
            rcases (by omega : i = 0 ∨ i = 1) with rfl | rfl
            · have a0 := fun o => cellB (Bel.alloc wk o) g0
              have a1 := fun o => cellB (Bel.alloc wk o) g1
              have vv0 : (wk.alloc (Obj.cells #[Value.int IntKind.i64 y0, Value.int IntKind.i64 y1] 37)).cell? ⟨wk.heap.size, 0, none⟩ = some (.int .i64 y0) := by simp [go_sem]
              have vv1 : (wk.alloc (Obj.cells #[Value.int IntKind.i64 y0, Value.int IntKind.i64 y1] 37)).cell? ⟨wk.heap.size, 1, none⟩ = some (.int .i64 y1) := by simp [go_sem]
              have hz_0 := hb3.trans (Bel.alloc wk (Obj.cells #[Value.int IntKind.i64 y0, Value.int IntKind.i64 y1] 37))
              have hu_0 := Bel.refl (wk.alloc (Obj.cells #[Value.int IntKind.i64 y0, Value.int IntKind.i64 y1] 37))
              have VV0 := Lib.hid vv0
              have VV1 := Lib.hid vv1
              clear vv0 vv1
              go_wp2_with fail
              refine (K2.out _ _ _ _ _).mono ?_
              rintro e wb ⟨Awb, cwb, rfl, hlwb, hCwb, hb_wb⟩
              have HCwb := Lib.hid hCwb
              clear hCwb
              have hz_wb := hz_0.trans hb_wb
              have hu_wb := hu_0.trans hb_wb
              obtain ⟨e0wb, e1wb, e2wb, e3wb⟩ := F4.out _ hz_wb
              have v0wb := cellB hu_wb VV0.out
              have v1wb := cellB hu_wb VV1.out
              go_wp2_with fail
              refine (K3.out _ _ _ _ _).mono ?_
              rintro e wc ⟨Awc, cwc, rfl, hlwc, hCwc, hb_wc⟩
              have HCwc := Lib.hid hCwc
              clear hCwc
              have hz_wc := hz_wb.trans hb_wc
              have hu_wc := hu_wb.trans hb_wc
              obtain ⟨e0wc, e1wc, e2wc, e3wc⟩ := F4.out _ hz_wc
              have v0wc := cellB hu_wc VV0.out
              have v1wc := cellB hu_wc VV1.out
              go_wp2_with fail
              have heq := equalB (tV m2 s2 y0 y1) (tV_len _ _ _ _) wc _ _ _ _ hlwb hlwc (Kd.C_below HCwb.out hb_wc.below) HCwc.out
              refine heq.mono ?_
              rintro e wi ⟨rfl, hb_wi⟩
              clear heq
              have hz_wi := hz_wc.trans hb_wi
              have hu_wi := hu_wc.trans hb_wi
              have v0wi := cellB hu_wi VV0.out
              have v1wi := cellB hu_wi VV1.out
              go_wp2_with fail
              go_roundw
              case rel => exact ⟨_, by omega, by omega, rfl, Lib.hid hz_wi⟩
              case measure => decide
            · have a0 := fun o => cellB (Bel.alloc wk o) g0
              have a1 := fun o => cellB (Bel.alloc wk o) g1
              have vv0 : (wk.alloc (Obj.cells #[Value.int IntKind.i64 (Go.bits .and .i64 y0 255), Value.int IntKind.i64 (Go.bits .and .i64 y1 127)] 37)).cell? ⟨wk.heap.size, 0, none⟩ = some (.int .i64 (Go.bits .and .i64 y0 255)) := by simp [go_sem]
              have vv1 : (wk.alloc (Obj.cells #[Value.int IntKind.i64 (Go.bits .and .i64 y0 255), Value.int IntKind.i64 (Go.bits .and .i64 y1 127)] 37)).cell? ⟨wk.heap.size, 1, none⟩ = some (.int .i64 (Go.bits .and .i64 y1 127)) := by simp [go_sem]
              have hz_0 := hb3.trans (Bel.alloc wk (Obj.cells #[Value.int IntKind.i64 (Go.bits .and .i64 y0 255), Value.int IntKind.i64 (Go.bits .and .i64 y1 127)] 37))
              have hu_0 := Bel.refl (wk.alloc (Obj.cells #[Value.int IntKind.i64 (Go.bits .and .i64 y0 255), Value.int IntKind.i64 (Go.bits .and .i64 y1 127)] 37))
              have VV0 := Lib.hid vv0
              have VV1 := Lib.hid vv1
              clear vv0 vv1
              go_wp2_with fail
              refine (K2.out _ _ _ _ _).mono ?_
              rintro e wb ⟨Awb, cwb, rfl, hlwb, hCwb, hb_wb⟩
              have HCwb := Lib.hid hCwb
              clear hCwb
              have hz_wb := hz_0.trans hb_wb
              have hu_wb := hu_0.trans hb_wb
              obtain ⟨e0wb, e1wb, e2wb, e3wb⟩ := F4.out _ hz_wb
              have v0wb := cellB hu_wb VV0.out
              have v1wb := cellB hu_wb VV1.out
              go_wp2_with fail
              refine (K3.out _ _ _ _ _).mono ?_
              rintro e wc ⟨Awc, cwc, rfl, hlwc, hCwc, hb_wc⟩
              have HCwc := Lib.hid hCwc
              clear hCwc
              have hz_wc := hz_wb.trans hb_wc
              have hu_wc := hu_wb.trans hb_wc
              obtain ⟨e0wc, e1wc, e2wc, e3wc⟩ := F4.out _ hz_wc
              have v0wc := cellB hu_wc VV0.out
              have v1wc := cellB hu_wc VV1.out
              go_wp2_with fail
              have heq := equalB (tV m2 s2 (Go.bits .and .i64 y0 255) (Go.bits .and .i64 y1 127)) (tV_len _ _ _ _) wc _ _ _ _ hlwb hlwc (Kd.C_below HCwb.out hb_wc.below) HCwc.out
              refine heq.mono ?_
              rintro e wi ⟨rfl, hb_wi⟩
              clear heq
              have hz_wi := hz_wc.trans hb_wi
              have hu_wi := hu_wc.trans hb_wi
              have v0wi := cellB hu_wi VV0.out
              have v1wi := cellB hu_wi VV1.out
              go_wp2_with fail
              go_roundw
              case rel => exact ⟨_, by omega, by omega, rfl, Lib.hid hz_wi⟩
              case measure => decide
          · have hi2 : i = 2 := by omega
            subst hi2
            go_wp2_with fail
            go_roundw
            case rel => exact ⟨_, by omega, by omega, rfl, Lib.hid ((hb.trans hW3).trans hb3)⟩
            case measure => decide
    · have hk2 : k = 2 := by omega
      subst hk2
      go_wp2_with fail
      refine (wakesB _).mono ?_
      rintro e wz ⟨rfl, hbz⟩
      go_wp2_with fail
      go_ret
      exact ⟨rfl, (hWW.trans HB.out).trans hbz⟩
theorem touched_law (m s : Int) (y0 y1 : Int) (hm : IntKind.has .i64 m) (hs : IntKind.has .i64 s) (h0 : (Lit.int .i64 y0).wf = true) (h1 : (Lit.int .i64 y1).wf = true) (w : World) : Calls Try.prog 7 #[.agg #[.int .i64 m, .int .i64 s], .int .i64 y0, .int .i64 y1] w fun e w' => e = .returned (.bool true) ∧ Below w.heap.size w w' := touched_calls m s y0 y1 w
end Go.Proofs.Ytgjalgmnkadbaaa
