/- GeomFinds, the walk. -/
import Derived.Test.YtgjalgmnkadbaaaVals
import Derived.Test.YtgjalgmnkadbaaaWakes
import Derived.OpenShut
import Derived.Deep.RegionHeld3
set_option linter.unusedVariables false
set_option linter.unusedSimpArgs false
namespace Go.Proofs.Ytgjalgmnkadbaaa
open Go.RowKit Go.Proofs.YtgjalgmnkadbaaaW.PrintWords Go.Proofs.YtgjalgmnkadbaaaW.PrintMore
def gM (m : Int) : Int := 4 + (mx 0 m) % 29
def gS (s : Int) : Int := 1 + (mx 0 s) % 64
theorem goodGB (m s : Int) (w : World) : Calls Try.prog 9 #[.agg #[.int .i64 m, .int .i64 s]] w fun e w' => e = .returned (.agg #[.int .i64 (gM m), .int .i64 (gS s)]) ∧ Bel w w' :=
  PGeomFinds.trunnionlaw09_good.calls m s _ _ w rfl
set_option maxHeartbeats 8000000 in
set_option maxRecDepth 100000 in
theorem finds_calls (m s b y0 y1 : Int) (w : World) : Calls Try.prog 6 #[.agg #[.int .i64 m, .int .i64 s], .int .i64 b, .agg #[.int .i64 y0, .int .i64 y1]] w fun e w' => e = .returned (.bool true) ∧ Bel w w' := by
  have K1 := Lib.hid (goodGB m s)
  have K2 := Lib.hid findB
  have K3 := Lib.hid rfindB
  have K4 := Lib.hid blockB
  have K5 := Lib.hid rblockB
  go_enter Try.func6, Try.ntmps6
  go_wp2_with fail
  have fx : ∀ wx, Bel ((w.alloc (Obj.cells #[Value.int IntKind.i64 m, Value.int IntKind.i64 s] 23)).alloc (Obj.cells #[Value.int IntKind.i64 y0, Value.int IntKind.i64 y1] 37)) wx → wx.cell? ⟨w.heap.size, 0, none⟩ = some (.int .i64 m) ∧ wx.cell? ⟨w.heap.size, 1, none⟩ = some (.int .i64 s) ∧ wx.cell? ⟨w.heap.size + 1, 0, none⟩ = some (.int .i64 y0) ∧ wx.cell? ⟨w.heap.size + 1, 1, none⟩ = some (.int .i64 y1) := fun wx hx => ⟨cellB hx (by simp [go_sem]), cellB hx (by simp [go_sem]), cellB hx (by simp [go_sem]), cellB hx (by simp [go_sem])⟩
  have hW : Bel w ((w.alloc (Obj.cells #[Value.int IntKind.i64 m, Value.int IntKind.i64 s] 23)).alloc (Obj.cells #[Value.int IntKind.i64 y0, Value.int IntKind.i64 y1] 37)) := (Bel.alloc _ _).trans (Bel.alloc _ _)
  generalize (w.alloc (Obj.cells #[Value.int IntKind.i64 m, Value.int IntKind.i64 s] 23)).alloc (Obj.cells #[Value.int IntKind.i64 y0, Value.int IntKind.i64 y1] 37) = W0 at fx hW ⊢
  have fx0 := fun wx hx => (fx wx hx).1
  have fx1 := fun wx hx => (fx wx hx).2.1
  have Fx := Lib.hid fx
  clear fx
  go_region_held3 (fun w' => Bel W0 w') (first | assumption | exact Bel.drew _ | exact Bel.trans (by assumption) (Bel.drew _) | exact Bel.trans (by assumption) (by assumption) | exact Bel.trans (by assumption) (Bel.alloc _ _)) ((first | (go_at_call 9; refine (K1.out _).mono ?_; rintro e wa ⟨rfl, hba⟩)))
  clear fx0 fx1
  have hW1 : Bel W0 (wa.alloc (Obj.cells #[Value.int IntKind.i64 m, Value.int IntKind.i64 s, Value.int IntKind.i64 (gM m), Value.int IntKind.i64 (gS s)] 24)) := by assumption
  go_wp2_with fail
  have fs : ∀ wx, Bel (wa.alloc (Obj.cells #[Value.int IntKind.i64 m, Value.int IntKind.i64 s, Value.int IntKind.i64 (gM m), Value.int IntKind.i64 (gS s)] 24)) wx → wx.cell? ⟨wa.heap.size, 0, none⟩ = some (.int .i64 m) ∧ wx.cell? ⟨wa.heap.size, 1, none⟩ = some (.int .i64 s) ∧ wx.cell? ⟨wa.heap.size, 2, none⟩ = some (.int .i64 (gM m)) ∧ wx.cell? ⟨wa.heap.size, 3, none⟩ = some (.int .i64 (gS s)) := fun wx hx => ⟨cellB hx (by simp [go_sem]), cellB hx (by simp [go_sem]), cellB hx (by simp [go_sem]), cellB hx (by simp [go_sem])⟩
  have Fs := Lib.hid fs
  clear fs
  generalize wa.alloc (Obj.cells #[Value.int IntKind.i64 m, Value.int IntKind.i64 s, Value.int IntKind.i64 (gM m), Value.int IntKind.i64 (gS s)] 24) = W1 at Fs hW1 ⊢
  have Fy : Hid (∀ wx, Bel W1 wx → wx.cell? ⟨w.heap.size + 1, 0, none⟩ = some (.int .i64 y0) ∧ wx.cell? ⟨w.heap.size + 1, 1, none⟩ = some (.int .i64 y1)) := Lib.hid (fun wx hx => (Fx.out wx (hW1.trans hx)).2.2)
  have hWW : Bel w W1 := hW.trans hW1
  clear Fx hW1 hW hba
  go_loopw [29] (fun v29 wr => ∃ (k : Int), 0 ≤ k ∧ k ≤ 2 ∧ v29 = .int .i64 k ∧ Hid (Bel W1 wr)) (fun v29 _ => (2 - intOf v29).toNat)
  case atStart => exact ⟨0, by omega, by omega, rfl, Lib.hid (Bel.refl _)⟩
  case round =>
    obtain ⟨wo, rfl⟩ : ∃ wo : World, wo = wr := ⟨_, rfl⟩
    obtain ⟨k, hk0, hk, rfl, HB⟩ := hrel
    by_cases hlt : k < 2
    · have hb := HB.out
      clear HB
      obtain ⟨d0, d1, d2, d3⟩ := Fs.out wo hb
      obtain ⟨q0, q1⟩ := Fy.out wo hb
      generalize gM m = m2 at *
      generalize gS s = s2 at *
      rcases (by omega : k = 0 ∨ k = 1) with rfl | rfl
      · go_wp2_with fail
        have F2 : Hid (∀ wx, Bel (((wo.alloc (Obj.cells #[Value.int IntKind.i64 m, Value.int IntKind.i64 s] 24)).alloc (Obj.cells #[Value.int IntKind.i64 m, Value.int IntKind.i64 s] 33)).alloc (Obj.cells #[Value.int IntKind.i64 b, Value.int IntKind.i64 (Go.bits .and .i64 b 1023)] 3)) wx → wx.cell? ⟨wo.heap.size, 0, none⟩ = some (.int .i64 m) ∧ wx.cell? ⟨wo.heap.size, 1, none⟩ = some (.int .i64 s) ∧ wx.cell? ⟨wo.heap.size + 1, 0, none⟩ = some (.int .i64 m) ∧ wx.cell? ⟨wo.heap.size + 1, 1, none⟩ = some (.int .i64 s) ∧ wx.cell? ⟨wo.heap.size + 1 + 1, 0, none⟩ = some (.int .i64 b) ∧ wx.cell? ⟨wo.heap.size + 1 + 1, 1, none⟩ = some (.int .i64 (Go.bits .and .i64 b 1023))) := Lib.hid (fun wx hx => ⟨cellB hx (by simp [go_sem]), cellB hx (by simp [go_sem]), cellB hx (by simp [go_sem]), cellB hx (by simp [go_sem]), cellB hx (by simp [go_sem]), cellB hx (by simp [go_sem])⟩)
        have hW2 : Bel wo (((wo.alloc (Obj.cells #[Value.int IntKind.i64 m, Value.int IntKind.i64 s] 24)).alloc (Obj.cells #[Value.int IntKind.i64 m, Value.int IntKind.i64 s] 33)).alloc (Obj.cells #[Value.int IntKind.i64 b, Value.int IntKind.i64 (Go.bits .and .i64 b 1023)] 3)) := ((Bel.alloc _ _).trans (Bel.alloc _ _)).trans (Bel.alloc _ _)
        generalize ((wo.alloc (Obj.cells #[Value.int IntKind.i64 m, Value.int IntKind.i64 s] 24)).alloc (Obj.cells #[Value.int IntKind.i64 m, Value.int IntKind.i64 s] 33)).alloc (Obj.cells #[Value.int IntKind.i64 b, Value.int IntKind.i64 (Go.bits .and .i64 b 1023)] 3) = W2 at F2 hW2 ⊢
        go_loopw [39] (fun v39 wz => ∃ (j : Int), 0 ≤ j ∧ j ≤ 2 ∧ v39 = .int .i64 j ∧ Hid (Bel W2 wz)) (fun v39 _ => (2 - intOf v39).toNat)
        case atStart => exact ⟨0, by omega, by omega, rfl, Lib.hid (Bel.refl _)⟩
        case round =>
          obtain ⟨wi, rfl⟩ : ∃ wi : World, wi = wr := ⟨_, rfl⟩
          obtain ⟨j, hj0, hj, rfl, HB2⟩ := hrel
          have hb2 := HB2.out
          clear HB2
          by_cases hlt2 : j < 2
          · obtain ⟨g0, g1, g2, g3, g4, g5⟩ := F2.out _ hb2
            rcases (by omega : j = 0 ∨ j = 1) with rfl | rfl
            all_goals
              go_wp2_with fail
              refine (K2.out _ _ _ _).mono ?_
              rintro e wf ⟨rfl, hbf⟩
              obtain ⟨h0, h1, h2, h3, h4, h5⟩ := F2.out _ (hb2.trans hbf)
              go_wp2_with fail
              refine (K3.out _ _ _ _).mono ?_
              rintro e wg ⟨rfl, hbg⟩
              go_wp2_with fail
              go_roundw
              case rel => exact ⟨_, by omega, by omega, rfl, Lib.hid ((hb2.trans hbf).trans hbg)⟩
              case measure => decide
          · have hj2 : j = 2 := by omega
            subst hj2
            have q0' := cellB (hW2.trans hb2) q0
            have q1' := cellB (hW2.trans hb2) q1
            go_wp2_with fail
            have F3 : Hid (∀ wx, Bel (wi.alloc (Obj.cells #[Value.int IntKind.i64 y0, Value.int IntKind.i64 y1, Value.int IntKind.i64 (Go.bits .and .i64 y0 63), Value.int IntKind.i64 (Go.bits .and .i64 y1 31)] 37)) wx → wx.cell? ⟨wi.heap.size, 0, none⟩ = some (.int .i64 y0) ∧ wx.cell? ⟨wi.heap.size, 1, none⟩ = some (.int .i64 y1) ∧ wx.cell? ⟨wi.heap.size, 2, none⟩ = some (.int .i64 (Go.bits .and .i64 y0 63)) ∧ wx.cell? ⟨wi.heap.size, 3, none⟩ = some (.int .i64 (Go.bits .and .i64 y1 31))) := Lib.hid (fun wx hx => ⟨cellB hx (by simp [go_sem]), cellB hx (by simp [go_sem]), cellB hx (by simp [go_sem]), cellB hx (by simp [go_sem])⟩)
            obtain ⟨g0, g1, g2, g3, g4, g5⟩ := F2.out _ hb2
            have F4 : Hid (∀ wx, Bel (wi.alloc (Obj.cells #[Value.int IntKind.i64 y0, Value.int IntKind.i64 y1, Value.int IntKind.i64 (Go.bits .and .i64 y0 63), Value.int IntKind.i64 (Go.bits .and .i64 y1 31)] 37)) wx → wx.cell? ⟨wo.heap.size, 0, none⟩ = some (.int .i64 m) ∧ wx.cell? ⟨wo.heap.size, 1, none⟩ = some (.int .i64 s) ∧ wx.cell? ⟨wo.heap.size + 1, 0, none⟩ = some (.int .i64 m) ∧ wx.cell? ⟨wo.heap.size + 1, 1, none⟩ = some (.int .i64 s)) := Lib.hid (fun wx hx => ⟨cellB ((Bel.alloc _ _).trans hx) g0, cellB ((Bel.alloc _ _).trans hx) g1, cellB ((Bel.alloc _ _).trans hx) g2, cellB ((Bel.alloc _ _).trans hx) g3⟩)
            clear g0 g1 g2 g3 g4 g5
            have hW3 : Bel wi (wi.alloc (Obj.cells #[Value.int IntKind.i64 y0, Value.int IntKind.i64 y1, Value.int IntKind.i64 (Go.bits .and .i64 y0 63), Value.int IntKind.i64 (Go.bits .and .i64 y1 31)] 37)) := Bel.alloc _ _
            generalize wi.alloc (Obj.cells #[Value.int IntKind.i64 y0, Value.int IntKind.i64 y1, Value.int IntKind.i64 (Go.bits .and .i64 y0 63), Value.int IntKind.i64 (Go.bits .and .i64 y1 31)] 37) = W3 at F3 F4 hW3 ⊢
            go_loopw [81] (fun vz wz => ∃ (i : Int), 0 ≤ i ∧ i ≤ 2 ∧ vz = .int .i64 i ∧ Hid (Bel W3 wz)) (fun vz _ => (2 - intOf vz).toNat)
            case atStart => exact ⟨0, by omega, by omega, rfl, Lib.hid (Bel.refl _)⟩
            case round =>
              obtain ⟨wk, rfl⟩ : ∃ wk : World, wk = wr := ⟨_, rfl⟩
              obtain ⟨i, hi0, hi, rfl, HB3⟩ := hrel
              have hb3 := HB3.out
              clear HB3
              by_cases hlt3 : i < 2
              · obtain ⟨z0, z1, z2, z3⟩ := F3.out _ hb3
                obtain ⟨g0, g1, g2, g3⟩ := F4.out _ hb3
                rcases (by omega : i = 0 ∨ i = 1) with rfl | rfl
                · have a0 := fun o => cellB (Bel.alloc wk o) g0
                  have a1 := fun o => cellB (Bel.alloc wk o) g1
                  go_wp2_with fail
                  refine (K4.out _ _ _ _ _).mono ?_
                  rintro e wf ⟨rfl, hbf⟩
                  have hbz := (hb3.trans (Bel.alloc wk _)).trans hbf
                  obtain ⟨e0, e1, e2, e3⟩ := F4.out _ hbz
                  have v0 : wf.cell? ⟨wk.heap.size, 0, none⟩ = some (.int .i64 y0) := cellB hbf (by simp [go_sem])
                  have v1 : wf.cell? ⟨wk.heap.size, 1, none⟩ = some (.int .i64 y1) := cellB hbf (by simp [go_sem])
                  go_wp2_with fail
                  refine (K5.out _ _ _ _ _).mono ?_
                  rintro e wg ⟨rfl, hbg⟩
                  go_wp2_with fail
                  go_roundw
                  case rel => exact ⟨_, by omega, by omega, rfl, Lib.hid (hbz.trans hbg)⟩
                  case measure => decide
                · have a0 := fun o => cellB (Bel.alloc wk o) g0
                  have a1 := fun o => cellB (Bel.alloc wk o) g1
                  go_wp2_with fail
                  refine (K4.out _ _ _ _ _).mono ?_
                  rintro e wf ⟨rfl, hbf⟩
                  have hbz := (hb3.trans (Bel.alloc wk _)).trans hbf
                  obtain ⟨e0, e1, e2, e3⟩ := F4.out _ hbz
                  have v0 : wf.cell? ⟨wk.heap.size, 0, none⟩ = some (.int .i64 (Go.bits .and .i64 y0 63)) := cellB hbf (by simp [go_sem])
                  have v1 : wf.cell? ⟨wk.heap.size, 1, none⟩ = some (.int .i64 (Go.bits .and .i64 y1 31)) := cellB hbf (by simp [go_sem])
                  go_wp2_with fail
                  refine (K5.out _ _ _ _ _).mono ?_
                  rintro e wg ⟨rfl, hbg⟩
                  go_wp2_with fail
                  go_roundw
                  case rel => exact ⟨_, by omega, by omega, rfl, Lib.hid (hbz.trans hbg)⟩
                  case measure => decide
              · have hi2 : i = 2 := by omega
                subst hi2
                go_wp2_with fail
                go_roundw
                case rel => exact ⟨_, by omega, by omega, rfl, Lib.hid (((hb.trans hW2).trans (hb2.trans hW3)).trans hb3)⟩
                case measure => decide
      · go_wp2_with fail
        have F2 : Hid (∀ wx, Bel (((wo.alloc (Obj.cells #[Value.int IntKind.i64 m2, Value.int IntKind.i64 s2] 24)).alloc (Obj.cells #[Value.int IntKind.i64 m2, Value.int IntKind.i64 s2] 33)).alloc (Obj.cells #[Value.int IntKind.i64 b, Value.int IntKind.i64 (Go.bits .and .i64 b 1023)] 3)) wx → wx.cell? ⟨wo.heap.size, 0, none⟩ = some (.int .i64 m2) ∧ wx.cell? ⟨wo.heap.size, 1, none⟩ = some (.int .i64 s2) ∧ wx.cell? ⟨wo.heap.size + 1, 0, none⟩ = some (.int .i64 m2) ∧ wx.cell? ⟨wo.heap.size + 1, 1, none⟩ = some (.int .i64 s2) ∧ wx.cell? ⟨wo.heap.size + 1 + 1, 0, none⟩ = some (.int .i64 b) ∧ wx.cell? ⟨wo.heap.size + 1 + 1, 1, none⟩ = some (.int .i64 (Go.bits .and .i64 b 1023))) := Lib.hid (fun wx hx => ⟨cellB hx (by simp [go_sem]), cellB hx (by simp [go_sem]), cellB hx (by simp [go_sem]), cellB hx (by simp [go_sem]), cellB hx (by simp [go_sem]), cellB hx (by simp [go_sem])⟩)
        have hW2 : Bel wo (((wo.alloc (Obj.cells #[Value.int IntKind.i64 m2, Value.int IntKind.i64 s2] 24)).alloc (Obj.cells #[Value.int IntKind.i64 m2, Value.int IntKind.i64 s2] 33)).alloc (Obj.cells #[Value.int IntKind.i64 b, Value.int IntKind.i64 (Go.bits .and .i64 b 1023)] 3)) := ((Bel.alloc _ _).trans (Bel.alloc _ _)).trans (Bel.alloc _ _)
        generalize ((wo.alloc (Obj.cells #[Value.int IntKind.i64 m2, Value.int IntKind.i64 s2] 24)).alloc (Obj.cells #[Value.int IntKind.i64 m2, Value.int IntKind.i64 s2] 33)).alloc (Obj.cells #[Value.int IntKind.i64 b, Value.int IntKind.i64 (Go.bits .and .i64 b 1023)] 3) = W2 at F2 hW2 ⊢
        go_loopw [39] (fun v39 wz => ∃ (j : Int), 0 ≤ j ∧ j ≤ 2 ∧ v39 = .int .i64 j ∧ Hid (Bel W2 wz)) (fun v39 _ => (2 - intOf v39).toNat)
        case atStart => exact ⟨0, by omega, by omega, rfl, Lib.hid (Bel.refl _)⟩
        case round =>
          obtain ⟨wi, rfl⟩ : ∃ wi : World, wi = wr := ⟨_, rfl⟩
          obtain ⟨j, hj0, hj, rfl, HB2⟩ := hrel
          have hb2 := HB2.out
          clear HB2
          by_cases hlt2 : j < 2
          · obtain ⟨g0, g1, g2, g3, g4, g5⟩ := F2.out _ hb2
            rcases (by omega : j = 0 ∨ j = 1) with rfl | rfl
            all_goals
              go_wp2_with fail
              refine (K2.out _ _ _ _).mono ?_
              rintro e wf ⟨rfl, hbf⟩
              obtain ⟨h0, h1, h2, h3, h4, h5⟩ := F2.out _ (hb2.trans hbf)
              go_wp2_with fail
              refine (K3.out _ _ _ _).mono ?_
              rintro e wg ⟨rfl, hbg⟩
              go_wp2_with fail
              go_roundw
              case rel => exact ⟨_, by omega, by omega, rfl, Lib.hid ((hb2.trans hbf).trans hbg)⟩
              case measure => decide
          · have hj2 : j = 2 := by omega
            subst hj2
            have q0' := cellB (hW2.trans hb2) q0
            have q1' := cellB (hW2.trans hb2) q1
            go_wp2_with fail
            have F3 : Hid (∀ wx, Bel (wi.alloc (Obj.cells #[Value.int IntKind.i64 y0, Value.int IntKind.i64 y1, Value.int IntKind.i64 (Go.bits .and .i64 y0 63), Value.int IntKind.i64 (Go.bits .and .i64 y1 31)] 37)) wx → wx.cell? ⟨wi.heap.size, 0, none⟩ = some (.int .i64 y0) ∧ wx.cell? ⟨wi.heap.size, 1, none⟩ = some (.int .i64 y1) ∧ wx.cell? ⟨wi.heap.size, 2, none⟩ = some (.int .i64 (Go.bits .and .i64 y0 63)) ∧ wx.cell? ⟨wi.heap.size, 3, none⟩ = some (.int .i64 (Go.bits .and .i64 y1 31))) := Lib.hid (fun wx hx => ⟨cellB hx (by simp [go_sem]), cellB hx (by simp [go_sem]), cellB hx (by simp [go_sem]), cellB hx (by simp [go_sem])⟩)
            obtain ⟨g0, g1, g2, g3, g4, g5⟩ := F2.out _ hb2
            have F4 : Hid (∀ wx, Bel (wi.alloc (Obj.cells #[Value.int IntKind.i64 y0, Value.int IntKind.i64 y1, Value.int IntKind.i64 (Go.bits .and .i64 y0 63), Value.int IntKind.i64 (Go.bits .and .i64 y1 31)] 37)) wx → wx.cell? ⟨wo.heap.size, 0, none⟩ = some (.int .i64 m2) ∧ wx.cell? ⟨wo.heap.size, 1, none⟩ = some (.int .i64 s2) ∧ wx.cell? ⟨wo.heap.size + 1, 0, none⟩ = some (.int .i64 m2) ∧ wx.cell? ⟨wo.heap.size + 1, 1, none⟩ = some (.int .i64 s2)) := Lib.hid (fun wx hx => ⟨cellB ((Bel.alloc _ _).trans hx) g0, cellB ((Bel.alloc _ _).trans hx) g1, cellB ((Bel.alloc _ _).trans hx) g2, cellB ((Bel.alloc _ _).trans hx) g3⟩)
            clear g0 g1 g2 g3 g4 g5
            have hW3 : Bel wi (wi.alloc (Obj.cells #[Value.int IntKind.i64 y0, Value.int IntKind.i64 y1, Value.int IntKind.i64 (Go.bits .and .i64 y0 63), Value.int IntKind.i64 (Go.bits .and .i64 y1 31)] 37)) := Bel.alloc _ _
            generalize wi.alloc (Obj.cells #[Value.int IntKind.i64 y0, Value.int IntKind.i64 y1, Value.int IntKind.i64 (Go.bits .and .i64 y0 63), Value.int IntKind.i64 (Go.bits .and .i64 y1 31)] 37) = W3 at F3 F4 hW3 ⊢
            go_loopw [81] (fun vz wz => ∃ (i : Int), 0 ≤ i ∧ i ≤ 2 ∧ vz = .int .i64 i ∧ Hid (Bel W3 wz)) (fun vz _ => (2 - intOf vz).toNat)
            case atStart => exact ⟨0, by omega, by omega, rfl, Lib.hid (Bel.refl _)⟩
            case round =>
              obtain ⟨wk, rfl⟩ : ∃ wk : World, wk = wr := ⟨_, rfl⟩
              obtain ⟨i, hi0, hi, rfl, HB3⟩ := hrel
              have hb3 := HB3.out
              clear HB3
              by_cases hlt3 : i < 2
              · obtain ⟨z0, z1, z2, z3⟩ := F3.out _ hb3
                obtain ⟨g0, g1, g2, g3⟩ := F4.out _ hb3
                rcases (by omega : i = 0 ∨ i = 1) with rfl | rfl
                · have a0 := fun o => cellB (Bel.alloc wk o) g0
                  have a1 := fun o => cellB (Bel.alloc wk o) g1
                  go_wp2_with fail
                  refine (K4.out _ _ _ _ _).mono ?_
                  rintro e wf ⟨rfl, hbf⟩
                  have hbz := (hb3.trans (Bel.alloc wk _)).trans hbf
                  obtain ⟨e0, e1, e2, e3⟩ := F4.out _ hbz
                  have v0 : wf.cell? ⟨wk.heap.size, 0, none⟩ = some (.int .i64 y0) := cellB hbf (by simp [go_sem])
                  have v1 : wf.cell? ⟨wk.heap.size, 1, none⟩ = some (.int .i64 y1) := cellB hbf (by simp [go_sem])
                  go_wp2_with fail
                  refine (K5.out _ _ _ _ _).mono ?_
                  rintro e wg ⟨rfl, hbg⟩
                  go_wp2_with fail
                  go_roundw
                  case rel => exact ⟨_, by omega, by omega, rfl, Lib.hid (hbz.trans hbg)⟩
                  case measure => decide
                · have a0 := fun o => cellB (Bel.alloc wk o) g0
                  have a1 := fun o => cellB (Bel.alloc wk o) g1
                  go_wp2_with fail
                  refine (K4.out _ _ _ _ _).mono ?_
                  rintro e wf ⟨rfl, hbf⟩
                  have hbz := (hb3.trans (Bel.alloc wk _)).trans hbf
                  obtain ⟨e0, e1, e2, e3⟩ := F4.out _ hbz
                  have v0 : wf.cell? ⟨wk.heap.size, 0, none⟩ = some (.int .i64 (Go.bits .and .i64 y0 63)) := cellB hbf (by simp [go_sem])
                  have v1 : wf.cell? ⟨wk.heap.size, 1, none⟩ = some (.int .i64 (Go.bits .and .i64 y1 31)) := cellB hbf (by simp [go_sem])
                  go_wp2_with fail
                  refine (K5.out _ _ _ _ _).mono ?_
                  rintro e wg ⟨rfl, hbg⟩
                  go_wp2_with fail
                  go_roundw
                  case rel => exact ⟨_, by omega, by omega, rfl, Lib.hid (hbz.trans hbg)⟩
                  case measure => decide
              · have hi2 : i = 2 := by omega
                subst hi2
                go_wp2_with fail
                go_roundw
                case rel => exact ⟨_, by omega, by omega, rfl, Lib.hid (((hb.trans hW2).trans (hb2.trans hW3)).trans hb3)⟩
                case measure => decide
    · have hk2 : k = 2 := by omega
      subst hk2
      go_wp2_with fail
      refine (wakesB _).mono ?_
      rintro e wz ⟨rfl, hbz⟩
      go_wp2_with fail
      go_ret
      exact ⟨rfl, (hWW.trans HB.out).trans hbz⟩
theorem finds_law (m s : Int) (b : Int) (y0 y1 : Int) (hm : IntKind.has .i64 m) (hs : IntKind.has .i64 s) (hb : (Lit.int .i64 b).wf = true) (h0 : IntKind.has .i64 y0) (h1 : IntKind.has .i64 y1) (w : World) : Calls Try.prog 6 #[.agg #[.int .i64 m, .int .i64 s], .int .i64 b, .agg #[.int .i64 y0, .int .i64 y1]] w fun e w' => e = .returned (.bool true) ∧ Below w.heap.size w w' := finds_calls m s b y0 y1 w
end Go.Proofs.Ytgjalgmnkadbaaa
