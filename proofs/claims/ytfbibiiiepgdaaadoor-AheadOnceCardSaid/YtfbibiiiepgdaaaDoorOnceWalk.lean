/- AheadOnce, the walk. -/
import Derived.Test.YtfbibiiiepgdaaaDoorRuns
import Derived.Carry
import Derived.Deep.QuietTactic
import Derived.BigQuiet
set_option linter.unusedVariables false
set_option linter.unusedSimpArgs false
namespace Go.Proofs.YtfbibiiiepgdaaaDoor
open Go.RowKit Go.Proofs.YtfbibiiiepgdaaaDoorW.PrintWords Go.Proofs.YtfbibiiiepgdaaaDoorW.PrintMore
open PAheadPlays
namespace Once
theorem calls_gen {P : Program} {f : FuncId} {args : Array Value} {R : Ending → World → Prop} {w : World} (Φ : World → Prop) (hΦ : Φ w) (h : ∀ W, Φ W → Calls P f args W R) : Calls P f args w R := h w hΦ
/-- A planner and the map of what was told. -/
structure Sit (w : World) (gp bm : Nat) (F b B R M : Int) (W : World) : Prop where
  st : ∃ nx run win en, Valid B R M nx run win en ∧ StI F b B nx run win en ∧ IsP w W gp B R M nx run win en ∧ BM W bm (gI (F + 2) (max en (F + 2))) (max en (F + 2) - (F + 2)).toNat
  b : Below w.heap.size w W
  m : w.heap.size ≤ bm
set_option maxHeartbeats 1000000 in
theorem lenB (a c : Int) (h0 : 0 ≤ a) (h1 : a < c) (h2 : c ≤ 1099511627776) (w : World) : Calls Tryd.prog 11 #[.agg #[.int .i64 a, .int .i64 c]] w fun e w' => e = .returned (.int .i64 (c - a)) ∧ Below w.heap.size w w' := by
  have hg : (decide (0 ≤ a) && decide (a < c) && decide (c ≤ 1099511627776)) = true := by simp; omega
  have HG := Lib.hid (goodB a c)
  rw [hg] at HG
  clear hg
  go_enter Tryd.func11, Tryd.ntmps11
  go_wp2_with fail
  refine (HG.out _).mono ?_
  rintro e w1 ⟨rfl, hb1⟩
  have d0 := pw_cell_below (a := ⟨w.heap.size, 0, none⟩) hb1 (v := .int .i64 a) (by simp [go_sem])
  have d1 := pw_cell_below (a := ⟨w.heap.size, 1, none⟩) hb1 (v := .int .i64 c) (by simp [go_sem])
  go_wp2_with fail
  go_ret
  exact ⟨rfl, below_then ((Below.refl _ _).alloc (Nat.le_refl _) _) (by simp) hb1⟩
set_option maxHeartbeats 8000000 in
set_option maxRecDepth 100000 in
theorem once_calls (x0 x1 x2 fr nn : Int) (w : World) (hL : Laid w) :
    Calls Tryd.prog 4 #[.agg #[.int .i64 x0, .int .i64 x1, .int .i64 x2], .int .i64 fr, .int .i64 nn] w fun e w' => e = .returned (.bool true) ∧ Below w.heap.size w w' := by
  have KW := Lib.hid wakesB
  have HL := Lib.hid hL
  clear hL
  obtain ⟨B, hy0⟩ : ∃ y, y = 1 + max 0 x0 % 300 := ⟨_, rfl⟩
  obtain ⟨R, hy1⟩ : ∃ y, y = 1 + max 0 x1 % 32 := ⟨_, rfl⟩
  obtain ⟨M, hy2⟩ : ∃ y, y = 1 + max 0 x2 % 64 := ⟨_, rfl⟩
  have r0 := Int.emod_nonneg (max 0 x0) (show (300 : Int) ≠ 0 by omega)
  have r0' := Int.emod_lt_of_pos (max 0 x0) (show (0 : Int) < 300 by omega)
  have r1 := Int.emod_nonneg (max 0 x1) (show (32 : Int) ≠ 0 by omega)
  have r1' := Int.emod_lt_of_pos (max 0 x1) (show (0 : Int) < 32 by omega)
  have r2 := Int.emod_nonneg (max 0 x2) (show (64 : Int) ≠ 0 by omega)
  have r2' := Int.emod_lt_of_pos (max 0 x2) (show (0 : Int) < 64 by omega)
  have hB1 : 1 ≤ B := by omega
  have hB2 : B ≤ 300 := by omega
  have hOK : Hid (okN B R M) := Lib.hid (by unfold okN; omega)
  have hR : 1 ≤ R ∧ R ≤ 32 := by omega
  have hM : 1 ≤ M ∧ M ≤ 64 := by omega
  have hF0 := Int.emod_nonneg (max 0 fr) (show B ≠ 0 by omega)
  have hF1 := Int.emod_lt_of_pos (max 0 fr) (show 0 < B by omega)
  have hm0 : 0 ≤ max 0 fr := by omega
  have hy0' := hy0.symm
  have hy1' := hy1.symm
  have hy2' := hy2.symm
  clear hy0 hy1 hy2
  have hn0 := Int.emod_nonneg (max 0 nn) (show (400 : Int) ≠ 0 by omega)
  have hn1 := Int.emod_lt_of_pos (max 0 nn) (show (0 : Int) < 400 by omega)
  have hm1 : 0 ≤ max 0 nn := by omega
  have hmm := @run_makeMap Tryd.prog
  have t0 : (max 0 x0).tmod 300 = max 0 x0 % 300 := Int.tmod_eq_emod_of_nonneg (by omega)
  have t1 : (max 0 x1).tmod 32 = max 0 x1 % 32 := Int.tmod_eq_emod_of_nonneg (by omega)
  have t2 : (max 0 x2).tmod 64 = max 0 x2 % 64 := Int.tmod_eq_emod_of_nonneg (by omega)
  have s0 : IntKind.i64.wrap (1 + max 0 x0 % 300) = B := by rw [IntWalk.i64_in _ (by omega)]; exact hy0'
  have s1 : IntKind.i64.wrap (1 + max 0 x1 % 32) = R := by rw [IntWalk.i64_in _ (by omega)]; exact hy1'
  have s2 : IntKind.i64.wrap (1 + max 0 x2 % 64) = M := by rw [IntWalk.i64_in _ (by omega)]; exact hy2'
  go_enter Tryd.func4, Tryd.ntmps4
  go_wp2_with fail
  go_quiet (fail)
  clear t0 t1 t2 s0 s1 s2
  go_wp2_with fail
  refine calls_gen (fun W => Below w.heap.size w W) (pw_below_drewN ((Below.refl _ _).alloc (Nat.le_refl _) _) _) ?_
  intro W0 hb0
  refine (new_ok B R M w _ hOK.out (HL.out.below hb0) hb0).mono ?_
  rintro e w1 ⟨gp, rfl, hg1, hi1, hb1⟩
  have I1 := Lib.hid hi1
  have B1 := Lib.hid (below_then hb0 hb0.size hb1)
  clear hi1 hb1 hg1 hb0
  go_wp2_with fail
  refine (KW.out _ (HL.out.below B1.out)).mono ?_
  rintro e w2 ⟨rfl, hb2⟩
  have I2 := Lib.hid (I1.out.below hb2)
  have B2 := Lib.hid (below_then B1.out B1.out.size hb2)
  have hgp : gp < w2.heap.size := I2.out.lt
  clear hb2 I1 B1
  go_wp2_with fail
  generalize max 0 fr % B = F at *
  refine wp_gen (Sit w gp w2.heap.size F F B R M) ⟨⟨-1, 0, 0, 0, by constructor <;> omega, .inl ⟨rfl, rfl, rfl, rfl, rfl⟩, I2.out.alloc _, by rw [show max 0 (F + 2) = F + 2 by omega, gI_empty, Int.sub_self]; exact TMap.made _⟩, B2.out.alloc B2.out.size _, B2.out.size⟩ ?_
  intro W1 hS1
  have H1 := Lib.hid hS1
  clear hS1 hy0' hy1' hy2' r0 r0' r1 r1' r2 r2' hmm hm0
  go_loopw [13] (fun v11 wr => ∃ (b : Int), v11 = .int .i64 b ∧ F ≤ b ∧ b ≤ B ∧ Hid (Sit w gp w2.heap.size F b B R M wr)) (fun v11 _ => (B - intOf v11).toNat)
  case atStart => exact ⟨F, rfl, by omega, by omega, H1⟩
  case round =>
    obtain ⟨wo, rfl⟩ : ∃ wo : World, wo = wr := ⟨_, rfl⟩
    obtain ⟨b, rfl, b0, b1, HS⟩ := hrel
    clear H1
    by_cases hlt : b < B ∧ b < F + max 0 nn % 400
    · obtain ⟨hlt, hlt2⟩ := hlt
      obtain ⟨⟨nx, run, win, en, hv, hst, hip, hbm⟩, hbw, hmw⟩ := HS.out
      have hstep := step_note (by omega) hlt hv hst
      have hv2 := valid_note hv b
      have hnote := noteP (w0 := w) b hv gp wo hip hbw
      generalize noteF B R M nx run win en b = r at *
      obtain ⟨⟨f, t, ok⟩, nx2, run2, win2, en2⟩ := r
      have HN := Lib.hid hnote
      have HV := Lib.hid hv2
      have HBM := Lib.hid hbm
      have hbmlt := TMap.lt hbm
      have HST := Lib.hid hstep.1
      have he0 : F + 2 ≤ max en (F + 2) := by omega
      generalize h9 : max en2 (F + 2) = e'' at hstep
      have H9 := Lib.hid h9
      rcases hstep.2 with ⟨hr, hmx⟩ | ⟨f', t', hr, hf, hft, htB, hbf, hlen, hen⟩
      · simp only [Prod.mk.injEq] at hr
        obtain ⟨rfl, rfl, rfl⟩ := hr
        have HMX := Lib.hid hmx
        clear hnote hstep hv2 hbm hv hst hip hbw hmx h9
        generalize max en (F + 2) = e' at *
        go_wp2_with fail
        refine HN.out.mono ?_
        rintro e w3 ⟨rfl, hi3, hb3, hk3⟩
        have hbm3 : BM w3 w2.heap.size (gI (F + 2) e') (e' - (F + 2)).toNat := TMap.keep HBM.out (hk3.2 _ hbmlt (by omega) (by simp))
        have hfin : Hid (Sit w gp w2.heap.size F (b + 1) B R M (w3.alloc (.cells #[.int .i64 0, .int .i64 0] 30))) := Lib.hid ⟨⟨nx2, run2, win2, en2, HV.out, HST.out, hi3.alloc _, by
          have h1 := TMap.keep hbm3 (Below.heap_alloc w3 (.cells #[.int .i64 0, .int .i64 0] 30) _ (TMap.lt hbm3))
          rw [H9.out, HMX.out]
          exact h1⟩, hb3.alloc hb3.size _, hmw⟩
        clear hi3 hb3 hk3 hbm3
        go_wp2_with fail
        exact ⟨⟨b + 1, rfl, by omega, by omega, hfin⟩, by simp [intOf]; omega⟩
      · simp only [Prod.mk.injEq] at hr
        obtain ⟨rfl, rfl, rfl⟩ := hr
        have hf0 : F + 2 ≤ f := by omega
        have hen' : en2 = t := hen
        have EN : Hid (e'' = t) := Lib.hid (by clear hstep hen; omega)
        clear hen'
        rw [← hf] at hbm he0
        have HBM := Lib.hid hbm
        clear hnote hstep hv2 hbm hv hst hip hbw hen hf h9
        have HG := Lib.hid (goodB f t)
        have hg1 : (decide (0 ≤ f) && decide (f < t) && decide (t ≤ 1099511627776)) = true := by simp; omega
        rw [hg1] at HG
        have HL2 := Lib.hid (lenB f t (by omega) hft (by omega))
        clear hg1
        go_wp2_with fail
        refine HN.out.mono ?_
        rintro e w3 ⟨rfl, hi3, hb3, hk3⟩
        have hbm3 : BM w3 w2.heap.size (gI (F + 2) f) (f - (F + 2)).toNat := TMap.keep HBM.out (hk3.2 _ hbmlt (by omega) (by simp))
        have HA := Lib.hid hi3
        have HB3 := Lib.hid hb3
        have HM3 := Lib.hid hbm3
        have hw23 := TMap.lt hbm3
        clear hi3 hb3 hk3 hbm3
        go_wp2_with fail
        refine calls_gen (fun W => (IsP w W gp B R M nx2 run2 win2 en2 ∧ W.heap[w3.heap.size]? = some (.cells #[.int .i64 f, .int .i64 t] 30 (0, 0))) ∧ Below w.heap.size w W ∧ BM W w2.heap.size (gI (F + 2) f) (f - (F + 2)).toNat) ⟨⟨HA.out.alloc _, heap_alloc_new _ _⟩, HB3.out.alloc HB3.out.size _, TMap.keep HM3.out (Below.heap_alloc _ _ _ hw23)⟩ ?_
        rintro W4 ⟨hi4, hb4, hm4⟩
        refine (HG.out _).mono ?_
        rintro e W5 ⟨rfl, hb5⟩
        have hi5 : Hid (IsP w W5 gp B R M nx2 run2 win2 en2 ∧ W5.heap[w3.heap.size]? = some (.cells #[.int .i64 f, .int .i64 t] 30 (0, 0))) := Lib.hid ⟨hi4.1.below hb5, (hb5.block _ (blk_lt hi4.2)).trans hi4.2⟩
        have hb5' := Lib.hid (below_then hb4 hb4.size hb5)
        have hm5 := Lib.hid (TMap.below hm4 hb5)
        have d0 := blk_cell hi5.out.2 0
        have d1 := blk_cell hi5.out.2 1
        clear hi4 hb4 hm4 hb5 HA HB3 HM3
        go_wp2_with fail
        refine (HL2.out _).mono ?_
        rintro e W6 ⟨rfl, hb6⟩
        have HQ4 : Hid (IsP w W6 gp B R M nx2 run2 win2 en2 ∧ W6.heap[w3.heap.size]? = some (.cells #[.int .i64 f, .int .i64 t] 30 (0, 0))) := Lib.hid ⟨hi5.out.1.below hb6, (hb6.block _ (blk_lt hi5.out.2)).trans hi5.out.2⟩
        have HB4 := Lib.hid (below_then hb5'.out hb5'.out.size hb6)
        have HM4 := Lib.hid (TMap.below hm5.out hb6)
        clear hi5 hb5' hm5 d0 d1 hb6
        have d0 := blk_cell HQ4.out.2 0
        have d1 := blk_cell HQ4.out.2 1
        go_wp2_with fail
        clear d0 d1
        go_loopw [16] (fun v16 wr => ∃ (i : Int), v16 = .int .i64 i ∧ f ≤ i ∧ i ≤ t ∧ Hid ((IsP w wr gp B R M nx2 run2 win2 en2 ∧ wr.heap[w3.heap.size]? = some (.cells #[.int .i64 f, .int .i64 t] 30 (0, 0))) ∧ Below w.heap.size w wr ∧ BM wr w2.heap.size (gI (F + 2) i) (i - (F + 2)).toNat)) (fun v16 _ => (t - intOf v16).toNat)
        case atStart => exact ⟨f, rfl, by omega, by omega, Lib.hid ⟨HQ4.out, HB4.out, HM4.out⟩⟩
        case round =>
          obtain ⟨wi, rfl⟩ : ∃ wi : World, wi = wr := ⟨_, rfl⟩
          obtain ⟨i, rfl, i0, i1, HI⟩ := hrel
          have c1 := blk_cell HI.out.1.2 1
          clear HB4 HM4 HQ4
          by_cases hit : i < t
          · have HM5 := Lib.hid HI.out.2.2
            have wfi : (Lit.int .i64 i).wf = true := WalkArith.wf_i64 (by omega)
            have hinj : ∀ x y : Int, Value.int .i64 x = Value.int .i64 y → x = y := fun x y h => by injection h
            have hsz : (i - (F + 2)).toNat < maxLen := by unfold maxLen; omega
            have hlook := BM.look HI.out.2.2 i wfi
            rw [gI_none (by omega)] at hlook
            simp only [Option.getD_none] at hlook
            go_wp2_with (at_mapUpdate; refine wpList_mapUpdate_T rfl _ _ _ rfl keyed3 Tryd.underlying28 HM5.out hsz hinj rfl i rfl true rfl (.int .i64 i) wfi (Maps.keyOf_int_mk Tryd.underlying3 wfi) (.lit (.bool true)) (plainElem_bool Tryd.underlying4 true) ?_; intro w7 hP7 hg7; have G7 := Lib.hid hg7; have P7 := Lib.hid hP7; clear hg7 hP7 hlook)
            have hp7 := P7.out
            rw [gI_none (by omega), gI_succ (by omega)] at hp7
            simp only [Option.isSome_none, Bool.false_eq_true, if_false] at hp7
            have hio := HI.out
            refine ⟨⟨i + 1, rfl, by omega, by omega, Lib.hid ⟨⟨⟨(G7.out.block gp hio.1.1.lt (by simp; omega)).trans hio.1.1.1, hio.1.1.2⟩, (G7.out.block _ (blk_lt hio.1.2) (by simp; omega)).trans hio.1.2⟩, pw_below_grown hio.2.1 _ hio.2.1.size G7.out (by intro k hk; injection hk with hk; omega), ?_⟩⟩, by simp [intOf]; omega⟩
            rw [show (i + 1 - (F + 2)).toNat = (i - (F + 2)).toNat + 1 by omega]
            exact hp7
          · have hit' : i = t := by omega
            have hfin : Hid (Sit w gp w2.heap.size F (b + 1) B R M wi) := Lib.hid ⟨⟨nx2, run2, win2, en2, HV.out, HST.out, HI.out.1.1, by
              have h1 := HI.out.2.2
              rw [hit'] at h1
              rw [H9.out, EN.out]
              exact h1⟩, HI.out.2.1, hmw⟩
            clear hit'
            go_wp2_with fail
            exact ⟨⟨b + 1, rfl, by omega, by omega, hfin⟩, by simp [intOf]; omega⟩
    · have hbw := HS.out.b
      by_cases h1 : b < B
      · have h2 : ¬ b < F + max 0 nn % 400 := fun h => hlt ⟨h1, h⟩
        clear hlt
        go_wp2_with fail
        go_ret
        exact ⟨rfl, hbw⟩
      · clear hlt
        go_wp2_with fail
        go_ret
        exact ⟨rfl, hbw⟩
theorem once_law {W : World} (x0 x1 x2 fr nn : Int) (h0 : IntKind.has .i64 x0) (h1 : IntKind.has .i64 x1) (h2 : IntKind.has .i64 x2) (h3 : (Lit.int .i64 fr).wf = true) (h4 : (Lit.int .i64 nn).wf = true) (hL : Laid W) (w : World) (hw : w = W) :
    Calls Tryd.prog 4 #[.agg #[.int .i64 x0, .int .i64 x1, .int .i64 x2], .int .i64 fr, .int .i64 nn] w fun e w' => e = .returned (.bool true) ∧ Below w.heap.size w w' := by
  subst hw
  exact once_calls x0 x1 x2 fr nn w hL
end Once
end Go.Proofs.YtfbibiiiepgdaaaDoor
