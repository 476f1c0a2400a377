/- AheadServes, the walk. -/
import Derived.Test.YtfbibiiiepgdaaaDoorRuns
import Derived.Carry
import Derived.Deep.QuietTactic
import Derived.BigQuiet
set_option linter.unusedVariables false
set_option linter.unusedSimpArgs false
namespace Go.Proofs.YtfbibiiiepgdaaaDoor
open Go.RowKit Go.Proofs.YtfbibiiiepgdaaaDoorW.PrintWords Go.Proofs.YtfbibiiiepgdaaaDoorW.PrintMore
open PAheadPlays
namespace Serves
theorem calls_gen {P : Program} {f : FuncId} {args : Array Value} {R : Ending → World → Prop} {w : World} (Φ : World → Prop) (hΦ : Φ w) (h : ∀ W, Φ W → Calls P f args W R) : Calls P f args w R := h w hΦ
/-- A planner and the map of what was told. -/
structure Sit (w : World) (gp bm : Nat) (F b B R M : Int) (W : World) : Prop where
  st : ∃ nx run win en, Valid B R M nx run win en ∧ StI F b B nx run win en ∧ IsP w W gp B R M nx run win en ∧ BM W bm (gI (F + 2) (max en (F + 2))) (max en (F + 2) - (F + 2)).toNat
  b : Below w.heap.size w W
  m : w.heap.size ≤ bm
set_option maxHeartbeats 8000000 in
set_option maxRecDepth 100000 in
theorem serves_calls (x0 x1 x2 fr : Int) (w : World) (hL : Laid w) :
    Calls Tryd.prog 3 #[.agg #[.int .i64 x0, .int .i64 x1, .int .i64 x2], .int .i64 fr] w fun e w' => e = .returned (.bool true) ∧ Below w.heap.size w w' := by
  have KW := Lib.hid wakesB
  have HL := Lib.hid hL
  clear hL
  obtain ⟨B, hy0⟩ : ∃ y, y = 1 + max 0 x0 % 300 := ⟨_, rfl⟩
  obtain ⟨R, hy1⟩ : ∃ y, y = 1 + max 0 x1 % 32 := ⟨_, rfl⟩
  obtain ⟨M, hy2⟩ : ∃ y, y = 1 + max 0 x2 % 64 := ⟨_, rfl⟩
  have r0 := Int.emod_nonneg (max 0 x0) (show (300 : Int) ≠ 0 by omega)
  have r0' := Int.emod_lt_of_pos (max 0 x0) (show (0 : Int) < 300 by omega)
  have r1 := Int.emod_nonneg (max 0 x1) (show (32 : Int) ≠ 0 by omega)
  have r1' := Int.emod_lt_of_pos (max 0 x1) (show (0 : Int) < 32 by omega)
  have r2 := Int.emod_nonneg (max 0 x2) (show (64 : Int) ≠ 0 by omega)
  have r2' := Int.emod_lt_of_pos (max 0 x2) (show (0 : Int) < 64 by omega)
  have hB1 : 1 ≤ B := by omega
  have hB2 : B ≤ 300 := by omega
  have hOK : Hid (okN B R M) := Lib.hid (by unfold okN; omega)
  have hR : 1 ≤ R ∧ R ≤ 32 := by omega
  have hM : 1 ≤ M ∧ M ≤ 64 := by omega
  have hF0 := Int.emod_nonneg (max 0 fr) (show B ≠ 0 by omega)
  have hF1 := Int.emod_lt_of_pos (max 0 fr) (show 0 < B by omega)
  have hm0 : 0 ≤ max 0 fr := by omega
  have hy0' := hy0.symm
  have hy1' := hy1.symm
  have hy2' := hy2.symm
  clear hy0 hy1 hy2
  have hmm := @run_makeMap Tryd.prog
  have t0 : (max 0 x0).tmod 300 = max 0 x0 % 300 := Int.tmod_eq_emod_of_nonneg (by omega)
  have t1 : (max 0 x1).tmod 32 = max 0 x1 % 32 := Int.tmod_eq_emod_of_nonneg (by omega)
  have t2 : (max 0 x2).tmod 64 = max 0 x2 % 64 := Int.tmod_eq_emod_of_nonneg (by omega)
  have s0 : IntKind.i64.wrap (1 + max 0 x0 % 300) = B := by rw [IntWalk.i64_in _ (by omega)]; exact hy0'
  have s1 : IntKind.i64.wrap (1 + max 0 x1 % 32) = R := by rw [IntWalk.i64_in _ (by omega)]; exact hy1'
  have s2 : IntKind.i64.wrap (1 + max 0 x2 % 64) = M := by rw [IntWalk.i64_in _ (by omega)]; exact hy2'
  go_enter Tryd.func3, Tryd.ntmps3
  go_wp2_with fail
  go_quiet (fail)
  clear t0 t1 t2 s0 s1 s2
  go_wp2_with fail
  refine calls_gen (fun W => Below w.heap.size w W) (pw_below_drewN ((Below.refl _ _).alloc (Nat.le_refl _) _) _) ?_
  intro W0 hb0
  refine (new_ok B R M w _ hOK.out (HL.out.below hb0) hb0).mono ?_
  rintro e w1 ⟨gp, rfl, hg1, hi1, hb1⟩
  have I1 := Lib.hid hi1
  have B1 := Lib.hid (below_then hb0 hb0.size hb1)
  clear hi1 hb1 hg1 hb0
  go_wp2_with fail
  refine (KW.out _ (HL.out.below B1.out)).mono ?_
  rintro e w2 ⟨rfl, hb2⟩
  have I2 := Lib.hid (I1.out.below hb2)
  have B2 := Lib.hid (below_then B1.out B1.out.size hb2)
  have hgp : gp < w2.heap.size := I2.out.lt
  clear hb2 I1 B1
  go_wp2_with fail
  generalize max 0 fr % B = F at *
  refine wp_gen (Sit w gp w2.heap.size F F B R M) ⟨⟨-1, 0, 0, 0, by constructor <;> omega, .inl ⟨rfl, rfl, rfl, rfl, rfl⟩, I2.out.alloc _, by rw [show max 0 (F + 2) = F + 2 by omega, gI_empty, Int.sub_self]; exact TMap.made _⟩, B2.out.alloc B2.out.size _, B2.out.size⟩ ?_
  intro W1 hS1
  have H1 := Lib.hid hS1
  clear hS1 hy0' hy1' hy2' r0 r0' r1 r1' r2 r2' hmm hm0
  go_loopw [11] (fun v11 wr => ∃ (b : Int), v11 = .int .i64 b ∧ F ≤ b ∧ b ≤ B ∧ Hid (Sit w gp w2.heap.size F b B R M wr)) (fun v11 _ => (B - intOf v11).toNat)
  case atStart => exact ⟨F, rfl, by omega, by omega, H1⟩
  case round =>
    obtain ⟨wo, rfl⟩ : ∃ wo : World, wo = wr := ⟨_, rfl⟩
    obtain ⟨b, rfl, b0, b1, HS⟩ := hrel
    clear H1
    by_cases hlt : b < B
    · obtain ⟨⟨nx, run, win, en, hv, hst, hip, hbm⟩, hbw, hmw⟩ := HS.out
      have hwfb : (Lit.int .i64 b).wf = true := WalkArith.wf_i64 (by omega)
      have hlook := BM.look hbm b hwfb
      have hl1 : F + 1 < b → (Instr.lookup 28 (.map (some w2.heap.size)) (.int .i64 b) false).run Tryd.prog wo = .ok (.bool true) wo := by
        intro hfb
        have : gI (F + 2) (max en (F + 2)) b = some true := gI_some (by
          rcases hst with h | h | h <;> omega)
        rw [this] at hlook
        exact hlook
      clear hlook
      have hstep := step_note (by omega) hlt hv hst
      have hv2 := valid_note hv b
      have hnote := noteP (w0 := w) b hv gp wo hip hbw
      generalize noteF B R M nx run win en b = r at *
      obtain ⟨⟨f, t, ok⟩, nx2, run2, win2, en2⟩ := r
      have HN := Lib.hid hnote
      have HV := Lib.hid hv2
      have HBM := Lib.hid hbm
      have hbmlt := TMap.lt hbm
      have hft : f ≤ t ∧ max en (F + 2) + (t - f) = max en2 (F + 2) ∧ (f < t → f = max en (F + 2)) ∧ 0 ≤ f ∧ t ≤ 300 := by
        rcases hstep.2 with ⟨hr, hmx⟩ | ⟨f', t', hr, hf, hft, htB, hbf, hlen, hen⟩
        · simp at hr hmx
          omega
        · simp at hr hen
          omega
      have HST := Lib.hid hstep.1
      obtain ⟨ht1, ht2, ht3, ht4, ht5⟩ := hft
      have E2 := Lib.hid ht2
      have E3 := Lib.hid ht3
      have he0 : F + 2 ≤ max en (F + 2) := by omega
      clear hnote hstep hv2 hbm hv hst hip hbw ht2 ht3
      generalize max en (F + 2) = e' at *
      generalize h9 : max en2 (F + 2) = e'' at E2
      have H9 := Lib.hid h9
      clear h9
      by_cases hc : F + 1 < b
      all_goals
        first
          | (have hl2 := hl1 hc; have hc' : decide (F + 1 < b) = true := by simpa using hc)
          | (have hc' : decide (F + 1 < b) = false := by simpa using hc)
        clear hl1
        go_wp2_with fail
        refine HN.out.mono ?_
        rintro e w3 ⟨rfl, hi3, hb3, hk3⟩
        have hbm3 : BM w3 w2.heap.size (gI (F + 2) e') (e' - (F + 2)).toNat := TMap.keep HBM.out (hk3.2 _ hbmlt (by omega) (by simp))
        have HA := Lib.hid hi3
        have HB3 := Lib.hid hb3
        have HM3 := Lib.hid hbm3
        have hw23 := TMap.lt hbm3
        clear hi3 hb3 hk3 hbm3
        go_wp2_with fail
        refine wp_gen (fun W => (IsP w W gp B R M nx2 run2 win2 en2 ∧ W.heap[w3.heap.size]? = some (.cells #[.int .i64 f, .int .i64 t] 30 (0, 0))) ∧ Below w.heap.size w W ∧ BM W w2.heap.size (gI (F + 2) e') (e' - (F + 2)).toNat) ⟨⟨HA.out.alloc _, heap_alloc_new _ _⟩, HB3.out.alloc HB3.out.size _, TMap.keep HM3.out (Below.heap_alloc _ _ _ hw23)⟩ ?_
        rintro W4 ⟨hi4, hb4, hm4⟩
        have HB4 := Lib.hid hb4
        have HM4 := Lib.hid hm4
        have HQ4 := Lib.hid hi4
        clear hi4 hb4 hm4 HA HB3 HM3
        try clear hl2
        go_loopw [14] (fun v14 wr => ∃ (i : Int), v14 = .int .i64 i ∧ f ≤ i ∧ i ≤ t ∧ Hid ((IsP w wr gp B R M nx2 run2 win2 en2 ∧ wr.heap[w3.heap.size]? = some (.cells #[.int .i64 f, .int .i64 t] 30 (0, 0))) ∧ Below w.heap.size w wr ∧ BM wr w2.heap.size (gI (F + 2) (e' + (i - f))) (e' + (i - f) - (F + 2)).toNat)) (fun v14 _ => (t - intOf v14).toNat)
        case atStart => exact ⟨f, rfl, by omega, by omega, Lib.hid ⟨HQ4.out, HB4.out, by rw [Int.sub_self, Int.add_zero]; exact HM4.out⟩⟩
        case round =>
          obtain ⟨wi, rfl⟩ : ∃ wi : World, wi = wr := ⟨_, rfl⟩
          obtain ⟨i, rfl, i0, i1, HI⟩ := hrel
          have c1 := blk_cell HI.out.1.2 1
          clear HB4 HM4 HQ4
          by_cases hit : i < t
          · have ef := E3.out (by omega)
            have hee : e' + (i - f) = i := by omega
            have hm5 := HI.out.2.2
            rw [hee] at hm5
            have HM5 := Lib.hid hm5
            have wfi : (Lit.int .i64 i).wf = true := WalkArith.wf_i64 (by omega)
            have hinj : ∀ x y : Int, Value.int .i64 x = Value.int .i64 y → x = y := fun x y h => by injection h
            have hsz : (i - (F + 2)).toNat < maxLen := by unfold maxLen; omega
            have hEE := Lib.hid hee
            clear ef hee hm5
            go_wp2_with (at_mapUpdate; refine wpList_mapUpdate_T rfl _ _ _ rfl keyed3 Tryd.underlying28 HM5.out hsz hinj rfl i rfl true rfl (.int .i64 i) wfi (Maps.keyOf_int_mk Tryd.underlying3 wfi) (.lit (.bool true)) (plainElem_bool Tryd.underlying4 true) ?_; intro w7 hP7 hg7; have G7 := Lib.hid hg7; have P7 := Lib.hid hP7; clear hg7 hP7)
            have hlo : F + 2 ≤ i := by have := hEE.out; omega
            have hp7 := P7.out
            rw [gI_none (by omega), gI_succ hlo] at hp7
            simp only [Option.isSome_none, Bool.false_eq_true, if_false] at hp7
            have hio := HI.out
            refine ⟨⟨i + 1, rfl, by omega, by omega, Lib.hid ⟨⟨⟨(G7.out.block gp hio.1.1.lt (by simp; omega)).trans hio.1.1.1, hio.1.1.2⟩, (G7.out.block _ (blk_lt hio.1.2) (by simp; omega)).trans hio.1.2⟩, pw_below_grown hio.2.1 _ hio.2.1.size G7.out (by intro k hk; injection hk with hk; omega), ?_⟩⟩, by simp [intOf]; omega⟩
            have h1 := hEE.out
            rw [show e' + (i + 1 - f) = i + 1 by omega, show (i + 1 - (F + 2)).toNat = (i - (F + 2)).toNat + 1 by omega]
            exact hp7
          · have hit' : i = t := by omega
            have hfin : Hid (Sit w gp w2.heap.size F (b + 1) B R M wi) := Lib.hid ⟨⟨nx2, run2, win2, en2, HV.out, HST.out, HI.out.1.1, by
              have h1 := HI.out.2.2
              rw [hit', E2.out] at h1
              rw [H9.out]
              exact h1⟩, HI.out.2.1, hmw⟩
            clear hit'
            go_wp2_with fail
            exact ⟨⟨b + 1, rfl, by omega, by omega, hfin⟩, by simp [intOf]; omega⟩
    · have hbw := HS.out.b
      go_wp2_with fail
      go_ret
      exact ⟨rfl, hbw⟩
theorem serves_law {W : World} (x0 x1 x2 fr : Int) (h0 : IntKind.has .i64 x0) (h1 : IntKind.has .i64 x1) (h2 : IntKind.has .i64 x2) (h3 : (Lit.int .i64 fr).wf = true) (hL : Laid W) (w : World) (hw : w = W) :
    Calls Tryd.prog 3 #[.agg #[.int .i64 x0, .int .i64 x1, .int .i64 x2], .int .i64 fr] w fun e w' => e = .returned (.bool true) ∧ Below w.heap.size w w' := by
  subst hw
  exact serves_calls x0 x1 x2 fr w hL
end Serves
end Go.Proofs.YtfbibiiiepgdaaaDoor
