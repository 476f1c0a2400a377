/- Lift: the walk of LiftFull. -/
import Derived.Test.YthhigmkheccfpaaWakes
set_option linter.unusedVariables false
set_option linter.unusedSimpArgs false
namespace Go.Proofs.Ythhigmkheccfpaa
open Go.RowKit
theorem keysN (w : World) : Calls Try.prog 20 #[.pointer none] w fun e w' => e = .returned (.slice none 0 0) ∧ Bel w w' := by
  have hn := nil23
  go_enter Try.func20, Try.ntmps20
  go_wp2_with fail
  go_ret
  exact ⟨rfl, Bel.refl _⟩
/-- The first k even keys wait. -/
structure F1 (s : LS) (k : Nat) : Prop where
  ok : Ok s
  len : s.rs.length = k
  added : s.added = k
  lt : ∀ x ∈ s.rs, x.f0 < 2 * (k : Int)
  ev : ∀ x ∈ s.rs, x.f0 % 2 = 0
  all : ∀ j : Nat, j < k → ∃ x ∈ s.rs, x.f0 = 2 * (j : Int)
  wt : ∀ x ∈ s.rs, x.f1 = 0
theorem f1_new : F1 ⟨5, 0, 0, []⟩ 0 := ⟨by have := ok_new 5; exact this, rfl, rfl, by simp, by simp, fun j h => by omega, by simp⟩
theorem f1_step {s : LS} {k : Nat} (h : F1 s k) (hk : k < 256) : addE s (2 * (k : Int)) = 0 ∧ F1 (addS s (2 * (k : Int))) (k + 1) ∧ addE (addS s (2 * (k : Int))) (2 * (k : Int)) = 11 ∧ addS (addS s (2 * (k : Int))) (2 * (k : Int)) = addS s (2 * (k : Int)) := by
  have hh : has s (2 * (k : Int)) = false := (has_false h.ok.up _).2 fun x hx => by have := h.lt x hx; omega
  have he : addE s (2 * (k : Int)) = 0 := addE_of (by omega) (by omega) hh (by rw [h.len]; exact hk)
  have ho := ok_add h.ok (2 * (k : Int))
  have ht := has_add h.ok he
  have h11 : addE (addS s (2 * (k : Int))) (2 * (k : Int)) = 11 := by unfold addE; rw [if_neg (by omega), if_pos ht]
  have hm : ∀ x, x ∈ (addS s (2 * (k : Int))).rs ↔ x ∈ s.rs ∨ x = ⟨2 * (k : Int), 0, s.added⟩ := fun x => by rw [addS_of he]; exact mem_insR s _ x
  refine ⟨he, ⟨ho, ?_, ?_, fun x hx => ?_, fun x hx => ?_, fun j hj => ?_, fun x hx => ?_⟩, h11, addS_no (by rw [h11]; decide)⟩
  · rw [addS_of he]; show (insR s _).length = _; rw [insR_len, h.len]
  · rw [addS_of he]; show s.added + 1 = _; rw [h.added]; omega
  · rcases (hm x).1 hx with hx | rfl
    · have := h.lt x hx; omega
    · simp only []; omega
  · rcases (hm x).1 hx with hx | rfl
    · exact h.ev x hx
    · simp only []; omega
  · by_cases hjk : j = k
    · subst hjk; exact ⟨_, (hm _).2 (.inr rfl), rfl⟩
    · obtain ⟨x, hx, e⟩ := h.all j (by omega); exact ⟨x, (hm x).2 (.inl hx), e⟩
  · rcases (hm x).1 hx with hx | rfl
    · exact h.wt x hx
    · rfl
/-- j have been picked; K isn't there. -/
structure F2 (s : LS) (K : Int) (j : Nat) : Prop where
  ok : Ok s
  len : s.rs.length = 256 - j
  ne : ∀ x ∈ s.rs, x.f0 ≠ K
  wt : ∀ x ∈ s.rs, x.f1 ≤ j
theorem f2_step {s : LS} {K : Int} {j : Nat} (h : F2 s K j) (hj : j < 256) : pickB s = true ∧ pickK s ≠ K ∧ F2 (pickS s) K (j + 1) := by
  have hl := h.len
  refine ⟨by unfold pickB; simp; omega, ?_, ok_pick h.ok, by rw [pick_len h.ok]; omega, fun x hx => ?_, fun x hx => ?_⟩
  · obtain ⟨x, hx, e⟩ := pickK_mem h.ok (by omega)
    rw [← e]; exact h.ne x hx
  · obtain ⟨y, hy, e, _⟩ := mem_pick hx
    rw [e]; exact h.ne y hy
  · obtain ⟨y, hy, _, e, _⟩ := mem_pick hx
    have := h.wt y hy
    rcases e with e | e <;> omega
theorem full_mid {s : LS} (h : F1 s 256) {K : Int} (hK : ∃ j : Nat, j < 256 ∧ K = 2 * (j : Int)) :
    addE s 1 = 10 ∧ addS s 1 = s ∧ has s K = true ∧ has (dropS s K) K = false ∧ dropS (dropS s K) K = dropS s K ∧ addE (dropS s K) 1 = 0 ∧ F2 (addS (dropS s K) 1) K 0 ∧ (dropS s K).added ≤ 1000000 := by
  obtain ⟨j, hj, rfl⟩ := hK
  have hm : ∀ x ∈ (dropS s (2 * (j : Int))).rs, x ∈ s.rs := fun x hx => by
    unfold dropS at hx
    split at hx
    · exact mem_cut hx
    · exact hx
  have h1 : has s 1 = false := (has_false h.ok.up _).2 fun x hx => by have := h.ev x hx; omega
  have e10 : addE s 1 = 10 := by unfold addE; rw [if_neg (by omega), if_neg (by simp [h1]), if_pos (by rw [h.len]; exact Nat.le_refl _)]
  have hK := (has_iff h.ok.up (2 * (j : Int))).2 (h.all j hj)
  have hD := has_drop h.ok (2 * (j : Int))
  have hoD := ok_drop h.ok (2 * (j : Int))
  have hl := drop_len hK
  have hd1 : has (dropS s (2 * (j : Int))) 1 = false := (has_false hoD.up _).2 fun x hx => by have := h.ev x (hm x hx); omega
  have e0 : addE (dropS s (2 * (j : Int))) 1 = 0 := addE_of (by omega) (by omega) hd1 (by rw [hl, h.len]; omega)
  have ha : (dropS s (2 * (j : Int))).added = s.added := by unfold dropS; split <;> rfl
  refine ⟨e10, addS_no (by rw [e10]; decide), hK, hD, by rw [dropS, if_neg (by simp [hD])], e0, ⟨ok_add hoD 1, ?_, fun x hx => ?_, fun x hx => ?_⟩, by rw [ha, h.added]; omega⟩
  · rw [addS_of e0]; show (insR _ _).length = _; rw [insR_len, hl, h.len]
  · rw [addS_of e0] at hx
    rcases (mem_insR _ _ x).1 hx with hx | rfl
    · exact (has_false hoD.up _).1 hD x hx
    · simp only []; omega
  · rw [addS_of e0] at hx
    rcases (mem_insR _ _ x).1 hx with hx | rfl
    · rw [h.wt x (hm x hx)]; exact Int.le_refl 0
    · exact Int.le_refl 0
set_option maxHeartbeats 8000000 in
set_option maxRecDepth 100000 in
theorem lawFullW (key : Int) (w : World) : Calls Try.prog 6 #[.int .i64 key] w fun e w' => e = .returned (.bool true) ∧ Bel w w' := by
  obtain ⟨base, hbase⟩ : ∃ base, base = w.heap.size := ⟨_, rfl⟩
  have HBase := Lib.hid hbase
  clear hbase
  have KN := Lib.hid (newL 5)
  have hm : max (1 : Int) (min 5 65536) = 5 := by decide
  rw [hm] at KN
  clear hm
  have KA := Lib.hid (fun w1 g v s key hok hsm hb h => addL w1 base g v s key hok hsm hb h)
  have KD := Lib.hid (fun w1 g v s key hs hl h => dropL w1 base g v s key hs hl h)
  have KP := Lib.hid (fun w1 g v s hok hsm h => pickL w1 base g v s hok hsm h)
  have KL := Lib.hid (fun w1 g v s h => lenL w1 base g v s h)
  have K1 := Lib.hid addN
  have K2 := Lib.hid pickN
  have K3 := Lib.hid waitedN
  have K4 := Lib.hid dropN
  have K5 := Lib.hid lenN
  have K6 := Lib.hid keysN
  have K7 := Lib.hid headN
  have K8 := Lib.hid wakesL
  obtain ⟨K, hK0⟩ : ∃ K, K = 2 * ((max 0 key) % 256) := ⟨_, rfl⟩
  have hKj : ∃ j : Nat, j < 256 ∧ K = 2 * (j : Int) := ⟨((max 0 key) % 256).toNat, by omega, by omega⟩
  have HK0 : Hid (2 * ((max 0 key) % 256) = K) := Lib.hid hK0.symm
  have HKj := Lib.hid hKj
  clear hKj hK0
  go_enter Try.func6, Try.ntmps6
  go_wp2_with fail
  refine (KN.out _).mono ?_
  rintro e w1 ⟨rfl, hb1, hlt1, hI⟩
  have hI0 := hI base
  obtain ⟨g, hg⟩ : ∃ g, g = w.heap.size := ⟨_, rfl⟩
  rw [← hg] at hI0 hlt1 ⊢
  have HB1 := Lib.hid hb1
  have HI1 := Lib.hid hI0
  have HG := Lib.hid hg
  clear hb1 hI hI0 KN hg
  go_wp2_with fail
  go_loopw [16] (fun v16 wr => ∃ (k : Nat), v16 = .int .i64 k ∧ k ≤ 256 ∧ Hid (∃ v s, IsL wr base g v s ∧ F1 s k ∧ Kp base g w1 wr)) (fun v16 _ => 256 - (intOf v16).toNat)
  case atStart => exact ⟨0, rfl, by omega, Lib.hid ⟨_, _, HI1.out, f1_new, Kp.refl _ _ _⟩⟩
  case round =>
    obtain ⟨wi, rfl⟩ : ∃ wi : World, wi = wr := ⟨_, rfl⟩
    obtain ⟨k, rfl, hk, HI⟩ := hrel
    obtain ⟨v, s, h1, hf, hk1⟩ := HI.out
    have H1 := Lib.hid h1
    have HF := Lib.hid hf
    have HK1 := Lib.hid hk1
    clear h1 hf hk1 HI
    by_cases hlt : k < 256
    · have hw2 : IntKind.i64.wrap (2 * (k : Int)) = 2 * (k : Int) := w64i (by omega) (by omega)
      have HST := Lib.hid (f1_step HF.out hlt)
      have hlt' : decide ((k : Int) < 256) = true := by simp; omega
      go_wp2_with fail
      refine (KA.out _ _ v s (2 * (k : Int)) HF.out.ok (by rw [HF.out.added]; omega) ?_ H1.out).mono ?_
      · have := HB1.out.size; have := HK1.out.size; have := HBase.out; omega
      rintro e w3 ⟨v3, rfl, h3, hk3⟩
      rw [HST.out.1]
      have H3 := Lib.hid h3
      have HK3 := Lib.hid (HK1.out.trans hk3)
      clear h3 hk3 H1 HK1
      go_wp2_with fail
      refine (KA.out _ _ v3 _ (2 * (k : Int)) HST.out.2.1.ok (by rw [HST.out.2.1.added]; omega) ?_ H3.out).mono ?_
      · have := HB1.out.size; have := HK3.out.size; have := HBase.out; omega
      rintro e w4 ⟨v4, rfl, h4, hk4⟩
      rw [HST.out.2.2.1]
      rw [HST.out.2.2.2] at h4
      have hfin : Hid (∃ v s, IsL w4 base g v s ∧ F1 s (k + 1) ∧ Kp base g w1 w4) := Lib.hid ⟨v4, _, h4, HST.out.2.1, HK3.out.trans hk4⟩
      clear h4 hk4 H3 HK3
      go_wp2_with fail
      exact ⟨⟨k + 1, by congr 1, by omega, hfin⟩, by simp [intOf]; omega⟩
    · obtain rfl : k = 256 := by omega
      have HMid := Lib.hid (full_mid HF.out HKj.out)
      go_wp2_with fail
      refine (KA.out _ _ v s 1 HF.out.ok (by rw [HF.out.added]; decide) ?_ H1.out).mono ?_
      · have := HB1.out.size; have := HK1.out.size; have := HBase.out; omega
      rintro e w3 ⟨v3, rfl, h3, hk3⟩
      rw [HMid.out.1]
      rw [HMid.out.2.1] at h3
      have H3 := Lib.hid h3
      have HK3 := Lib.hid (HK1.out.trans hk3)
      clear h3 hk3 H1 HK1
      go_wp2_with fail
      rw [HK0.out]
      refine (KD.out _ _ v3 s K HF.out.ok.up (by rw [HF.out.len]; decide) H3.out).mono ?_
      rintro e w4 ⟨v4, rfl, h4, hk4⟩
      rw [HMid.out.2.2.1]
      have H4 := Lib.hid h4
      have HK4 := Lib.hid (HK3.out.trans hk4)
      clear h4 hk4 H3 HK3
      have HoD := Lib.hid (ok_drop HF.out.ok K)
      go_wp2_with fail
      refine (KD.out _ _ v4 _ K HoD.out.up HoD.out.len H4.out).mono ?_
      rintro e w5 ⟨v5, rfl, h5, hk5⟩
      rw [HMid.out.2.2.2.1]
      rw [HMid.out.2.2.2.2.1] at h5
      have H5 := Lib.hid h5
      have HK5 := Lib.hid (HK4.out.trans hk5)
      clear h5 hk5 H4 HK4
      go_wp2_with fail
      refine (KA.out _ _ v5 _ 1 HoD.out HMid.out.2.2.2.2.2.2.2 ?_ H5.out).mono ?_
      · have := HB1.out.size; have := HK5.out.size; have := HBase.out; omega
      rintro e w6 ⟨v6, rfl, h6, hk6⟩
      rw [HMid.out.2.2.2.2.2.1]
      have HX6 : Hid (∃ v s, IsL w6 base g v s ∧ F2 s K 0 ∧ Kp base g w1 w6) := Lib.hid ⟨v6, _, h6, HMid.out.2.2.2.2.2.2.1, HK5.out.trans hk6⟩
      clear h6 hk6 H5 HK5 HMid HoD HF
      go_wp2_with fail
      go_loopw [53] (fun v53 wr => ∃ (j : Nat), v53 = .int .i64 j ∧ j ≤ 256 ∧ Hid (∃ v s, IsL wr base g v s ∧ F2 s K j ∧ Kp base g w1 wr)) (fun v53 _ => 256 - (intOf v53).toNat)
      case atStart => exact ⟨0, rfl, by omega, HX6⟩
      case round =>
        obtain ⟨wj, rfl⟩ : ∃ wj : World, wj = wr := ⟨_, rfl⟩
        obtain ⟨j, rfl, hj, HI⟩ := hrel
        obtain ⟨v, s, h1, hf, hk1⟩ := HI.out
        have H1 := Lib.hid h1
        have HF := Lib.hid hf
        have HK1 := Lib.hid hk1
        clear h1 hf hk1 HI HX6
        by_cases hlt : j < 256
        · have HST := Lib.hid (f2_step HF.out hlt)
          have hlt' : decide ((j : Int) < 256) = true := by simp; omega
          go_wp2_with fail
          refine (KP.out _ _ v s HF.out.ok (fun x hx => by have := HF.out.wt x hx; omega) H1.out).mono ?_
          rintro e w7 ⟨v7, rfl, h7, hk7⟩
          rw [HST.out.1]
          have hne : (pickK s == K) = false := by simpa using HST.out.2.1
          have hne2 : decide (pickK s = K) = false := by simpa using HST.out.2.1
          have hfin : Hid (∃ v s, IsL w7 base g v s ∧ F2 s K (j + 1) ∧ Kp base g w1 w7) := Lib.hid ⟨v7, _, h7, HST.out.2.2, HK1.out.trans hk7⟩
          clear h7 hk7 H1 HK1 HST
          generalize pickK s = pk at *
          go_wp2_with fail
          exact ⟨⟨j + 1, by congr 1, by omega, hfin⟩, by simp [intOf]; omega⟩
        · obtain rfl : j = 256 := by omega
          have hl0 : s.rs.length = 0 := HF.out.len
          have KL0 : Hid (∀ w1, IsL w1 base g v s → Calls Try.prog 10 #[PT g] w1 fun e w' => e = .returned (.int .i64 0) ∧ Bel w1 w') := Lib.hid (fun w1 h => by
            have := KL.out w1 g v s h
            rw [hl0] at this
            exact this)
          have HKA := Lib.hid HK1.out
          clear hl0 HK1
          go_wp2_with fail
          refine (K2.out _).mono ?_
          rintro e u1 ⟨rfl, hu1⟩
          have HU1 := Lib.hid hu1
          clear hu1
          go_wp2_with fail
          refine (K3.out _ _).mono ?_
          rintro e u2 ⟨rfl, hu2⟩
          have HU2 := Lib.hid (HU1.out.trans hu2)
          clear hu2 HU1
          go_wp2_with fail
          refine (K8.out _).mono ?_
          rintro e u3 ⟨rfl, hu3⟩
          have HU3 := Lib.hid (HU2.out.trans hu3)
          clear hu3 HU2
          go_wp2_with fail
          refine (KL0.out _ (H1.out.bel HU3.out)).mono ?_
          rintro e u4 ⟨rfl, hu4⟩
          have HU4 := Lib.hid (HU3.out.trans hu4)
          clear hu4 HU3
          go_wp2_with fail
          refine (K1.out _ _).mono ?_
          rintro e u5 ⟨rfl, hu5⟩
          have HU5 := Lib.hid (HU4.out.trans hu5)
          clear hu5 HU4
          go_wp2_with fail
          refine (K4.out _ _).mono ?_
          rintro e u6 ⟨rfl, hu6⟩
          have HU6 := Lib.hid (HU5.out.trans hu6)
          clear hu6 HU5
          go_wp2_with fail
          refine (K5.out _).mono ?_
          rintro e u7 ⟨rfl, hu7⟩
          have HU7 := Lib.hid (HU6.out.trans hu7)
          clear hu7 HU6
          go_wp2_with fail
          refine (K6.out _).mono ?_
          rintro e u8 ⟨rfl, hu8⟩
          have HU8 := Lib.hid (HU7.out.trans hu8)
          clear hu8 HU7
          go_wp2_with fail
          refine (K7.out _).mono ?_
          rintro e u9 ⟨rfl, hu9⟩
          have hfin : Bel w u9 := by
            have h := HKA.out.trans (Kp.of_bel (HU8.out.trans hu9))
            rw [HBase.out] at h
            exact Kp.below' (base := base) HB1.out h (by have := HG.out; omega)
          clear hu9 HU8 H1
          go_wp2_with fail
          go_ret
          exact ⟨rfl, hfin⟩
end Go.Proofs.Ythhigmkheccfpaa
