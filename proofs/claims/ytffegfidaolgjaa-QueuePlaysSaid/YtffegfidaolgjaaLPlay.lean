/- Queue: the walk of QueuePlays. -/
import Derived.Test.YtffegfidaolgjaaQSame
set_option linter.unusedVariables false
set_option linter.unusedSimpArgs false
namespace Go.Proofs.Ytffegfidaolgjaa
open Go.RowKit
attribute [local go_sem high] eq44
theorem IsQ.kt {w w' : World} {base b g g2 : Nat} {v : Value} {s : QS} (h : IsQ w base g v s) (k : Kt 44 b g2 w w') (hne : g ≠ g2) {cs : Array Value} (hg2 : w.heap[g2]? = some (.cells cs 51 (0, 0))) : IsQ w' base g v s :=
  ⟨k.keep h.blk hne (by decide), owns_blk h.row (fun i hi => by
    obtain ⟨_, cs', h2⟩ := h.row.blk hi
    refine (k.keep h2 (fun e => ?_) (by decide)).trans h2.symm
    rw [e, hg2] at h2
    simp at h2)⟩
theorem IsR.kp {w w' : World} {base b g g2 : Nat} {v : Value} {s : QS} (h : IsR w base g2 v s) (k : Kp b g w w') (hne : g2 ≠ g) {cs : Array Value} (hg : w.heap[g]? = some (.cells cs 65 (0, 0))) : IsR w' base g2 v s :=
  ⟨k.keep h.blk hne (by decide), owns_blk h.row (fun i hi => by
    obtain ⟨_, cs', h2⟩ := h.row.blk hi
    refine (k.keep h2 (fun e => ?_) (by decide)).trans h2.symm
    rw [e, hg] at h2
    have := (Obj.cells.inj (Option.some.inj h2)).2.1
    exact absurd this (by decide))⟩
set_option maxHeartbeats 8000000 in
set_option maxRecDepth 100000 in
theorem lawPlayW (most : Int) (A : Option Addr) (c : Nat) (l : List Act) (hm : (Lit.int .i64 most).wf = true) (hn : l.length ≤ c) (w : World) (hC : AC w A l) :
    Calls Try.prog 5 #[.int .i64 most, .slice A l.length c] w fun e w' => e = .returned (.bool true) ∧ Bel w w' := by
  have hsl : ∀ W, (Instr.slice 37 (.slice A l.length c) none (some (.int .i64 (min (l.length : Int) 60))) none).run Try.prog W = .ok (.slice A (min 60 l.length) c) W := fun W => sl37 60 (by decide) A c l.length hn W
  obtain ⟨q, hq⟩ : ∃ q, q = min 60 l.length := ⟨_, rfl⟩
  rw [← hq] at hsl
  have hq1 : q ≤ 60 := by omega
  have hq2 : q ≤ l.length := by omega
  clear hq
  have HC := Lib.hid hC
  have KN := Lib.hid (newQ most)
  have KNR := Lib.hid (newR most)
  have HNEW := Lib.hid (rel_new most)
  have KP := Lib.hid (fun w1 g v s key d hs hl hd hc hsm hb h => putQ w1 w.heap.size g v s key d hs hl hd hc hsm hb h)
  have KT := Lib.hid (fun w1 g v s key hs hl hb h => takeQ2 w1 w.heap.size g v s key hs hl hb h)
  have KG := Lib.hid (fun w1 g v s key hs hl h => getQ w1 w.heap.size g v s key hs hl h)
  have KRP := Lib.hid (fun w1 g v s key d hl hd hc hsm hb h => putR' w1 w.heap.size g v s key d hl hd hc hsm hb h)
  have KRT := Lib.hid (fun w1 g v s key h hl hb => takeR w1 w.heap.size g v s key h hl hb)
  have KRF := Lib.hid (fun w1 g v s key hl h => findR w1 w.heap.size g v s key hl h)
  have KSM := Lib.hid (fun w1 g g2 v v2 s r hr h h2 => sameQ w1 w.heap.size g w.heap.size g2 v v2 s r hr h h2)
  have KS := Lib.hid (fun d o w => secB d o w)
  have ZS := Lib.hid (fun d o => secV_size d o)
  have K8 := Lib.hid wakesQ
  clear hC hm
  generalize hnl : l.length = n at *
  have HNL := Lib.hid hnl
  clear hnl
  go_enter Try.func5, Try.ntmps5
  go_wp2_with fail
  refine (KN.out _).mono ?_
  rintro e w1 ⟨rfl, hb1, hlt1, hI⟩
  have hI0 := hI w.heap.size
  obtain ⟨g, hg⟩ : ∃ g, g = w.heap.size := ⟨_, rfl⟩
  rw [← hg] at hlt1 ⊢
  have HI1 : Hid (IsQ w1 w.heap.size g (.slice none 0 0) ⟨max 1 (min most 256), 0, []⟩) := Lib.hid (hg ▸ hI0)
  have HB1 := Lib.hid hb1
  have HG := Lib.hid hg
  clear hb1 hI hI0 KN hg
  go_wp2_with fail
  refine (KNR.out _).mono ?_
  rintro e w2 ⟨rfl, hb2, hlt2, hJ⟩
  have hJ0 := hJ w.heap.size
  obtain ⟨g2, hg2⟩ : ∃ g2, g2 = w1.heap.size := ⟨_, rfl⟩
  rw [← hg2] at hlt2 ⊢
  have HI2 : Hid (IsR w2 w.heap.size g2 (.slice none 0 0) ⟨max 1 (min most 256), 0, []⟩) := Lib.hid (hg2 ▸ hJ0)
  have HNE : Hid (g ≠ g2 ∧ w.heap.size ≤ g ∧ w.heap.size ≤ g2) := Lib.hid ⟨by omega, by have := HG.out; omega, by have := HB1.out.size; omega⟩
  have HB2 := Lib.hid (HB1.out.trans hb2)
  have HI1' := Lib.hid (HI1.out.bel hb2)
  clear hb2 hJ hJ0 KNR hg2 HI1 HB1 hlt1 hlt2
  go_wp2_with fail
  refine (K8.out _).mono ?_
  rintro e w3 ⟨rfl, hb3⟩
  have HX3 : Hid (∃ v v2 s r, IsQ w3 w.heap.size g v s ∧ IsR w3 w.heap.size g2 v2 r ∧ Rel s r ∧ s.clock ≤ (0 : Nat) ∧ Bel w w3) := Lib.hid ⟨_, _, _, _, HI1'.out.bel hb3, HI2.out.bel hb3, HNEW.out, Int.le_refl _, HB2.out.trans hb3⟩
  clear hb3 HI1' HI2 HNEW HB2 K8
  go_wp2_with fail
  go_loopw [28] (fun v28 wr => ∃ (k : Nat), v28 = .int .i64 k ∧ k ≤ q ∧ Hid (∃ v v2 s r, IsQ wr w.heap.size g v s ∧ IsR wr w.heap.size g2 v2 r ∧ Rel s r ∧ s.clock ≤ k ∧ Bel w wr)) (fun v28 _ => q - (intOf v28).toNat)
  case atStart => exact ⟨0, rfl, by omega, HX3⟩
  case round =>
    obtain ⟨wi, rfl⟩ : ∃ wi : World, wi = wr := ⟨_, rfl⟩
    obtain ⟨k, rfl, hk, HI⟩ := hrel
    obtain ⟨v, v2, s, r, h1, h2, hrel, hck, hbw⟩ := HI.out
    have H1 := Lib.hid h1
    have H2 := Lib.hid h2
    have HREL := Lib.hid hrel
    have HCK := Lib.hid hck
    have HBw := Lib.hid hbw
    clear h1 h2 hrel hck hbw HI HX3
    by_cases hlt : k < q
    · obtain ⟨ad, rfl, z0, z1, z2, z3, _, _⟩ := HC.out k (by rw [HNL.out]; omega)
      have z0 := cellB HBw.out z0
      have z1 := cellB HBw.out z1
      have z2 := cellB HBw.out z2
      have z3 := cellB HBw.out z3
      generalize actAt l k = x at *
      obtain ⟨x0, x1, x2, x3⟩ := x
      simp only [] at z0 z1 z2 z3
      have hlt' : decide ((k : Int) < q) = true := by simp; omega
      cases x3
      · go_wp2_with fail
        refine wp_gen (fun W => Bel wi W ∧ W.heap[wi.heap.size]? = some (.cells #[.int .i64 x0, .int .u8 x1, .bool x2, .bool false] 23 (0, 0))) ⟨Bel.alloc _ _, heap_alloc_new _ _⟩ ?_
        rintro W ⟨hbW, hxW⟩
        obtain ⟨bx, hbx⟩ : ∃ bx, bx = wi.heap.size := ⟨_, rfl⟩
        rw [← hbx] at hxW ⊢
        have hxm : bx ≠ g ∧ bx ≠ g2 := by
          have h1 := blk_lt H1.out.blk
          have h2 := blk_lt H2.out.blk
          omega
        have HXM := Lib.hid hxm
        have HW := Lib.hid (And.intro (H1.out.bel hbW) (And.intro (H2.out.bel hbW) (HBw.out.trans hbW)))
        clear hbx hxm z0 z1 z2 z3 hbW H1 H2 HBw
        have KSx := Lib.hid (KS.out x1 x2)
        have hzd : (secV x1 x2).size ≤ 64 := by have := ZS.out x1 x2; rw [this]; split <;> omega
        generalize secV x1 x2 = D at *
        have HZD := Lib.hid hzd
        clear hzd
        have hlen := HREL.out.ok.len'
        have KPx := Lib.hid (fun w' (h : Bel W w') => KP.out w' g v s x0 D HREL.out.ok.up hlen (by have := HZD.out; omega) HREL.out.ok.clock (by have := HCK.out; omega) (by have := h.size; have := HW.out.2.2.size; omega) (HW.out.1.bel h))
        have KRPx := Lib.hid (fun w' (h : IsR w' w.heap.size g2 v2 r) (hz : w.heap.size ≤ w'.heap.size) => KRP.out w' g2 v2 r x0 D (by rw [HREL.out.len]; exact hlen) (by have := HZD.out; omega) (by rw [HREL.out.clock]; exact HREL.out.ok.clock) (by rw [HREL.out.clock]; have := HCK.out; omega) hz h)
        rw [HREL.out.pe] at KRPx
        have HR8 := Lib.hid (rel_put HREL.out x0 D)
        have HCK8 : Hid ((putS s x0 D).clock ≤ (k + 1 : Nat)) := Lib.hid (by have := put_clock s x0 D; have := HCK.out; omega)
        clear HREL HCK hlen
        generalize putE s x0 D = E at *
        generalize hs8 : putS s x0 D = s8 at *
        generalize hr8 : rputS r x0 D = r8 at *
        clear hs8 hr8
        have q0 := fun (wx : World) (h : wx.heap[bx]? = some (.cells #[.int .i64 x0, .int .u8 x1, .bool x2, .bool false] 23 (0, 0))) => blk_cell h 0
        have q1 := fun (wx : World) (h : wx.heap[bx]? = some (.cells #[.int .i64 x0, .int .u8 x1, .bool x2, .bool false] 23 (0, 0))) => blk_cell h 1
        have q2 := fun (wx : World) (h : wx.heap[bx]? = some (.cells #[.int .i64 x0, .int .u8 x1, .bool x2, .bool false] 23 (0, 0))) => blk_cell h 2
        have hkeep := fun (u1 u2 : World) (kk : Kp w.heap.size g u1 u2) (h : u1.heap[bx]? = some (.cells #[.int .i64 x0, .int .u8 x1, .bool x2, .bool false] 23 (0, 0))) => kk.keep h HXM.out.1 (by decide)
        have hkeep2 := fun (u1 u2 : World) (kk : Kt 44 w.heap.size g2 u1 u2) (h : u1.heap[bx]? = some (.cells #[.int .i64 x0, .int .u8 x1, .bool x2, .bool false] 23 (0, 0))) => kk.keep h HXM.out.2 (by decide)
        go_region_held3 (fun w' => w'.heap[bx]? = some (.cells #[.int .i64 x0, .int .u8 x1, .bool x2, .bool false] 23 (0, 0))) (first | assumption | (refine blk_below ?_ (Bel.drew _); assumption) | (refine blk_below (by assumption) (by assumption)) | exact hkeep _ _ (by assumption) (by assumption) | exact hkeep2 _ _ (by assumption) (by assumption)) ((first | (go_at_call 11; (have hmark := hkp2); refine (KSx.out _).mono ?_; rintro e wc3 ⟨rfl, hbc3⟩; have hR3 := ((HW.out.2.1.bel (by first | exact hbc1 | exact Bel.trans (Bel.drew _) hbc1)).kp hkp2 HNE.out.1.symm (HW.out.1.bel (by first | exact hbc1 | exact Bel.trans (Bel.drew _) hbc1)).blk).bel hbc3; have hz3 := (Kp.below' (base := w.heap.size) (HW.out.2.2.trans (by first | exact hbc1 | exact Bel.trans (Bel.drew _) hbc1)) hkp2 HNE.out.2.1).trans hbc3) | (go_at_call 11; refine (KSx.out _).mono ?_; rintro e wc1 ⟨rfl, hbc1⟩) | (go_at_call 10; refine (KPx.out _ (by first | assumption | exact Bel.trans (Bel.drew _) (by assumption))).mono ?_; rintro e wc2 ⟨vq, rfl, hq2, hkp2⟩) | (go_at_call 19; refine (KRPx.out _ hR3 hz3.size).mono ?_; rintro e W8 ⟨vr, rfl, hr4, hkt4⟩)))
        have HQ8 := Lib.hid ((hq2.bel hbc3).kt hkt4 HNE.out.1 hR3.blk)
        have HRR8 := Lib.hid hr4
        have HB8 := Lib.hid (Kt.below' hz3 hkt4 HNE.out.2.2)
        have HX8 : Hid (W8.heap[bx]? = some (.cells #[.int .i64 x0, .int .u8 x1, .bool x2, .bool false] 23 (0, 0))) := Lib.hid (by assumption)
        have c8 := blk_cell HX8.out 0
        clear q0 q1 q2 hkeep hkeep2 hbc1 hq2 hkp2 hmark hbc3 hR3 hz3 hr4 hkt4 KRPx KPx KSx HW
        go_wp2_with fail
        clear c8
        -- the tail: what is had
        have KGx := Lib.hid (KG.out W8 g _ (s8) x0 HR8.out.ok.up (by have := HR8.out.ok.len'; omega) HQ8.out)
        have KFx := Lib.hid (fun w1 (hb : Bel W8 w1) => KRF.out w1 g2 _ (r8) x0 (by rw [HR8.out.len]; have := HR8.out.ok.len'; omega) (HRR8.out.bel hb))
        have KSx := Lib.hid (fun w1 (hb : Bel W8 w1) => KSM.out w1 g g2 _ _ (s8) (r8) HR8.out (HQ8.out.bel hb) (HRR8.out.bel hb))
        have hff := rfind_iff (r8) x0
        rw [HR8.out.rh] at hff
        cases hh : has (s8) x0
        · rw [hh] at KGx hff
          simp only [Bool.false_eq_true, if_false] at KGx
          have HFN := Lib.hid (And.intro HQ8.out (And.intro HRR8.out (And.intro HR8.out (And.intro HCK8.out HB8.out))))
          clear hh HQ8 HRR8 HR8 HCK8 HB8
          generalize (s8) = s9 at *
          generalize (r8) = r9 at *
          refine KGx.out.mono ?_
          rintro e w9 ⟨rfl, hb9⟩
          have c0 := blk_cell (blk_below HX8.out hb9) 0
          have KFy := Lib.hid (KFx.out w9 hb9)
          have KSy := Lib.hid (KSx.out w9 hb9)
          have HB9 := Lib.hid hb9
          clear hb9 KGx KFx KSx HX8
          generalize rfind r9 x0 = F at *
          have hff2 : decide (0 ≤ F) = false := hff
          go_wp2_with fail
          refine KFy.out.mono ?_
          rintro e w10 ⟨rfl, rfl⟩
          go_wp2_with fail
          refine KSy.out.mono ?_
          rintro e w11 ⟨rfl, hb11⟩
          have hbb := HB9.out.trans hb11
          have hfin : Hid (∃ v v2 s r, IsQ w11 w.heap.size g v s ∧ IsR w11 w.heap.size g2 v2 r ∧ Rel s r ∧ s.clock ≤ (k + 1 : Nat) ∧ Bel w w11) := Lib.hid ⟨_, _, _, _, HFN.out.1.bel hbb, HFN.out.2.1.bel hbb, HFN.out.2.2.1, HFN.out.2.2.2.1, HFN.out.2.2.2.2.trans hbb⟩
          clear hbb hb11 HFN KSy KFy c0 hff hff2
          go_wp2_with fail
          exact ⟨⟨k + 1, by congr 1, by omega, hfin⟩, by simp [intOf]; omega⟩
        · rw [hh] at KGx hff
          simp only [if_true] at KGx
          rw [← HR8.out.at hh] at KGx
          have hlt8 := rhas_lt (r := r8) (key := x0) (by rw [HR8.out.rh, hh])
          have hF : rfind (r8) x0 = (rpos (r8).rs x0 : Int) := by unfold rfind; rw [if_pos hlt8]
          rw [hF] at KFx hff
          have HCE := Lib.hid (fun w1 (hb : Bel W8 w1) => show ∃ ad c n, w1.cell? ⟨g2, 1, none⟩ = some (.slice (some ad) n c) ∧ rpos (r8).rs x0 < n ∧ w1.cell? ⟨(ad.add (rpos (r8).rs x0 * 3)).block, (ad.add (rpos (r8).rs x0 * 3)).off + 1, none⟩ = some (.string (nth (r8).rs (rpos (r8).rs x0)).f1) from by
            have hx := HRR8.out.bel hb
            obtain ⟨A9, c9, e9, _, hR9⟩ := readsR hx.row
            obtain ⟨ad9, rfl, _, y1, _⟩ := hR9 _ hlt8
            have hbk := blk_cell hx.blk 1
            rw [e9] at hbk
            exact ⟨ad9, c9, _, hbk, hlt8, y1⟩)
          have HFN := Lib.hid (And.intro HQ8.out (And.intro HRR8.out (And.intro HR8.out (And.intro HCK8.out HB8.out))))
          clear hh HQ8 HRR8 HR8 HCK8 HB8 hF hlt8
          generalize nth (r8).rs (rpos (r8).rs x0) = y at *
          generalize rpos (r8).rs x0 = i at *
          obtain ⟨y0, y1, y2⟩ := y
          simp only [] at KGx HCE
          generalize (s8) = s9 at *
          generalize (r8) = r9 at *
          refine KGx.out.mono ?_
          rintro e w9 ⟨rfl, hb9⟩
          have c0 := blk_cell (blk_below HX8.out hb9) 0
          obtain ⟨ad9, c9, n9, d1, hin9, d2⟩ := HCE.out w9 hb9
          have KFy := Lib.hid (KFx.out w9 hb9)
          have KSy := Lib.hid (KSx.out w9 hb9)
          have HB9 := Lib.hid hb9
          clear hb9 KGx KFx KSx HX8 HCE
          have hff2 : decide (0 ≤ (i : Int)) = true := by simp
          go_wp2_with fail
          refine KFy.out.mono ?_
          rintro e w10 ⟨rfl, rfl⟩
          go_wp2_with fail
          refine KSy.out.mono ?_
          rintro e w11 ⟨rfl, hb11⟩
          have hbb := HB9.out.trans hb11
          have hfin : Hid (∃ v v2 s r, IsQ w11 w.heap.size g v s ∧ IsR w11 w.heap.size g2 v2 r ∧ Rel s r ∧ s.clock ≤ (k + 1 : Nat) ∧ Bel w w11) := Lib.hid ⟨_, _, _, _, HFN.out.1.bel hbb, HFN.out.2.1.bel hbb, HFN.out.2.2.1, HFN.out.2.2.2.1, HFN.out.2.2.2.2.trans hbb⟩
          clear hbb hb11 HFN KSy KFy c0 hff hff2 d1 d2
          go_wp2_with fail
          exact ⟨⟨k + 1, by congr 1, by omega, hfin⟩, by simp [intOf]; omega⟩

      · go_wp2_with fail
        refine calls_gen (fun W => Bel wi W ∧ W.heap[wi.heap.size]? = some (.cells #[.int .i64 x0, .int .u8 x1, .bool x2, .bool true] 23 (0, 0))) ⟨Bel.alloc _ _, heap_alloc_new _ _⟩ ?_
        rintro W ⟨hbW, hxW⟩
        obtain ⟨bx, hbx⟩ : ∃ bx, bx = wi.heap.size := ⟨_, rfl⟩
        rw [← hbx] at hxW ⊢
        have hxm : bx ≠ g ∧ bx ≠ g2 := by
          have h1 := blk_lt H1.out.blk
          have h2 := blk_lt H2.out.blk
          omega
        have HW := Lib.hid (And.intro (H1.out.bel hbW) (And.intro (H2.out.bel hbW) (HBw.out.trans hbW)))
        have KTx := Lib.hid (KT.out W g v s x0 HREL.out.ok.up HREL.out.ok.len' HW.out.2.2.size HW.out.1)
        have HRTV := Lib.hid (rel_takeV HREL.out x0)
        clear hbx z0 z1 z2 z3 hbW H1 H2 HBw
        refine KTx.out.mono ?_
        rintro e w5 ⟨v5, rfl, h5, hk5, ho5⟩
        have hx5 := hk5.keep hxW hxm.1 (by decide)
        have hr5 := HW.out.2.1.kp hk5 HNE.out.1.symm HW.out.1.blk
        have hb5 := Kp.below' (base := w.heap.size) HW.out.2.2 hk5 HNE.out.2.1
        have c0 := blk_cell hx5 0
        have d0 := fun o => cellB (Bel.alloc w5 o) c0
        have HXM := Lib.hid hxm
        have H5 := Lib.hid (And.intro h5 (And.intro hr5 (And.intro hb5 hx5)))
        clear h5 hk5 ho5 hx5 hr5 hb5 hxW hxm KTx HW
        have hel : elV (takeV s x0) = .agg #[.int .i64 (takeV s x0).f0, .string (takeV s x0).f1, .int .i64 (takeV s x0).f2] := rfl
        rw [hel]
        clear hel
        generalize htv : takeV s x0 = tv at *
        obtain ⟨t0, t1, t2⟩ := tv
        simp only []
        have hhb : rhas r x0 = has s x0 := HREL.out.rh x0
        have HHB := Lib.hid hhb
        clear htv hhb
        generalize has s x0 = tb at *
        go_wp2_with fail
        refine calls_gen (fun W => Bel w5 W ∧ W.heap[w5.heap.size]? = some (.cells #[.int .i64 t0, .string t1, .int .i64 t2] 33 (0, 0))) ⟨Bel.alloc _ _, heap_alloc_new _ _⟩ ?_
        rintro W6 ⟨hb6, hx6⟩
        have KRTx := Lib.hid (KRT.out W6 g2 v2 r x0 (H5.out.2.1.bel hb6) (by rw [HREL.out.len]; have := HREL.out.ok.len'; omega) (H5.out.2.2.1.trans hb6).size)
        rw [HRTV.out, HHB.out] at KRTx
        have hel : elV (⟨t0, t1, t2⟩ : El) = .agg #[.int .i64 t0, .string t1, .int .i64 t2] := rfl
        rw [hel] at KRTx
        clear hel
        have H6 := Lib.hid (And.intro (H5.out.1.bel hb6) (And.intro (H5.out.2.1.bel hb6) (And.intro (H5.out.2.2.1.trans hb6) (blk_below H5.out.2.2.2 hb6))))
        refine KRTx.out.mono ?_
        rintro e w7 ⟨v7, rfl, h7, hk7⟩
        have hne6 : w5.heap.size ≠ g2 := by have := blk_lt H5.out.2.1.blk; omega
        have hx7 := hk7.keep hx6 hne6 (by decide)
        have hq7 := H6.out.1.kt hk7 HNE.out.1 H6.out.2.1.blk
        have ha7 := hk7.keep H6.out.2.2.2 HXM.out.2 (by decide)
        have hb7 := Kt.below' H6.out.2.2.1 hk7 HNE.out.2.2
        have e0 := fun o => cellB (Bel.alloc w7 o) (blk_cell hx7 0)
        have e1 := fun o => cellB (Bel.alloc w7 o) (blk_cell hx7 1)
        have e2 := fun o => cellB (Bel.alloc w7 o) (blk_cell hx7 2)
        have a0 := fun o => cellB (Bel.alloc w7 o) (blk_cell ha7 0)
        have H7 := Lib.hid (And.intro hq7 (And.intro h7 (And.intro hb7 ha7)))
        clear hb6 hx6 h7 hk7 hx7 hq7 ha7 hb7 hne6 KRTx H5 H6 c0 d0
        go_wp2_with fail
        refine calls_gen (fun W => Bel w7 W) (Bel.alloc _ _) ?_
        rintro W8 hb8
        have HQ8 := Lib.hid (H7.out.1.bel hb8)
        have HRR8 := Lib.hid (H7.out.2.1.bel hb8)
        have HR8 := Lib.hid (rel_take HREL.out x0)
        have HB8 := Lib.hid (H7.out.2.2.1.trans hb8)
        have HX8 := Lib.hid (blk_below H7.out.2.2.2 hb8)
        have HCK8 : Hid ((takeS s x0).clock ≤ (k + 1 : Nat)) := Lib.hid (by rw [take_clock]; have := HCK.out; omega)
        clear hb8 H7 HREL HCK e0 e1 e2 a0 HRTV HHB
        -- the tail: what is had
        have KGx := Lib.hid (KG.out W8 g _ (takeS s x0) x0 HR8.out.ok.up (by have := HR8.out.ok.len'; omega) HQ8.out)
        have KFx := Lib.hid (fun w1 (hb : Bel W8 w1) => KRF.out w1 g2 _ (rtakeS r x0) x0 (by rw [HR8.out.len]; have := HR8.out.ok.len'; omega) (HRR8.out.bel hb))
        have KSx := Lib.hid (fun w1 (hb : Bel W8 w1) => KSM.out w1 g g2 _ _ (takeS s x0) (rtakeS r x0) HR8.out (HQ8.out.bel hb) (HRR8.out.bel hb))
        have hff := rfind_iff (rtakeS r x0) x0
        rw [HR8.out.rh] at hff
        cases hh : has (takeS s x0) x0
        · rw [hh] at KGx hff
          simp only [Bool.false_eq_true, if_false] at KGx
          have HFN := Lib.hid (And.intro HQ8.out (And.intro HRR8.out (And.intro HR8.out (And.intro HCK8.out HB8.out))))
          clear hh HQ8 HRR8 HR8 HCK8 HB8
          generalize (takeS s x0) = s9 at *
          generalize (rtakeS r x0) = r9 at *
          refine KGx.out.mono ?_
          rintro e w9 ⟨rfl, hb9⟩
          have c0 := blk_cell (blk_below HX8.out hb9) 0
          have KFy := Lib.hid (KFx.out w9 hb9)
          have KSy := Lib.hid (KSx.out w9 hb9)
          have HB9 := Lib.hid hb9
          clear hb9 KGx KFx KSx HX8
          generalize rfind r9 x0 = F at *
          have hff2 : decide (0 ≤ F) = false := hff
          go_wp2_with fail
          refine KFy.out.mono ?_
          rintro e w10 ⟨rfl, rfl⟩
          go_wp2_with fail
          refine KSy.out.mono ?_
          rintro e w11 ⟨rfl, hb11⟩
          have hbb := HB9.out.trans hb11
          have hfin : Hid (∃ v v2 s r, IsQ w11 w.heap.size g v s ∧ IsR w11 w.heap.size g2 v2 r ∧ Rel s r ∧ s.clock ≤ (k + 1 : Nat) ∧ Bel w w11) := Lib.hid ⟨_, _, _, _, HFN.out.1.bel hbb, HFN.out.2.1.bel hbb, HFN.out.2.2.1, HFN.out.2.2.2.1, HFN.out.2.2.2.2.trans hbb⟩
          clear hbb hb11 HFN KSy KFy c0 hff hff2
          go_wp2_with fail
          exact ⟨⟨k + 1, by congr 1, by omega, hfin⟩, by simp [intOf]; omega⟩
        · rw [hh] at KGx hff
          simp only [if_true] at KGx
          rw [← HR8.out.at hh] at KGx
          have hlt8 := rhas_lt (r := rtakeS r x0) (key := x0) (by rw [HR8.out.rh, hh])
          have hF : rfind (rtakeS r x0) x0 = (rpos (rtakeS r x0).rs x0 : Int) := by unfold rfind; rw [if_pos hlt8]
          rw [hF] at KFx hff
          have HCE := Lib.hid (fun w1 (hb : Bel W8 w1) => show ∃ ad c n, w1.cell? ⟨g2, 1, none⟩ = some (.slice (some ad) n c) ∧ rpos (rtakeS r x0).rs x0 < n ∧ w1.cell? ⟨(ad.add (rpos (rtakeS r x0).rs x0 * 3)).block, (ad.add (rpos (rtakeS r x0).rs x0 * 3)).off + 1, none⟩ = some (.string (nth (rtakeS r x0).rs (rpos (rtakeS r x0).rs x0)).f1) from by
            have hx := HRR8.out.bel hb
            obtain ⟨A9, c9, e9, _, hR9⟩ := readsR hx.row
            obtain ⟨ad9, rfl, _, y1, _⟩ := hR9 _ hlt8
            have hbk := blk_cell hx.blk 1
            rw [e9] at hbk
            exact ⟨ad9, c9, _, hbk, hlt8, y1⟩)
          have HFN := Lib.hid (And.intro HQ8.out (And.intro HRR8.out (And.intro HR8.out (And.intro HCK8.out HB8.out))))
          clear hh HQ8 HRR8 HR8 HCK8 HB8 hF hlt8
          generalize nth (rtakeS r x0).rs (rpos (rtakeS r x0).rs x0) = y at *
          generalize rpos (rtakeS r x0).rs x0 = i at *
          obtain ⟨y0, y1, y2⟩ := y
          simp only [] at KGx HCE
          generalize (takeS s x0) = s9 at *
          generalize (rtakeS r x0) = r9 at *
          refine KGx.out.mono ?_
          rintro e w9 ⟨rfl, hb9⟩
          have c0 := blk_cell (blk_below HX8.out hb9) 0
          obtain ⟨ad9, c9, n9, d1, hin9, d2⟩ := HCE.out w9 hb9
          have KFy := Lib.hid (KFx.out w9 hb9)
          have KSy := Lib.hid (KSx.out w9 hb9)
          have HB9 := Lib.hid hb9
          clear hb9 KGx KFx KSx HX8 HCE
          have hff2 : decide (0 ≤ (i : Int)) = true := by simp
          go_wp2_with fail
          refine KFy.out.mono ?_
          rintro e w10 ⟨rfl, rfl⟩
          go_wp2_with fail
          refine KSy.out.mono ?_
          rintro e w11 ⟨rfl, hb11⟩
          have hbb := HB9.out.trans hb11
          have hfin : Hid (∃ v v2 s r, IsQ w11 w.heap.size g v s ∧ IsR w11 w.heap.size g2 v2 r ∧ Rel s r ∧ s.clock ≤ (k + 1 : Nat) ∧ Bel w w11) := Lib.hid ⟨_, _, _, _, HFN.out.1.bel hbb, HFN.out.2.1.bel hbb, HFN.out.2.2.1, HFN.out.2.2.2.1, HFN.out.2.2.2.2.trans hbb⟩
          clear hbb hb11 HFN KSy KFy c0 hff hff2 d1 d2
          go_wp2_with fail
          exact ⟨⟨k + 1, by congr 1, by omega, hfin⟩, by simp [intOf]; omega⟩

    · have hlt' : decide ((k : Int) < q) = false := by simp; omega
      have hfin := HBw.out
      clear H1 H2 HREL HBw
      go_wp2_with fail
      go_ret
      exact ⟨rfl, hfin⟩
end Go.Proofs.Ytffegfidaolgjaa
