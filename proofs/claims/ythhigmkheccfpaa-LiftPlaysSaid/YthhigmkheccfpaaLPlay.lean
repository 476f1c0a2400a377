/- Lift: the walk of LiftPlays. -/
import Derived.Test.YthhigmkheccfpaaLSame
import Derived.Test.YthhigmkheccfpaaLBound
set_option linter.unusedVariables false
set_option linter.unusedSimpArgs false
namespace Go.Proofs.Ythhigmkheccfpaa
open Go.RowKit
theorem IsL.kt {w w' : World} {base b g g2 : Nat} {v : Value} {s : LS} (h : IsL w base g v s) (k : Kt 3 b g2 w w') (hne : g ≠ g2) {cs : Array Value} (hg2 : w.heap[g2]? = some (.cells cs 55 (0, 0))) : IsL w' base g v s :=
  ⟨k.keep h.blk hne (by decide), owns_blk h.row (fun i hi => by
    obtain ⟨_, cs', h2⟩ := h.row.blk hi
    refine (k.keep h2 (fun e => ?_) (by decide)).trans h2.symm
    rw [e, hg2] at h2
    have := (Obj.cells.inj (Option.some.inj h2)).2.1
    exact absurd this (by decide))⟩
theorem KZ.kp {w w' : World} {base b g : Nat} {v : Value} {l : List Int} (h : KZ.Row w base v l) (k : Kp b g w w') {cs : Array Value} (hg : w.heap[g]? = some (.cells cs 49 (0, 0))) : KZ.Row w' base v l :=
  owns_blk h (fun i hi => by
    obtain ⟨_, cs', h2⟩ := h.blk hi
    refine (k.keep h2 (fun e => ?_) (by decide)).trans h2.symm
    rw [e, hg] at h2
    have := (Obj.cells.inj (Option.some.inj h2)).2.1
    exact absurd this (by decide))
theorem IsR.kp {w w' : World} {base b g g2 : Nat} {vk vw : Value} {s : LS} (h : IsR w base g2 vk vw s) (k : Kp b g w w') (hne : g2 ≠ g) {cs : Array Value} (hg : w.heap[g]? = some (.cells cs 49 (0, 0))) : IsR w' base g2 vk vw s :=
  ⟨k.keep h.blk hne (by decide), KZ.kp h.keys k hg, KZ.kp h.wait k hg, h.apart⟩
/-- k acts are done. -/
structure BI (s : LS) (k : Nat) : Prop where
  add : s.added ≤ k
  wt : ∀ x ∈ s.rs, x.f1 ≤ k
theorem bi_next {s : LS} {k : Nat} (h : BI s k) : BI s (k + 1) := ⟨by have := h.add; omega, fun x hx => by have := h.wt x hx; omega⟩
theorem bi_add {s : LS} {k : Nat} (h : BI s k) (key : Int) : BI (addS s key) (k + 1) := by
  by_cases he : addE s key = 0
  · rw [addS_of he]
    refine ⟨by have := h.add; simp only []; omega, fun x hx => ?_⟩
    rcases (mem_insR s key x).1 hx with hx | rfl
    · have := h.wt x hx; omega
    · simp only []; omega
  · rw [addS_no he]; exact bi_next h
theorem bi_drop {s : LS} {k : Nat} (h : BI s k) (key : Int) : BI (dropS s key) (k + 1) := by
  unfold dropS
  split
  · exact ⟨by have := h.add; simp only []; omega, fun x hx => by have := h.wt x (mem_cut hx); omega⟩
  · exact bi_next h
theorem bi_pick {s : LS} {k : Nat} (h : BI s k) : BI (pickS s) (k + 1) := by
  refine ⟨by rw [pick_added]; have := h.add; omega, fun x hx => ?_⟩
  obtain ⟨y, hy, _, h1, _⟩ := mem_pick hx
  have := h.wt y hy
  omega
set_option maxHeartbeats 8000000 in
set_option maxRecDepth 100000 in
theorem lawPlayW (age : Int) (A : Option Addr) (c : Nat) (l : List Act) (hm : (Lit.int .i64 age).wf = true) (hn : l.length ≤ c) (w : World) (hC : AC w A l) :
    Calls Try.prog 5 #[.int .i64 age, .slice A l.length c] w fun e w' => e = .returned (.bool true) ∧ Bel w w' := by
  have hsl : ∀ W, (Instr.slice 22 (.slice A l.length c) none (some (.int .i64 (min (l.length : Int) 80))) none).run Try.prog W = .ok (.slice A (min 80 l.length) c) W := fun W => sl22 80 (by decide) A c l.length hn W
  obtain ⟨q, hq⟩ : ∃ q, q = min 80 l.length := ⟨_, rfl⟩
  rw [← hq] at hsl
  have hq1 : q ≤ 80 := by omega
  have hq2 : q ≤ l.length := by omega
  clear hq
  have HC := Lib.hid hC
  have KN := Lib.hid (newL age)
  have KNR := Lib.hid (newR age)
  have HNEW := Lib.hid (rel_new age)
  have KA := Lib.hid (fun w1 g v s key hok hsm hb h => addL w1 w.heap.size g v s key hok hsm hb h)
  have KD := Lib.hid (fun w1 g v s key hs hl h => dropL w1 w.heap.size g v s key hs hl h)
  have KP := Lib.hid (fun w1 g v s hok hsm h => pickL w1 w.heap.size g v s hok hsm h)
  have KW := Lib.hid (fun w1 g v s key hs hl h => waitedL w1 w.heap.size g v s key hs hl h)
  have KRA := Lib.hid (fun w1 g vk vw s key hl hb h => addR w1 w.heap.size g vk vw s key hl hb h)
  have KRD := Lib.hid (fun w1 g vk vw s key hl hb h => dropR w1 w.heap.size g vk vw s key hl hb h)
  have KRP := Lib.hid (fun w1 g vk vw s hl hsm hky hb h => pickR w1 w.heap.size g vk vw s hl hsm hky hb h)
  have KRF := Lib.hid (fun w1 g vk vw s key hl h => findR w1 w.heap.size g vk vw s key hl h)
  have KSM := Lib.hid (fun w1 g g2 v vk vw s r hr h h2 => sameL w1 w.heap.size g w.heap.size g2 v vk vw s r hr h h2)
  have K8 := Lib.hid wakesL
  clear hC hm
  generalize hnl : l.length = n at *
  have HNL := Lib.hid hnl
  clear hnl
  go_enter Try.func5, Try.ntmps5
  go_wp2_with fail
  refine (KN.out _).mono ?_
  rintro e w1 ⟨rfl, hb1, hlt1, hI⟩
  have hI0 := hI w.heap.size
  obtain ⟨g, hg⟩ : ∃ g, g = w.heap.size := ⟨_, rfl⟩
  rw [← hg] at hlt1 ⊢
  have HI1 : Hid (IsL w1 w.heap.size g (.slice none 0 0) ⟨max 1 (min age 65536), 0, 0, []⟩) := Lib.hid (hg ▸ hI0)
  have HB1 := Lib.hid hb1
  have HG := Lib.hid hg
  clear hb1 hI hI0 KN hg
  go_wp2_with fail
  refine (KNR.out _).mono ?_
  rintro e w2 ⟨rfl, hb2, hlt2, hJ⟩
  have hJ0 := hJ w.heap.size
  obtain ⟨g2, hg2⟩ : ∃ g2, g2 = w1.heap.size := ⟨_, rfl⟩
  rw [← hg2] at hlt2 ⊢
  have HI2 : Hid (IsR w2 w.heap.size g2 (.slice none 0 0) (.slice none 0 0) ⟨max 1 (min age 65536), 0, 0, []⟩) := Lib.hid (hg2 ▸ hJ0)
  have HNE : Hid (g ≠ g2 ∧ w.heap.size ≤ g ∧ w.heap.size ≤ g2) := Lib.hid ⟨by omega, by have := HG.out; omega, by have := HB1.out.size; omega⟩
  have HB2 := Lib.hid (HB1.out.trans hb2)
  have HI1' := Lib.hid (HI1.out.bel hb2)
  clear hb2 hJ hJ0 KNR hg2 HI1 HB1 hlt1 hlt2
  go_wp2_with fail
  refine (K8.out _).mono ?_
  rintro e w3 ⟨rfl, hb3⟩
  have HX3 : Hid (∃ v vk vw s r, IsL w3 w.heap.size g v s ∧ IsR w3 w.heap.size g2 vk vw r ∧ Rel s r ∧ BI s 0 ∧ Bel w w3) := Lib.hid ⟨_, _, _, _, _, HI1'.out.bel hb3, HI2.out.bel hb3, HNEW.out, ⟨Int.le_refl _, by simp⟩, HB2.out.trans hb3⟩
  clear hb3 HI1' HI2 HNEW HB2 K8
  go_wp2_with fail
  go_loopw [28] (fun v28 wr => ∃ (k : Nat), v28 = .int .i64 k ∧ k ≤ q ∧ Hid (∃ v vk vw s r, IsL wr w.heap.size g v s ∧ IsR wr w.heap.size g2 vk vw r ∧ Rel s r ∧ BI s k ∧ Bel w wr)) (fun v28 _ => q - (intOf v28).toNat)
  case atStart => exact ⟨0, rfl, by omega, HX3⟩
  case round =>
    obtain ⟨wi, rfl⟩ : ∃ wi : World, wi = wr := ⟨_, rfl⟩
    obtain ⟨k, rfl, hk, HI⟩ := hrel
    obtain ⟨v, vk, vw, s, r, h1, h2, hrel, hbi, hbw⟩ := HI.out
    have H1 := Lib.hid h1
    have H2 := Lib.hid h2
    have HREL := Lib.hid hrel
    have HBI := Lib.hid hbi
    have HBw := Lib.hid hbw
    clear h1 h2 hrel hbi hbw HI HX3
    by_cases hlt : k < q
    · obtain ⟨ad, rfl, z0, z1, _, _⟩ := HC.out k (by rw [HNL.out]; omega)
      have z0 := cellB HBw.out z0
      have z1 := cellB HBw.out z1
      generalize actAt l k = x at *
      obtain ⟨x0, x1⟩ := x
      simp only [] at z0 z1
      have hlt' : decide ((k : Int) < q) = true := by simp; omega
      have c0 := fun o => cellB (Bel.alloc wi o) z0
      have c1 := fun o => cellB (Bel.alloc wi o) z1
      by_cases hdo : Go.bits .and .i64 x0 3 = 2
      · have hd1 : (Go.bits .and .i64 x0 3 == 2) = true := by simpa using hdo
        have hd2 : decide (Go.bits .and .i64 x0 3 = 2) = true := by simpa using hdo
        go_wp2_with fail
        refine calls_gen (fun W => Bel wi W ∧ W.heap[wi.heap.size]? = some (.cells #[.int .i64 x0, .int .i64 x1] 28 (0, 0))) ⟨Bel.alloc _ _, heap_alloc_new _ _⟩ ?_
        rintro W ⟨hbW, hxW⟩
        obtain ⟨bx, hbx⟩ : ∃ bx, bx = wi.heap.size := ⟨_, rfl⟩
        rw [← hbx] at hxW ⊢
        have hxm : bx ≠ g ∧ bx ≠ g2 := by
          have h1 := blk_lt H1.out.blk
          have h2 := blk_lt H2.out.blk
          omega
        have HW := Lib.hid (And.intro (H1.out.bel hbW) (And.intro (H2.out.bel hbW) (HBw.out.trans hbW)))
        have KPx := Lib.hid (KP.out W g v s HREL.out.ok (fun x hx => by have := HBI.out.wt x hx; omega) HW.out.1)
        have hpk : rpickK r = pickK s := rel_pickK HREL.out
        have hpb : decide (0 < r.rs.length) = pickB s := by unfold pickB; rw [HREL.out.len]
        have HPK := Lib.hid (And.intro hpk hpb)
        clear hbx z0 z1 c0 c1 hbW H1 H2 HBw hpk hpb
        refine KPx.out.mono ?_
        rintro e w5 ⟨v5, rfl, h5, hk5⟩
        have hx5 := hk5.keep hxW hxm.1 (by decide)
        have hr5 := HW.out.2.1.kp hk5 HNE.out.1.symm HW.out.1.blk
        have hb5 := Kp.below' (base := w.heap.size) HW.out.2.2 hk5 HNE.out.2.1
        have KRPx := Lib.hid (KRP.out w5 g2 vk vw r (by rw [HREL.out.len]; exact HREL.out.ok.len) (fun x hx => ⟨HREL.out.ok.wt x (HREL.out.perm.mem_iff.1 hx), by have := HBI.out.wt x (HREL.out.perm.mem_iff.1 hx); omega⟩) (fun x hx => HREL.out.ok.key x (HREL.out.perm.mem_iff.1 hx)) hb5.size hr5)
        rw [HPK.out.1, HPK.out.2] at KRPx
        have H5 := Lib.hid (And.intro h5 (And.intro hr5 (And.intro hb5 hx5)))
        have HXM := Lib.hid hxm
        clear h5 hk5 hx5 hr5 hb5 hxW hxm KPx HW HPK
        generalize pickK s = pk at *
        generalize pickB s = pb at *
        go_wp2_with fail
        refine KRPx.out.mono ?_
        rintro e W8 ⟨vk8, vw8, rfl, h8, hk8⟩
        have HQ8 := Lib.hid (H5.out.1.kt hk8 HNE.out.1 H5.out.2.1.blk)
        have HRR8 := Lib.hid h8
        have HR8 := Lib.hid (rel_pick HREL.out)
        have HB8 := Lib.hid (Kt.below' H5.out.2.2.1 hk8 HNE.out.2.2)
        have HX8 := Lib.hid (hk8.keep H5.out.2.2.2 HXM.out.2 (by decide))
        have HBI8 := Lib.hid (bi_pick HBI.out)
        have c8 := blk_cell HX8.out 1
        clear h8 hk8 H5 KRPx HREL HBI
        generalize pickS s = s8 at *
        generalize rpickS r = r8 at *
        go_wp2_with fail
        clear c8
        have KWx := Lib.hid (KW.out W8 g _ s8 x1 HR8.out.ok.up (by have := HR8.out.ok.len; omega) HQ8.out)
        have KFx := Lib.hid (fun w1 (hb : Bel W8 w1) => KRF.out w1 g2 _ _ r8 x1 (by rw [HR8.out.len]; have := HR8.out.ok.len; omega) (HRR8.out.bel hb))
        have KSx := Lib.hid (fun w1 (hb : Bel W8 w1) => KSM.out w1 g g2 _ _ _ s8 r8 HR8.out (HQ8.out.bel hb) (HRR8.out.bel hb))
        have hff := rfind_iff r8 x1
        rw [HR8.out.rh] at hff
        have HFN := Lib.hid (And.intro HQ8.out (And.intro HRR8.out (And.intro HR8.out (And.intro HBI8.out HB8.out))))
        generalize rfind r8 x1 = F at *
        generalize (nth s8.rs (pos s8.rs x1)).f1 = y at *
        cases hh : has s8 x1
        · rw [hh] at KWx hff
          simp only [Bool.false_eq_true, if_false] at KWx
          clear hh HQ8 HRR8 HR8 HBI8 HB8
          refine KWx.out.mono ?_
          rintro e w9 ⟨rfl, hb9⟩
          have c0 := blk_cell (blk_below HX8.out hb9) 1
          have KFy := Lib.hid (KFx.out w9 hb9)
          have KSy := Lib.hid (KSx.out w9 hb9)
          have HB9 := Lib.hid hb9
          clear hb9 KWx KFx KSx HX8
          have hff2 : decide (0 ≤ F) = false := hff
          go_wp2_with fail
          refine KFy.out.mono ?_
          rintro e w10 ⟨rfl, rfl⟩
          go_wp2_with fail
          refine KSy.out.mono ?_
          rintro e w11 ⟨rfl, hb11⟩
          have hbb := HB9.out.trans hb11
          have hfin : Hid (∃ v vk vw s r, IsL w11 w.heap.size g v s ∧ IsR w11 w.heap.size g2 vk vw r ∧ Rel s r ∧ BI s (k + 1) ∧ Bel w w11) := Lib.hid ⟨_, _, _, _, _, HFN.out.1.bel hbb, HFN.out.2.1.bel hbb, HFN.out.2.2.1, HFN.out.2.2.2.1, HFN.out.2.2.2.2.trans hbb⟩
          clear hbb hb11 HFN KSy KFy c0 hff hff2
          go_wp2_with fail
          exact ⟨⟨k + 1, by congr 1, by omega, hfin⟩, by simp [intOf]; omega⟩
        · rw [hh] at KWx hff
          simp only [if_true] at KWx
          clear hh HQ8 HRR8 HR8 HBI8 HB8
          refine KWx.out.mono ?_
          rintro e w9 ⟨rfl, hb9⟩
          have c0 := blk_cell (blk_below HX8.out hb9) 1
          have KFy := Lib.hid (KFx.out w9 hb9)
          have KSy := Lib.hid (KSx.out w9 hb9)
          have HB9 := Lib.hid hb9
          clear hb9 KWx KFx KSx HX8
          have hff2 : decide (0 ≤ F) = true := hff
          go_wp2_with fail
          refine KFy.out.mono ?_
          rintro e w10 ⟨rfl, rfl⟩
          go_wp2_with fail
          refine KSy.out.mono ?_
          rintro e w11 ⟨rfl, hb11⟩
          have hbb := HB9.out.trans hb11
          have hfin : Hid (∃ v vk vw s r, IsL w11 w.heap.size g v s ∧ IsR w11 w.heap.size g2 vk vw r ∧ Rel s r ∧ BI s (k + 1) ∧ Bel w w11) := Lib.hid ⟨_, _, _, _, _, HFN.out.1.bel hbb, HFN.out.2.1.bel hbb, HFN.out.2.2.1, HFN.out.2.2.2.1, HFN.out.2.2.2.2.trans hbb⟩
          clear hbb hb11 HFN KSy KFy c0 hff hff2
          go_wp2_with fail
          exact ⟨⟨k + 1, by congr 1, by omega, hfin⟩, by simp [intOf]; omega⟩
      · have hd1 : (Go.bits .and .i64 x0 3 == 2) = false := by simpa using hdo
        have hd2 : decide (Go.bits .and .i64 x0 3 = 2) = false := by simpa using hdo
        by_cases hdo3 : Go.bits .and .i64 x0 3 = 3
        · have hd3 : (Go.bits .and .i64 x0 3 == 3) = true := by simpa using hdo3
          have hd4 : decide (Go.bits .and .i64 x0 3 = 3) = true := by simpa using hdo3
          go_wp2_with fail
          refine wp_gen (fun W => Bel wi W ∧ W.heap[wi.heap.size]? = some (.cells #[.int .i64 x0, .int .i64 x1] 28 (0, 0))) ⟨Bel.alloc _ _, heap_alloc_new _ _⟩ ?_
          rintro W ⟨hbW, hxW⟩
          obtain ⟨bx, hbx⟩ : ∃ bx, bx = wi.heap.size := ⟨_, rfl⟩
          rw [← hbx] at hxW ⊢
          have hxm : bx ≠ g ∧ bx ≠ g2 := by
            have h1 := blk_lt H1.out.blk
            have h2 := blk_lt H2.out.blk
            omega
          have HXM := Lib.hid hxm
          have HW := Lib.hid (And.intro (H1.out.bel hbW) (And.intro (H2.out.bel hbW) (HBw.out.trans hbW)))
          clear hbx hxm z0 z1 c0 c1 hbW H1 H2 HBw
          have KQx := Lib.hid (fun w' (h : Bel W w') => KD.out w' g v s x1 HREL.out.ok.up HREL.out.ok.len (HW.out.1.bel h))
          have KRx := Lib.hid (fun w' (h : IsR w' w.heap.size g2 vk vw r) (hz : w.heap.size ≤ w'.heap.size) => KRD.out w' g2 vk vw r x1 (by rw [HREL.out.len]; have := HREL.out.ok.len; omega) hz h)
          rw [HREL.out.rh] at KRx
          have HR8 := Lib.hid (rel_drop HREL.out x1)
          have HBI8 := Lib.hid (bi_drop HBI.out x1)
          clear HREL HBI
          generalize has s x1 = E at *
          generalize dropS s x1 = s8 at *
          generalize rdropS r x1 = r8 at *
          have eE : (E != E) = false := by cases E <;> rfl
          have eE2 : (!E == E) = false := by cases E <;> rfl
          have q1 := fun (wx : World) (h : wx.heap[bx]? = some (.cells #[.int .i64 x0, .int .i64 x1] 28 (0, 0))) => blk_cell h 1
          have hkeep := fun (u1 u2 : World) (kk : Kp w.heap.size g u1 u2) (h : u1.heap[bx]? = some (.cells #[.int .i64 x0, .int .i64 x1] 28 (0, 0))) => kk.keep h HXM.out.1 (by decide)
          have hkeep2 := fun (u1 u2 : World) (kk : Kt 3 w.heap.size g2 u1 u2) (h : u1.heap[bx]? = some (.cells #[.int .i64 x0, .int .i64 x1] 28 (0, 0))) => kk.keep h HXM.out.2 (by decide)
          go_region_held3 (fun w' => w'.heap[bx]? = some (.cells #[.int .i64 x0, .int .i64 x1] 28 (0, 0))) (first | assumption | (refine blk_below ?_ (Bel.drew _); assumption) | (refine blk_below (by assumption) (by assumption)) | exact hkeep _ _ (by assumption) (by assumption) | exact hkeep2 _ _ (by assumption) (by assumption)) ((first | (go_at_call 14; refine (KQx.out _ (Bel.drew _)).mono ?_; rintro e wc2 ⟨vq, rfl, hq2, hkp2⟩; have hR3 := (HW.out.2.1.bel (Bel.drew W)).kp hkp2 HNE.out.1.symm (HW.out.1.bel (Bel.drew W)).blk; have hz3 := Kp.below' (base := w.heap.size) (HW.out.2.2.trans (Bel.drew W)) hkp2 HNE.out.2.1) | (go_at_call 15; refine (KRx.out _ hR3 hz3.size).mono ?_; rintro e W8 ⟨vk8, vw8, rfl, hr4, hkt4⟩)))
          have HQ8 := Lib.hid (hq2.kt hkt4 HNE.out.1 hR3.blk)
          have HRR8 := Lib.hid hr4
          have HB8 := Lib.hid (Kt.below' hz3 hkt4 HNE.out.2.2)
          have HX8 : Hid (W8.heap[bx]? = some (.cells #[.int .i64 x0, .int .i64 x1] 28 (0, 0))) := Lib.hid (by assumption)
          have c8 := blk_cell HX8.out 1
          clear q1 hkeep hkeep2 hq2 hkp2 hR3 hz3 hr4 hkt4 KRx KQx HW
          go_wp2_with fail
          clear c8
          have KWx := Lib.hid (KW.out W8 g _ s8 x1 HR8.out.ok.up (by have := HR8.out.ok.len; omega) HQ8.out)
          have KFx := Lib.hid (fun w1 (hb : Bel W8 w1) => KRF.out w1 g2 _ _ r8 x1 (by rw [HR8.out.len]; have := HR8.out.ok.len; omega) (HRR8.out.bel hb))
          have KSx := Lib.hid (fun w1 (hb : Bel W8 w1) => KSM.out w1 g g2 _ _ _ s8 r8 HR8.out (HQ8.out.bel hb) (HRR8.out.bel hb))
          have hff := rfind_iff r8 x1
          rw [HR8.out.rh] at hff
          have HFN := Lib.hid (And.intro HQ8.out (And.intro HRR8.out (And.intro HR8.out (And.intro HBI8.out HB8.out))))
          generalize rfind r8 x1 = F at *
          generalize (nth s8.rs (pos s8.rs x1)).f1 = y at *
          cases hh : has s8 x1
          · rw [hh] at KWx hff
            simp only [Bool.false_eq_true, if_false] at KWx
            clear hh HQ8 HRR8 HR8 HBI8 HB8
            refine KWx.out.mono ?_
            rintro e w9 ⟨rfl, hb9⟩
            have c0 := blk_cell (blk_below HX8.out hb9) 1
            have KFy := Lib.hid (KFx.out w9 hb9)
            have KSy := Lib.hid (KSx.out w9 hb9)
            have HB9 := Lib.hid hb9
            clear hb9 KWx KFx KSx HX8
            have hff2 : decide (0 ≤ F) = false := hff
            go_wp2_with fail
            refine KFy.out.mono ?_
            rintro e w10 ⟨rfl, rfl⟩
            go_wp2_with fail
            refine KSy.out.mono ?_
            rintro e w11 ⟨rfl, hb11⟩
            have hbb := HB9.out.trans hb11
            have hfin : Hid (∃ v vk vw s r, IsL w11 w.heap.size g v s ∧ IsR w11 w.heap.size g2 vk vw r ∧ Rel s r ∧ BI s (k + 1) ∧ Bel w w11) := Lib.hid ⟨_, _, _, _, _, HFN.out.1.bel hbb, HFN.out.2.1.bel hbb, HFN.out.2.2.1, HFN.out.2.2.2.1, HFN.out.2.2.2.2.trans hbb⟩
            clear hbb hb11 HFN KSy KFy c0 hff hff2
            go_wp2_with fail
            exact ⟨⟨k + 1, by congr 1, by omega, hfin⟩, by simp [intOf]; omega⟩
          · rw [hh] at KWx hff
            simp only [if_true] at KWx
            clear hh HQ8 HRR8 HR8 HBI8 HB8
            refine KWx.out.mono ?_
            rintro e w9 ⟨rfl, hb9⟩
            have c0 := blk_cell (blk_below HX8.out hb9) 1
            have KFy := Lib.hid (KFx.out w9 hb9)
            have KSy := Lib.hid (KSx.out w9 hb9)
            have HB9 := Lib.hid hb9
            clear hb9 KWx KFx KSx HX8
            have hff2 : decide (0 ≤ F) = true := hff
            go_wp2_with fail
            refine KFy.out.mono ?_
            rintro e w10 ⟨rfl, rfl⟩
            go_wp2_with fail
            refine KSy.out.mono ?_
            rintro e w11 ⟨rfl, hb11⟩
            have hbb := HB9.out.trans hb11
            have hfin : Hid (∃ v vk vw s r, IsL w11 w.heap.size g v s ∧ IsR w11 w.heap.size g2 vk vw r ∧ Rel s r ∧ BI s (k + 1) ∧ Bel w w11) := Lib.hid ⟨_, _, _, _, _, HFN.out.1.bel hbb, HFN.out.2.1.bel hbb, HFN.out.2.2.1, HFN.out.2.2.2.1, HFN.out.2.2.2.2.trans hbb⟩
            clear hbb hb11 HFN KSy KFy c0 hff hff2
            go_wp2_with fail
            exact ⟨⟨k + 1, by congr 1, by omega, hfin⟩, by simp [intOf]; omega⟩
        · have hd3 : (Go.bits .and .i64 x0 3 == 3) = false := by simpa using hdo3
          have hd4 : decide (Go.bits .and .i64 x0 3 = 3) = false := by simpa using hdo3
          go_wp2_with fail
          refine wp_gen (fun W => Bel wi W ∧ W.heap[wi.heap.size]? = some (.cells #[.int .i64 x0, .int .i64 x1] 28 (0, 0))) ⟨Bel.alloc _ _, heap_alloc_new _ _⟩ ?_
          rintro W ⟨hbW, hxW⟩
          obtain ⟨bx, hbx⟩ : ∃ bx, bx = wi.heap.size := ⟨_, rfl⟩
          rw [← hbx] at hxW ⊢
          have hxm : bx ≠ g ∧ bx ≠ g2 := by
            have h1 := blk_lt H1.out.blk
            have h2 := blk_lt H2.out.blk
            omega
          have HXM := Lib.hid hxm
          have HW := Lib.hid (And.intro (H1.out.bel hbW) (And.intro (H2.out.bel hbW) (HBw.out.trans hbW)))
          clear hbx hxm z0 z1 c0 c1 hbW H1 H2 HBw
          have KQx := Lib.hid (fun w' (h : Bel W w') => KA.out w' g v s x1 HREL.out.ok (by have := HBI.out.add; omega) (by have := h.size; have := HW.out.2.2.size; omega) (HW.out.1.bel h))
          have KRx := Lib.hid (fun w' (h : IsR w' w.heap.size g2 vk vw r) (hz : w.heap.size ≤ w'.heap.size) => KRA.out w' g2 vk vw r x1 (by rw [HREL.out.len]; exact HREL.out.ok.len) hz h)
          rw [HREL.out.ae] at KRx
          have HR8 := Lib.hid (rel_add HREL.out x1)
          have HBI8 := Lib.hid (bi_add HBI.out x1)
          clear HREL HBI
          generalize addE s x1 = E at *
          generalize addS s x1 = s8 at *
          generalize raddS r x1 = r8 at *
          have q1 := fun (wx : World) (h : wx.heap[bx]? = some (.cells #[.int .i64 x0, .int .i64 x1] 28 (0, 0))) => blk_cell h 1
          have hkeep := fun (u1 u2 : World) (kk : Kp w.heap.size g u1 u2) (h : u1.heap[bx]? = some (.cells #[.int .i64 x0, .int .i64 x1] 28 (0, 0))) => kk.keep h HXM.out.1 (by decide)
          have hkeep2 := fun (u1 u2 : World) (kk : Kt 3 w.heap.size g2 u1 u2) (h : u1.heap[bx]? = some (.cells #[.int .i64 x0, .int .i64 x1] 28 (0, 0))) => kk.keep h HXM.out.2 (by decide)
          go_region_held3 (fun w' => w'.heap[bx]? = some (.cells #[.int .i64 x0, .int .i64 x1] 28 (0, 0))) (first | assumption | (refine blk_below ?_ (Bel.drew _); assumption) | (refine blk_below (by assumption) (by assumption)) | exact hkeep _ _ (by assumption) (by assumption) | exact hkeep2 _ _ (by assumption) (by assumption)) ((first | (go_at_call 11; refine (KQx.out _ (Bel.drew _)).mono ?_; rintro e wc2 ⟨vq, rfl, hq2, hkp2⟩; have hR3 := (HW.out.2.1.bel (Bel.drew W)).kp hkp2 HNE.out.1.symm (HW.out.1.bel (Bel.drew W)).blk; have hz3 := Kp.below' (base := w.heap.size) (HW.out.2.2.trans (Bel.drew W)) hkp2 HNE.out.2.1) | (go_at_call 16; refine (KRx.out _ hR3 hz3.size).mono ?_; rintro e W8 ⟨vk8, vw8, rfl, hr4, hkt4⟩)))
          have HQ8 := Lib.hid (hq2.kt hkt4 HNE.out.1 hR3.blk)
          have HRR8 := Lib.hid hr4
          have HB8 := Lib.hid (Kt.below' hz3 hkt4 HNE.out.2.2)
          have HX8 : Hid (W8.heap[bx]? = some (.cells #[.int .i64 x0, .int .i64 x1] 28 (0, 0))) := Lib.hid (by assumption)
          have c8 := blk_cell HX8.out 1
          clear q1 hkeep hkeep2 hq2 hkp2 hR3 hz3 hr4 hkt4 KRx KQx HW
          go_wp2_with fail
          clear c8
          have KWx := Lib.hid (KW.out W8 g _ s8 x1 HR8.out.ok.up (by have := HR8.out.ok.len; omega) HQ8.out)
          have KFx := Lib.hid (fun w1 (hb : Bel W8 w1) => KRF.out w1 g2 _ _ r8 x1 (by rw [HR8.out.len]; have := HR8.out.ok.len; omega) (HRR8.out.bel hb))
          have KSx := Lib.hid (fun w1 (hb : Bel W8 w1) => KSM.out w1 g g2 _ _ _ s8 r8 HR8.out (HQ8.out.bel hb) (HRR8.out.bel hb))
          have hff := rfind_iff r8 x1
          rw [HR8.out.rh] at hff
          have HFN := Lib.hid (And.intro HQ8.out (And.intro HRR8.out (And.intro HR8.out (And.intro HBI8.out HB8.out))))
          generalize rfind r8 x1 = F at *
          generalize (nth s8.rs (pos s8.rs x1)).f1 = y at *
          cases hh : has s8 x1
          · rw [hh] at KWx hff
            simp only [Bool.false_eq_true, if_false] at KWx
            clear hh HQ8 HRR8 HR8 HBI8 HB8
            refine KWx.out.mono ?_
            rintro e w9 ⟨rfl, hb9⟩
            have c0 := blk_cell (blk_below HX8.out hb9) 1
            have KFy := Lib.hid (KFx.out w9 hb9)
            have KSy := Lib.hid (KSx.out w9 hb9)
            have HB9 := Lib.hid hb9
            clear hb9 KWx KFx KSx HX8
            have hff2 : decide (0 ≤ F) = false := hff
            go_wp2_with fail
            refine KFy.out.mono ?_
            rintro e w10 ⟨rfl, rfl⟩
            go_wp2_with fail
            refine KSy.out.mono ?_
            rintro e w11 ⟨rfl, hb11⟩
            have hbb := HB9.out.trans hb11
            have hfin : Hid (∃ v vk vw s r, IsL w11 w.heap.size g v s ∧ IsR w11 w.heap.size g2 vk vw r ∧ Rel s r ∧ BI s (k + 1) ∧ Bel w w11) := Lib.hid ⟨_, _, _, _, _, HFN.out.1.bel hbb, HFN.out.2.1.bel hbb, HFN.out.2.2.1, HFN.out.2.2.2.1, HFN.out.2.2.2.2.trans hbb⟩
            clear hbb hb11 HFN KSy KFy c0 hff hff2
            go_wp2_with fail
            exact ⟨⟨k + 1, by congr 1, by omega, hfin⟩, by simp [intOf]; omega⟩
          · rw [hh] at KWx hff
            simp only [if_true] at KWx
            clear hh HQ8 HRR8 HR8 HBI8 HB8
            refine KWx.out.mono ?_
            rintro e w9 ⟨rfl, hb9⟩
            have c0 := blk_cell (blk_below HX8.out hb9) 1
            have KFy := Lib.hid (KFx.out w9 hb9)
            have KSy := Lib.hid (KSx.out w9 hb9)
            have HB9 := Lib.hid hb9
            clear hb9 KWx KFx KSx HX8
            have hff2 : decide (0 ≤ F) = true := hff
            go_wp2_with fail
            refine KFy.out.mono ?_
            rintro e w10 ⟨rfl, rfl⟩
            go_wp2_with fail
            refine KSy.out.mono ?_
            rintro e w11 ⟨rfl, hb11⟩
            have hbb := HB9.out.trans hb11
            have hfin : Hid (∃ v vk vw s r, IsL w11 w.heap.size g v s ∧ IsR w11 w.heap.size g2 vk vw r ∧ Rel s r ∧ BI s (k + 1) ∧ Bel w w11) := Lib.hid ⟨_, _, _, _, _, HFN.out.1.bel hbb, HFN.out.2.1.bel hbb, HFN.out.2.2.1, HFN.out.2.2.2.1, HFN.out.2.2.2.2.trans hbb⟩
            clear hbb hb11 HFN KSy KFy c0 hff hff2
            go_wp2_with fail
            exact ⟨⟨k + 1, by congr 1, by omega, hfin⟩, by simp [intOf]; omega⟩
    · have hlt' : decide ((k : Int) < q) = false := by simp; omega
      have hfin := HBw.out
      clear H1 H2 HREL HBw
      go_wp2_with fail
      go_ret
      exact ⟨rfl, hfin⟩
end Go.Proofs.Ythhigmkheccfpaa
