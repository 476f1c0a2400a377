/- Queue: the walk of QueueDrains. -/
import Derived.Test.YtffegfidaolgjaaDr
import Derived.Test.YtffegfidaolgjaaQTake2
set_option linter.unusedVariables false
set_option linter.unusedSimpArgs false
namespace Go.Proofs.Ytffegfidaolgjaa
open Go.RowKit
attribute [local go_sem high] eq33
set_option maxHeartbeats 8000000 in
set_option maxRecDepth 100000 in
theorem lawDrainW (A : Option Addr) (c : Nat) (l : List Act) (hn : l.length ≤ c) (w : World) (hC : AC w A l) :
    Calls Try.prog 4 #[.slice A l.length c] w fun e w' => e = .returned (.bool true) ∧ Bel w w' := by
  have hsl : ∀ W, (Instr.slice 37 (.slice A l.length c) none (some (.int .i64 (min (l.length : Int) 80))) none).run Try.prog W = .ok (.slice A (min 80 l.length) c) W := fun W => sl37 80 (by decide) A c l.length hn W
  obtain ⟨q, hq⟩ : ∃ q, q = min 80 l.length := ⟨_, rfl⟩
  rw [← hq] at hsl
  have hq1 : q ≤ 80 := by omega
  have hq2 : q ≤ l.length := by omega
  clear hq
  have HC := Lib.hid hC
  have KN := Lib.hid (newQ 256)
  have hm : max (1 : Int) (min 256 256) = 256 := by decide
  rw [hm] at KN
  have KP := Lib.hid (fun w1 g v s key d hs hl hd hc hsm hb h => putQ w1 w.heap.size g v s key d hs hl hd hc hsm hb h)
  have KT := Lib.hid (fun w1 g v s key hs hl hb h => takeQ2 w1 w.heap.size g v s key hs hl hb h)
  have KO := Lib.hid (fun w1 g v s h0 hl h => oldQ w1 w.heap.size g v s h0 hl h)
  have KO0 := Lib.hid (fun w1 g v s h0 h => oldQ0 w1 w.heap.size g v s h0 h)
  have KL := Lib.hid (fun w1 g v s h => lenQ w1 w.heap.size g v s h)
  have KS := Lib.hid (fun d w => secB d false w)
  have ZS := Lib.hid (fun d => secV_size d false)
  have K8 := Lib.hid wakesQ
  clear hC hm
  generalize hnl : l.length = n at *
  have HNL := Lib.hid hnl
  clear hnl
  have hmm := fun w => run_makeMap_plain (P := Try.prog) (w := w) 38
  go_enter Try.func4, Try.ntmps4
  go_wp2_with fail
  refine (KN.out _).mono ?_
  rintro e w1 ⟨rfl, hb1, hlt1, hI⟩
  have hI0 := hI w.heap.size
  obtain ⟨g, hg⟩ : ∃ g, g = w.heap.size := ⟨_, rfl⟩
  rw [← hg] at hlt1 ⊢
  have HI1 : Hid (IsQ w1 w.heap.size g (.slice none 0 0) ⟨256, 0, []⟩) := Lib.hid (hg ▸ hI0)
  have HB1 := Lib.hid hb1
  have HG := Lib.hid hg
  clear hb1 hI hI0 KN hg
  go_wp2_with fail
  refine wp_gen (fun W => Bel w1 W ∧ SM W w1.heap.size (fun _ => none) 0) ⟨Bel.alloc _ _, TMap.made _⟩ ?_
  rintro W2 ⟨hb2, hm2⟩
  obtain ⟨mb, hmb⟩ : ∃ mb, mb = w1.heap.size := ⟨_, rfl⟩
  rw [← hmb] at hm2 ⊢
  have HMb : Hid (mb ≠ g ∧ w.heap.size ≤ mb ∧ w.heap.size ≤ g) := Lib.hid ⟨by omega, by have := HB1.out.size; omega, by have := HG.out; omega⟩
  have HX2 : Hid (∃ v s gm, IsQ W2 w.heap.size g v s ∧ D1 s 0 ∧ WS s gm ∧ SM W2 mb gm s.rs.length ∧ Bel w W2) := Lib.hid ⟨_, _, fun _ => none, HI1.out.bel hb2, ⟨by have := okq_new 256; exact this, rfl, Nat.le_refl _, Int.le_refl _⟩, fun x => by simp [dat, has, isAt], hm2, HB1.out.trans hb2⟩
  clear hb2 hm2 HI1 HB1 hmb hmm hlt1
  go_loopw [23] (fun v23 wr => ∃ (k : Nat), v23 = .int .i64 k ∧ k ≤ q ∧ Hid (∃ v s gm, IsQ wr w.heap.size g v s ∧ D1 s k ∧ WS s gm ∧ SM wr mb gm s.rs.length ∧ Bel w wr)) (fun v23 _ => q - (intOf v23).toNat)
  case atStart => exact ⟨0, rfl, by omega, HX2⟩
  case round =>
    obtain ⟨wi, rfl⟩ : ∃ wi : World, wi = wr := ⟨_, rfl⟩
    obtain ⟨k, rfl, hk, HI⟩ := hrel
    obtain ⟨v, s, gm, h1, hd, hs, hmp, hbw⟩ := HI.out
    have H1 := Lib.hid h1
    have HD := Lib.hid hd
    have HS := Lib.hid hs
    have HM := Lib.hid hmp
    have HBw := Lib.hid hbw
    clear h1 hd hs hmp hbw HI HX2
    by_cases hlt : k < q
    · obtain ⟨ad, rfl, z0, z1, z2, z3, hwf, _⟩ := HC.out k (by rw [HNL.out]; omega)
      have z0 := cellB HBw.out z0
      have z1 := cellB HBw.out z1
      have z2 := cellB HBw.out z2
      have z3 := cellB HBw.out z3
      generalize actAt l k = x at *
      obtain ⟨x0, x1, x2, x3⟩ := x
      simp only [] at z0 z1 z2 z3 hwf
      have hlt' : decide ((k : Int) < q) = true := by simp; omega
      go_wp2_with fail
      refine wp_gen (fun W => Bel wi W ∧ W.heap[wi.heap.size]? = some (.cells #[.int .i64 x0, .int .u8 x1, .bool x2, .bool x3] 23 (0, 0))) ⟨Bel.alloc _ _, heap_alloc_new _ _⟩ ?_
      rintro W ⟨hbW, hxW⟩
      obtain ⟨bx, hbx⟩ : ∃ bx, bx = wi.heap.size := ⟨_, rfl⟩
      rw [← hbx] at hxW ⊢
      have hxm : bx ≠ mb ∧ bx ≠ g := by
        have h1 := blk_lt H1.out.blk
        obtain ⟨es, clock, hm⟩ := HM.out.isMap
        have h2 := blk_lt hm
        omega
      have HXM := Lib.hid hxm
      have HW := Lib.hid (And.intro (H1.out.bel hbW) (And.intro (TMap.below HM.out hbW : SM W mb gm s.rs.length) (HBw.out.trans hbW)))
      clear hbx hxm z0 z1 z2 z3 hbW H1 HM HBw
      have KSx := Lib.hid (KS.out x1)
      have zD := ZS.out x1
      simp only [Bool.false_eq_true, if_false] at zD
      generalize secV x1 false = D at *
      have ZD := Lib.hid zD
      have KPx := Lib.hid (fun w' (h : Bel W w') => KP.out w' g v s x0 D HD.out.ok.up HD.out.ok.len' (by rw [ZD.out]; decide) HD.out.ok.clock (by have := HD.out.clock; omega) (by have := h.size; have := HW.out.2.2.size; omega) (HW.out.1.bel h))
      have HD' := Lib.hid (d1_put HD.out x0 D)
      have q0 := fun (wx : World) (h : wx.heap[bx]? = some (.cells #[.int .i64 x0, .int .u8 x1, .bool x2, .bool x3] 23 (0, 0))) => blk_cell h 0
      have q1 := fun (wx : World) (h : wx.heap[bx]? = some (.cells #[.int .i64 x0, .int .u8 x1, .bool x2, .bool x3] 23 (0, 0))) => blk_cell h 1
      have hkeep := fun (u1 u2 : World) (kk : Kp w.heap.size g u1 u2) (h : u1.heap[bx]? = some (.cells #[.int .i64 x0, .int .u8 x1, .bool x2, .bool x3] 23 (0, 0))) => kk.keep h HXM.out.2 (by decide)
      by_cases he : putE s x0 D = 0
      · rw [he] at KPx
        have HE := Lib.hid he
        clear he
        go_region_held3 (fun w' => w'.heap[bx]? = some (.cells #[.int .i64 x0, .int .u8 x1, .bool x2, .bool x3] 23 (0, 0))) (first | assumption | (refine blk_below ?_ (Bel.drew _); assumption) | (refine blk_below (by assumption) (by assumption)) | exact hkeep _ _ (by assumption) (by assumption)) ((first | (go_at_call 11; refine (KSx.out _).mono ?_; rintro e wc1 ⟨rfl, hbc1⟩) | (go_at_call 10; refine (KPx.out _ (by first | assumption | exact Bel.trans (Bel.drew _) (by assumption))).mono ?_; rintro e wc2 ⟨v2, rfl, hq2, hkp2⟩)))
        have HB2 : Hid (IsQ wc2 w.heap.size g v2 (putS s x0 D) ∧ SM wc2 mb gm s.rs.length ∧ Bel w wc2) := by
          have hbb : Bel W wc1 := by first | assumption | exact Bel.trans (Bel.drew _) (by assumption)
          exact Lib.hid ⟨hq2, SM.kp (TMap.below HW.out.2.1 hbb) hkp2 HMb.out.1, Kp.below' (base := w.heap.size) (HW.out.2.2.trans hbb) hkp2 HMb.out.2.2⟩
        have hx2 : wc2.heap[bx]? = some (.cells #[.int .i64 x0, .int .u8 x1, .bool x2, .bool x3] 23 (0, 0)) := by assumption
        have HX2 := Lib.hid hx2
        go_wp2_with fail
        have hwk := (putE_zero HE.out)
        have hwf : (Lit.int .i64 x0).wf = true := by
          simp [Lit.wf, IntKind.min, IntKind.max, IntKind.bits, IntKind.signed]; omega
        have hinj : ∀ x y : Int, Value.int .i64 x = Value.int .i64 y → x = y := fun x y h => by simpa using h
        have hszl : s.rs.length < maxLen := by have : maxLen = 9223372036854775807 := rfl; have := HD.out.len; omega
        have KU := Lib.hid (fun wx (h : Bel wc2 wx) => TMap.update (t := 38) (TMap.below HB2.out.2.1 h : SM wx mb gm s.rs.length) keyed3 Try.underlying38 hszl hinj hwf (Maps.keyOf_int_mk Try.underlying3 hwf) (plain9 D (by rw [ZD.out]; decide)))
        have hmapx := fun (u1 u2 : World) (kk : u1.grownBy u2 (some mb)) (h : u1.heap[bx]? = some (.cells #[.int .i64 x0, .int .u8 x1, .bool x2, .bool x3] 23 (0, 0))) => (kk.block bx (blk_lt h) (fun e => HXM.out.1 (Option.some.inj e))).trans h
        clear hwk hinj hszl hkp2 hq2 hbc1 hx2
        go_region_held3 (fun w' => w'.heap[bx]? = some (.cells #[.int .i64 x0, .int .u8 x1, .bool x2, .bool x3] 23 (0, 0))) (first | assumption | (refine blk_below ?_ (Bel.drew _); assumption) | (refine blk_below (by assumption) (by assumption)) | exact hmapx _ _ (by assumption) (by assumption)) ((first | (go_at_call 11; refine (KSx.out _).mono ?_; rintro e wc3 ⟨rfl, hbc3⟩) | (obtain ⟨w5, hrun5, hm5, hg5⟩ := KU.out _ (by first | assumption | exact Bel.trans (Bel.drew _) (by assumption)); rw [hrun5]; go_simp)))
        have hb3 : Bel wc2 wc3 := by first | assumption | exact Bel.trans (Bel.drew _) (by assumption)
        have hfin : Hid (∃ v s gm, IsQ w5 w.heap.size g v s ∧ D1 s (k + 1) ∧ WS s gm ∧ SM w5 mb gm s.rs.length ∧ Bel w w5) := by
          obtain ⟨es, clock, hmm⟩ := HB2.out.2.1.isMap
          refine Lib.hid ⟨v2, _, _, (HB2.out.1.bel hb3).map (blk_below hmm hb3) hg5, HD'.out, ws_put HD.out.ok HE.out HS.out, ?_, bel_map (HB2.out.2.2.trans hb3) hg5 HMb.out.2.1⟩
          have e : (putS s x0 D).rs.length = if (gm x0).isSome then s.rs.length else s.rs.length + 1 := by
            rw [put_len HE.out, HS.out x0, dat_some]
            split <;> rfl
          rw [e]
          exact hm5
        clear hb3 hm5 hg5 hbc3 KU HB2 HX2
        go_wp2_with fail
        exact ⟨⟨k + 1, by congr 1, by omega, hfin⟩, by simp [intOf]; omega⟩
      · have hE : putS s x0 D = s := putS_no he
        have hd0 : decide (putE s x0 D = 0) = false := by simpa using he
        have hd1 : (putE s x0 D == 0) = false := by simpa using he
        rw [hE] at KPx HD'
        clear he hE
        generalize putE s x0 D = E at *
        go_region_held3 (fun w' => w'.heap[bx]? = some (.cells #[.int .i64 x0, .int .u8 x1, .bool x2, .bool x3] 23 (0, 0))) (first | assumption | (refine blk_below ?_ (Bel.drew _); assumption) | (refine blk_below (by assumption) (by assumption)) | exact hkeep _ _ (by assumption) (by assumption)) ((first | (go_at_call 11; refine (KSx.out _).mono ?_; rintro e wc1 ⟨rfl, hbc1⟩) | (go_at_call 10; refine (KPx.out _ (by first | assumption | exact Bel.trans (Bel.drew _) (by assumption))).mono ?_; rintro e wc2 ⟨v2, rfl, hq2, hkp2⟩)))
        have hfin : Hid (∃ v s gm, IsQ wc2 w.heap.size g v s ∧ D1 s (k + 1) ∧ WS s gm ∧ SM wc2 mb gm s.rs.length ∧ Bel w wc2) := by
          have hbb : Bel W wc1 := by first | assumption | exact Bel.trans (Bel.drew _) (by assumption)
          exact Lib.hid ⟨v2, s, gm, hq2, HD'.out, HS.out, SM.kp (TMap.below HW.out.2.1 hbb) hkp2 HMb.out.1, Kp.below' (base := w.heap.size) (HW.out.2.2.trans hbb) hkp2 HMb.out.2.2⟩
        go_wp2_with fail
        exact ⟨⟨k + 1, by congr 1, by omega, hfin⟩, by simp [intOf]; omega⟩
    · have hkq : k = q := by omega
      subst hkq
      have hlt' : decide ((k : Int) < k) = false := by simp
      have HD2 := Lib.hid (d2_of HD.out HS.out)
      obtain ⟨m, hm⟩ : ∃ m, m = s.rs.length := ⟨_, rfl⟩
      have hm80 : m ≤ 80 := by have := HD.out.len; omega
      have HMP : Hid (SM wi mb gm m) := Lib.hid (by rw [hm]; exact HM.out)
      rw [← hm] at HD2
      have hlen38 := fun ty => TMap.len HMP.out Try.underlying38 ty
      clear hm HM
      go_wp2_with fail
      clear hlen38
      have HX0 : Hid (∃ v s, IsQ wi w.heap.size g v s ∧ D2 s gm (-1) m ∧ SM wi mb gm m ∧ Bel w wi) := Lib.hid ⟨v, s, H1.out, HD2.out, HMP.out, HBw.out⟩
      clear H1 HD2 HMP HBw HD HS
      go_loopw [7, 45] (fun v7 v45 wr => ∃ (ag : Int) (j : Nat), v7 = .int .i64 ag ∧ v45 = .int .i64 j ∧ j ≤ m ∧ Hid (∃ v s, IsQ wr w.heap.size g v s ∧ D2 s gm ag (m - j) ∧ SM wr mb gm m ∧ Bel w wr)) (fun _ v45 _ => m - (intOf v45).toNat)
      case atStart => exact ⟨-1, 0, rfl, rfl, by omega, HX0⟩
      case round =>
        obtain ⟨wj, rfl⟩ : ∃ wj : World, wj = wr := ⟨_, rfl⟩
        obtain ⟨ag, j, rfl, rfl, hj, HI⟩ := hrel
        obtain ⟨v, s, h1, hd, hmp, hbw⟩ := HI.out
        have H1 := Lib.hid h1
        have HD := Lib.hid hd
        have HM := Lib.hid hmp
        have HBw := Lib.hid hbw
        clear h1 hd hmp hbw HI HX0
        by_cases hlt : j < m
        · have hlt' : decide ((j : Int) < m) = true := by simp; omega
          have HO := Lib.hid (KO.out wj g v s (by rw [HD.out.len]; omega) HD.out.ok.len' H1.out)
          go_wp2_with fail
          refine (HO.out).mono ?_
          rintro e w3 ⟨k, hk, rfl, hb3⟩
          have HST := Lib.hid (d2_step HD.out (by omega) hk)
          have H3 := Lib.hid (H1.out.bel hb3)
          have HM3 : Hid (SM w3 mb gm m) := Lib.hid (TMap.below HM.out hb3)
          have HB3 := Lib.hid (HBw.out.trans hb3)
          clear hk hb3 H1 HM HBw HO
          generalize nth s.rs k = x at *
          have hel : elV x = .agg #[.int .i64 x.f0, .string x.f1, .int .i64 x.f2] := rfl
          rw [hel]
          clear hel
          obtain ⟨x0, x1, x2⟩ := x
          simp only [] at HST ⊢
          have KTx := Lib.hid (fun w1 hb (h : IsQ w1 w.heap.size g v s) => KT.out w1 g v s x0 HD.out.ok.up HD.out.ok.len' hb h)
          rw [HST.out.1, HST.out.2.1] at KTx
          have hel : elV (⟨x0, x1, x2⟩ : El) = .agg #[.int .i64 x0, .string x1, .int .i64 x2] := rfl
          rw [hel] at KTx
          clear hel
          go_wp2_with fail
          refine calls_gen (fun W => Bel w3 W ∧ W.heap[w3.heap.size]? = some (.cells #[.int .i64 x0, .string x1, .int .i64 x2] 33 (0, 0))) ⟨Bel.alloc _ _, heap_alloc_new _ _⟩ ?_
          rintro W4 ⟨hb4, hx4⟩
          obtain ⟨bx, hbx⟩ : ∃ bx, bx = w3.heap.size := ⟨_, rfl⟩
          rw [← hbx] at hx4 ⊢
          have hxg : bx ≠ g ∧ some bx ≠ v.ownBlock := by
            have h1 := blk_lt H3.out.blk
            refine ⟨by omega, fun e => ?_⟩
            obtain ⟨_, cs, h2⟩ := H3.out.row.blk e.symm
            have := blk_lt h2
            omega
          have hz4 : w.heap.size ≤ W4.heap.size := by have := HB3.out.size; have := hb4.size; omega
          refine (KTx.out W4 hz4 (H3.out.bel hb4)).mono ?_
          rintro e w5 ⟨v5, rfl, h5, hk5, ho5⟩
          have hx5 := (ho5 bx (blk_lt hx4) hxg.1 hxg.2).trans hx4
          have HX : Hid (∃ v s, IsQ w5 w.heap.size g v s ∧ D2 s gm x2 (m - j - 1) ∧ SM w5 mb gm m ∧ Bel w w5) := Lib.hid ⟨v5, _, h5, HST.out.2.2.2.2.2, SM.kp (TMap.below HM3.out hb4) hk5 HMb.out.1, Kp.below' (base := w.heap.size) (HB3.out.trans hb4) hk5 HMb.out.2.2⟩
          have HX5 := Lib.hid hx5
          have hag := HST.out.2.2.1
          have hsz := HST.out.2.2.2.2.1
          have HKY : Hid (0 ≤ x0 ∧ x0 < 1099511627776) := Lib.hid (by
            obtain ⟨y, hy, e⟩ := (has_iff HD.out.ok.up x0).1 HST.out.1
            have := HD.out.ok.key y hy
            rw [e] at this; exact this)
          have hgmx := HST.out.2.2.2.1
          have hwfx : (Lit.int .i64 x0).wf = true := by
            have h := HKY.out
            simp [Lit.wf, IntKind.min, IntKind.max, IntKind.bits, IntKind.signed]; omega
          have hlook := fun o => SM.look (TMap.below (SM.kp (TMap.below HM3.out hb4) hk5 HMb.out.1) (Bel.alloc w5 o) : SM (w5.alloc o) mb gm m) x0 hwfx
          rw [hgmx] at hlook
          simp only [Option.getD_some] at hlook
          have c0 := fun o => blk_cell (blk_below hx5 (Bel.alloc w5 o)) 0
          have c1 := fun o => blk_cell (blk_below hx5 (Bel.alloc w5 o)) 1
          have c2 := fun o => blk_cell (blk_below hx5 (Bel.alloc w5 o)) 2
          have d1 : decide (x2 ≤ ag) = false := by simp; omega
          have r1 : (x1.toList == x1.toList) = true := by simp
          have r2 : (x1.toList != x1.toList) = false := by simp
          have r3 : (x0 == x0) = true := by simp
          have r4 : (x2 == x2) = true := by simp
          have HAG := Lib.hid hag
          have r5 : x1.toList.isEmpty = false := by
            rw [ByteArray.toList_eq]
            cases hl : x1.data.toList with
            | nil =>
              have : x1.size = x1.data.toList.length := by rw [Array.length_toList]; rfl
              rw [hl, hsz] at this; exact absurd this (by decide)
            | cons _ _ => rfl
          clear hx5 hx4 hxg hz4 hbx hb4 h5 hk5 ho5 KTx H3 HM3 HB3 HD HST hgmx hag
          go_wp2_with fail
          refine ⟨⟨x2, j + 1, rfl, by congr 1, by omega, ?_⟩, by simp [intOf]; omega⟩
          obtain ⟨v, s, q1, q2, q3, q4⟩ := HX.out
          exact Lib.hid ⟨v, s, q1.bel (Bel.alloc _ _), by rw [show m - (j + 1) = m - j - 1 by omega]; exact q2, TMap.below q3 (Bel.alloc _ _), q4.trans (Bel.alloc _ _)⟩
        · obtain rfl : j = m := by omega
          have hlt' : decide ((j : Int) < j) = false := by simp
          have hs0 : s.rs.length = 0 := by rw [HD.out.len]; omega
          have HO := Lib.hid (KO0.out wj g v s hs0 H1.out)
          have KLx := Lib.hid (fun w1 (h : IsQ w1 w.heap.size g v s) => KL.out w1 g v s h)
          rw [hs0] at KLx
          have hel : elV el0 = .agg #[.int .i64 0, .string ⟨#[]⟩, .int .i64 0] := rfl
          rw [hel] at HO
          clear hel hs0
          go_wp2_with fail
          refine (HO.out).mono ?_
          rintro e w3 ⟨rfl, hb3⟩
          have H3 := Lib.hid (H1.out.bel hb3)
          have HB3 := Lib.hid (HBw.out.trans hb3)
          clear hb3 HO H1 HBw HM HD
          go_wp2_with fail
          refine calls_gen (fun W => Bel w3 W) (Bel.alloc _ _) ?_
          rintro W4 hb4
          refine (K8.out _).mono ?_
          rintro e w5 ⟨rfl, hb5⟩
          have H5 := Lib.hid (H3.out.bel (hb4.trans hb5))
          have HB5 := Lib.hid (HB3.out.trans (hb4.trans hb5))
          clear hb4 hb5 H3 HB3
          go_wp2_with fail
          refine (KLx.out _ H5.out).mono ?_
          rintro e w6 ⟨rfl, hb6⟩
          have hfin := HB5.out.trans hb6
          clear hb6
          go_wp2_with fail
          go_ret
          exact ⟨rfl, hfin⟩
end Go.Proofs.Ytffegfidaolgjaa
