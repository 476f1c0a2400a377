/- Spans: the walk of SpansGood. -/
import Derived.Test.YtjgekbakommkmaaHas
import Derived.Test.YtjgekbakommkmaaChange
set_option linter.unusedVariables false
set_option linter.unusedSimpArgs false
namespace Go.Proofs.Ytjgekbakommkmaa
open Go.RowKit Go.Proofs.YtjgekbakommkmaaW.PrintWords Go.Proofs.YtjgekbakommkmaaW.PrintMore
open PSpansChange Pl
theorem w64k {x : Int} (h1 : -9223372036854775808 ≤ x) (h2 : x ≤ 9223372036854775807) : IntKind.i64.wrap x = x := by
  unfold IntKind.wrap
  simp [IntKind.bits, IntKind.signed]
  omega
theorem lenB (s : Sp) (w : World) : Calls Try.prog 22 #[.agg #[.int .i64 s.1, .int .i64 s.2]] w fun e w' => e = .returned (.int .i64 (if ok1 s = true then s.2 - s.1 else 0)) ∧ Bel w w' := by
  refine spans_Span_Len.calls s.1 s.2 _ w ?_
  unfold spans_Span_Len.f
  rw [sgood_f s, Option.bind_some]
  by_cases h : ok1 s = true
  · have := (ok1_iff s).1 h
    rw [if_pos h, if_pos h, w64 (by omega) (by omega)]
  · rw [if_neg h, if_neg h]
set_option maxHeartbeats 8000000 in
set_option maxRecDepth 100000 in
theorem lawGoodW (x0 x1 : Int) (A : Option Addr) (c : Nat) (l : List Sp) (at_ : Int) (hc : l.length ≤ c) (w : World) (hC : Kd.C k30 w A l.length (m30 l)) :
    Calls Try.prog 5 #[.agg #[.int .i64 x0, .int .i64 x1], .slice A l.length c, .int .i64 at_] w fun e w' => e = .returned (.bool true) ∧ Bel w w' := by
  have KL := Lib.hid (fun w h => listsF A c l hc w h)
  have KM := Lib.hid (fun w h => listsT A c l hc w h)
  have HC := Lib.hid hC
  have hal : (listF (l.take 40) false).length ≤ 40 := Nat.le_trans (listF_len _ _) (by simp; omega)
  have hbl : (listF (l.take 40) true).length ≤ 40 := Nat.le_trans (listF_len _ _) (by simp; omega)
  have hbg : gl (listF (l.take 40) true) = true := (gl_iff _).2 (listF_good _)
  generalize listF (l.take 40) false = a at *
  generalize listF (l.take 40) true = b at *
  clear hC
  have KW := Lib.hid wakesB
  have KX := Lib.hid (fun w => sgoodB (x0, x1) w)
  have KY := Lib.hid (fun w => oneB (x0, x1) w)
  have KN := Lib.hid (fun w => lenB (x0, x1) w)
  have KHa := Lib.hid (fun A c v hc w h => phasB A c a v (by omega) hc w h)
  have KHb := Lib.hid (fun A c v hc w h => phasB A c b v (by omega) hc w h)
  have KRa := Lib.hid (fun A c v hc w h => rhasB A c a v (by omega) hc w h)
  have KRb := Lib.hid (fun A c v hc w h => rhasB A c b v (by omega) hc w h)
  have KGa := Lib.hid (fun A c hc w h => rgoodB A c a (by omega) hc w h)
  have KLa := Lib.hid (fun A c hc w h => lgoodB A c a (by omega) hc w h)
  have KTa := Lib.hid (fun A c hc w h => ptotB A c a (by omega) hc w h)
  have KTb := Lib.hid (fun A c hc w h => ptotB A c b (by omega) hc w h)
  have KUa := Lib.hid (fun A c hc w h => rtotB A c a (by omega) hc w h)
  have KUb := Lib.hid (fun A c hc w h => rtotB A c b (by omega) hc w h)
  rw [hbg] at KHb
  simp only [Bool.true_and] at KHb
  clear hbg
  generalize gl a = ga at *
  generalize totE a = ta at *
  generalize totE b = tb at *
  have hw := fun h : ok1 (x0, x1) = true => (ok1_iff (x0, x1)).1 h
  simp only [] at hw
  go_enter Try.func5, Try.ntmps5
  go_wp2_with fail
  refine calls_gen (fun W => Bel w W ∧ W.heap[w.heap.size]? = some (.cells #[.int .i64 x0, .int .i64 x1] 24 (0, 0))) ⟨Bel.alloc _ _, heap_alloc_new _ _⟩ ?_
  rintro W0 ⟨hB0, hx⟩
  refine (KL.out W0 (Kd.C_below HC.out hB0)).mono ?_
  rintro e w1 ⟨v1, v1', rfl, hr1, hr1', hb1⟩
  obtain ⟨A1, c1, rfl, hc1, hC1⟩ := cells30 hr1
  obtain ⟨B1, d1, rfl, hd1, hD1⟩ := cells31 hr1'
  have HB1 := Lib.hid (hB0.trans hb1)
  have HX1 := Lib.hid (blk_below hx hb1)
  have HC1 := Lib.hid hC1
  have HD1 := Lib.hid hD1
  clear hr1 hr1' hC1 hD1 hb1 hB0 hx KL
  go_wp2_with fail
  refine (KM.out _ (Kd.C_below HC.out HB1.out)).mono ?_
  rintro e w2 ⟨v2, v2', rfl, hr2, hr2', hb2⟩
  obtain ⟨A2, c2, rfl, hc2, hC2⟩ := cells30 hr2
  obtain ⟨B2, d2, rfl, hd2, hD2⟩ := cells31 hr2'
  have HB2 := Lib.hid (HB1.out.trans hb2)
  have HX2 := Lib.hid (blk_below HX1.out hb2)
  have HC12 := Lib.hid (Kd.C_below HC1.out hb2)
  have HD12 := Lib.hid (Kd.C_below HD1.out hb2)
  have HC2 := Lib.hid hC2
  have HD2 := Lib.hid hD2
  clear hr2 hr2' hC2 hD2 hb2 KM HB1 HC1 HD1 HX1
  have b0 := blk_cell HX2.out 0
  have b1 := blk_cell HX2.out 1
  go_wp2_with fail
  have a0 := fun o => cellB (Bel.alloc w2 o) b0
  have a1 := fun o => cellB (Bel.alloc w2 o) b1
  have e0 := fun o o' => cellB (Bel.alloc (w2.alloc o) o') (a0 o)
  have e1 := fun o o' => cellB (Bel.alloc (w2.alloc o) o') (a1 o)
  go_cut [11, 12] (fun s9 s10 wx => ∃ p q : Nat, s9 = .pointer (some ⟨p, 0, none⟩) ∧ s10 = .pointer (some ⟨q, 0, none⟩) ∧ Bel w2 wx ∧ wx.heap[p]? = some (.cells #[.int .i64 x0, .int .i64 x1] 30 (0, 0)) ∧ wx.heap[q]? = some (.cells #[.int .i64 x0, .int .i64 x1] 31 (0, 0)))
  case first =>
    go_region
    all_goals
      go_wp2_with fail
      go_meet
      first
        | exact ⟨_, _, rfl, rfl, ((Bel.alloc w2 _).trans (Bel.alloc _ _)).trans (Bel.drew _), (Below.heap_alloc _ _ _ (by simp)).trans (heap_alloc_new _ _), heap2 _ _ _⟩
        | exact ⟨_, _, rfl, rfl, ((Bel.alloc w2 _).trans (Bel.alloc _ _)).trans (Bel.drew _), heap2 _ _ _, (Below.heap_alloc _ _ _ (by simp)).trans (heap_alloc_new _ _)⟩
  case rest =>
    obtain ⟨p, q, rfl, rfl, hB2, hp, hq⟩ := hcut
    clear a0 a1 e0 e1
    have HB3 := Lib.hid (HB2.out.trans hB2)
    have HP3 := Lib.hid hp
    have HQ3 := Lib.hid hq
    have HC13 := Lib.hid (Kd.C_below HC12.out hB2)
    have HD13 := Lib.hid (Kd.C_below HD12.out hB2)
    have HC23 := Lib.hid (Kd.C_below HC2.out hB2)
    have HD23 := Lib.hid (Kd.C_below HD2.out hB2)
    clear b0 b1 hB2 hp hq HB2 HX2 HC12 HD12 HC2 HD2
    have q0 := blk_cell HQ3.out 0
    have q1 := blk_cell HQ3.out 1
    go_wp2_with fail
    refine (KY.out _).mono ?_
    rintro e w4 ⟨rfl, hb4⟩
    have HB4 := Lib.hid (HB3.out.trans hb4)
    have HP4 := Lib.hid (blk_below HP3.out hb4)
    have HQ4 := Lib.hid (blk_below HQ3.out hb4)
    have HC14 := Lib.hid (Kd.C_below HC13.out hb4)
    have HD14 := Lib.hid (Kd.C_below HD13.out hb4)
    have HC24 := Lib.hid (Kd.C_below HC23.out hb4)
    have HD24 := Lib.hid (Kd.C_below HD23.out hb4)
    clear q0 q1 hb4 HB3 HP3 HQ3 HC13 HD13 HC23 HD23
    have hC4 := Lib.hid (fun wx (h : Bel w4 wx) => (⟨Kd.C_below HC14.out h, Kd.C_below HD14.out h, Kd.C_below HC24.out h, Kd.C_below HD24.out h, blk_cell (blk_below HP4.out h) 0, blk_cell (blk_below HP4.out h) 1, blk_cell (blk_below HQ4.out h) 0, blk_cell (blk_below HQ4.out h) 1⟩ :
      Kd.C k30 wx A1 a.length (m30 a) ∧ Kd.C k31 wx B1 a.length (m31 a) ∧ Kd.C k30 wx A2 b.length (m30 b) ∧ Kd.C k31 wx B2 b.length (m31 b) ∧ wx.cell? ⟨p, 0, none⟩ = some (.int .i64 x0) ∧ wx.cell? ⟨p, 1, none⟩ = some (.int .i64 x1) ∧ wx.cell? ⟨q, 0, none⟩ = some (.int .i64 x0) ∧ wx.cell? ⟨q, 1, none⟩ = some (.int .i64 x1)))
    have q0 := blk_cell HQ4.out 0
    have q1 := blk_cell HQ4.out 1
    clear HP4 HQ4 HC14 HD14 HC24 HD24
    obtain ⟨N, hN⟩ : ∃ N, N = (if ok1 (x0, x1) = true then x1 - x0 else 0) := ⟨_, rfl⟩
    have HN1 : ok1 (x0, x1) = true → x1 - x0 = N := fun h => by rw [hN, if_pos h]
    have HN2 : ok1 (x0, x1) = false → N = 0 := fun h => by rw [hN, h]; simp
    rw [← hN] at KN
    clear hN
    cases hkx : ok1 (x0, x1)
    · have e0 := HN2 hkx
      subst e0
      clear HN1 HN2 hw
      rw [hkx] at KX KY
      clear hkx
      go_wp2_with fail
      generalize bits BinOp.and IntKind.i64 at_ 63 = P2 at *
      refine wp_gen (fun W => Bel w4 W ∧ W.heap[w4.heap.size]? = some (.cells #[.int .i64 at_, .int .i64 P2] 3 (0, 0))) ⟨Bel.alloc _ _, heap_alloc_new _ _⟩ ?_
      rintro W5 ⟨hB5, hf5⟩
      have HB5 := Lib.hid (HB4.out.trans hB5)
      have HF5 := Lib.hid hf5
      have CC := Lib.hid (fun wx (h : Bel W5 wx) => hC4.out wx (hB5.trans h))
      clear hB5 hf5 hC4 HB4 q0 q1
      go_loopw [40] (fun v40 wr => (v40 = .int .i64 0 ∨ v40 = .int .i64 1 ∨ v40 = .int .i64 2) ∧ Hid (Bel W5 wr)) (fun v40 _ => (2 - intOf v40).toNat)
      case atStart => exact ⟨Or.inl rfl, Lib.hid (Bel.refl _)⟩
      case round =>
       obtain ⟨wi, rfl⟩ : ∃ wi : World, wi = wr := ⟨_, rfl⟩
       obtain ⟨hv2, HI2⟩ := hrel
       rcases hv2 with rfl | rfl | rfl
       · skip
         have tf := blk_cell (blk_below HF5.out HI2.out) 0
         go_wp2_with fail
         obtain ⟨f1, f2, f3, f4, _⟩ := CC.out wi HI2.out
         refine (KHa.out A1 c1 at_ hc1 _ f1).mono ?_
         rintro e wa ⟨rfl, hba⟩
         have HIa := Lib.hid (HI2.out.trans hba)
         clear hba tf f1 f2 f3 f4
         obtain ⟨f1, f2, f3, f4, _⟩ := CC.out wa HIa.out
         go_wp2_with fail
         refine (KGa.out B1 d1 hd1 _ f2).mono ?_
         rintro e wb ⟨rfl, hbb⟩
         have HIb := Lib.hid (HIa.out.trans hbb)
         clear hbb f1 f2 f3 f4 HIa HI2
         obtain ⟨f1, f2, f3, f4, _⟩ := CC.out wb HIb.out
         have KRv := Lib.hid (fun w h => KRa.out B1 d1 at_ hd1 w h)
         have KHv := Lib.hid (fun w h => KHb.out A2 c2 at_ hc2 w h)
         have KSv := Lib.hid (fun w h => KRb.out B2 d2 at_ hd2 w h)
         generalize hasB a at_ = ha at *
         generalize hasB b at_ = hb at *
         have hha : (ha != ha) = false := by simp
         have hhb : (hb != hb) = false := by simp
         cases ga
         · go_wp2_with fail
           refine (KHv.out _ f3).mono ?_
           rintro e wd ⟨rfl, hbd⟩
           have HId := Lib.hid (HIb.out.trans hbd)
           clear hbd f1 f2 f3 f4 HIb
           obtain ⟨f1, f2, f3, f4, _⟩ := CC.out wd HId.out
           go_wp2_with fail
           refine (KSv.out _ f4).mono ?_
           rintro e we ⟨rfl, hbe⟩
           have HFI := Lib.hid (HId.out.trans hbe)
           clear hbe f1 f2 f3 f4 HId
           go_wp2_with fail
           exact ⟨⟨by simp, HFI⟩, by simp [intOf]⟩
         · go_wp2_with fail
           refine (KRv.out _ f2).mono ?_
           rintro e wc ⟨rfl, hbc⟩
           have HIc := Lib.hid (HIb.out.trans hbc)
           clear hbc f1 f2 f3 f4 HIb
           obtain ⟨f1, f2, f3, f4, _⟩ := CC.out wc HIc.out
           go_wp2_with fail
           refine (KHv.out _ f3).mono ?_
           rintro e wd ⟨rfl, hbd⟩
           have HId := Lib.hid (HIc.out.trans hbd)
           clear hbd f1 f2 f3 f4 HIc
           obtain ⟨f1, f2, f3, f4, _⟩ := CC.out wd HId.out
           go_wp2_with fail
           refine (KSv.out _ f4).mono ?_
           rintro e we ⟨rfl, hbe⟩
           have HFI := Lib.hid (HId.out.trans hbe)
           clear hbe f1 f2 f3 f4 HId
           go_wp2_with fail
           exact ⟨⟨by simp, HFI⟩, by simp [intOf]⟩
       · skip
         have tf := blk_cell (blk_below HF5.out HI2.out) 1
         go_wp2_with fail
         obtain ⟨f1, f2, f3, f4, _⟩ := CC.out wi HI2.out
         refine (KHa.out A1 c1 P2 hc1 _ f1).mono ?_
         rintro e wa ⟨rfl, hba⟩
         have HIa := Lib.hid (HI2.out.trans hba)
         clear hba tf f1 f2 f3 f4
         obtain ⟨f1, f2, f3, f4, _⟩ := CC.out wa HIa.out
         go_wp2_with fail
         refine (KGa.out B1 d1 hd1 _ f2).mono ?_
         rintro e wb ⟨rfl, hbb⟩
         have HIb := Lib.hid (HIa.out.trans hbb)
         clear hbb f1 f2 f3 f4 HIa HI2
         obtain ⟨f1, f2, f3, f4, _⟩ := CC.out wb HIb.out
         have KRv := Lib.hid (fun w h => KRa.out B1 d1 P2 hd1 w h)
         have KHv := Lib.hid (fun w h => KHb.out A2 c2 P2 hc2 w h)
         have KSv := Lib.hid (fun w h => KRb.out B2 d2 P2 hd2 w h)
         generalize hasB a P2 = ha at *
         generalize hasB b P2 = hb at *
         have hha : (ha != ha) = false := by simp
         have hhb : (hb != hb) = false := by simp
         cases ga
         · go_wp2_with fail
           refine (KHv.out _ f3).mono ?_
           rintro e wd ⟨rfl, hbd⟩
           have HId := Lib.hid (HIb.out.trans hbd)
           clear hbd f1 f2 f3 f4 HIb
           obtain ⟨f1, f2, f3, f4, _⟩ := CC.out wd HId.out
           go_wp2_with fail
           refine (KSv.out _ f4).mono ?_
           rintro e we ⟨rfl, hbe⟩
           have HFI := Lib.hid (HId.out.trans hbe)
           clear hbe f1 f2 f3 f4 HId
           go_wp2_with fail
           exact ⟨⟨by simp, HFI⟩, by simp [intOf]⟩
         · go_wp2_with fail
           refine (KRv.out _ f2).mono ?_
           rintro e wc ⟨rfl, hbc⟩
           have HIc := Lib.hid (HIb.out.trans hbc)
           clear hbc f1 f2 f3 f4 HIb
           obtain ⟨f1, f2, f3, f4, _⟩ := CC.out wc HIc.out
           go_wp2_with fail
           refine (KHv.out _ f3).mono ?_
           rintro e wd ⟨rfl, hbd⟩
           have HId := Lib.hid (HIc.out.trans hbd)
           clear hbd f1 f2 f3 f4 HIc
           obtain ⟨f1, f2, f3, f4, _⟩ := CC.out wd HId.out
           go_wp2_with fail
           refine (KSv.out _ f4).mono ?_
           rintro e we ⟨rfl, hbe⟩
           have HFI := Lib.hid (HId.out.trans hbe)
           clear hbe f1 f2 f3 f4 HId
           go_wp2_with fail
           exact ⟨⟨by simp, HFI⟩, by simp [intOf]⟩
       · have HU0 := Lib.hid HI2.out
         obtain ⟨u0, rfl⟩ : ∃ u0 : World, u0 = wi := ⟨_, rfl⟩
         clear HI2 HF5
         have hga : (ga == ga) = true := by simp
         have hNN : ((0 : Int) == 0) = true := by simp
         have hta : (ta == ta) = true := by simp
         have htb : (tb == tb) = true := by simp
         have L1 := Lib.hid (fun wx (h : Bel u0 wx) => KW.out wx)
         have L2 := Lib.hid (fun wx (h : Bel u0 wx) => KX.out wx)
         have L3 := Lib.hid (fun wx (h : Bel u0 wx) => KY.out wx)
         have L4 := Lib.hid (fun wx (h : Bel u0 wx) => KN.out wx)
         have L5 := Lib.hid (fun wx (h : Bel u0 wx) => KLa.out A1 c1 hc1 wx (CC.out wx (HU0.out.trans h)).1)
         have L6 := Lib.hid (fun wx (h : Bel u0 wx) => KGa.out B1 d1 hd1 wx (CC.out wx (HU0.out.trans h)).2.1)
         have L7 := Lib.hid (fun wx (h : Bel u0 wx) => KTa.out A1 c1 hc1 wx (CC.out wx (HU0.out.trans h)).1)
         have L8 := Lib.hid (fun wx (h : Bel u0 wx) => KUa.out B1 d1 hd1 wx (CC.out wx (HU0.out.trans h)).2.1)
         have L9 := Lib.hid (fun wx (h : Bel u0 wx) => KTb.out A2 c2 hc2 wx (CC.out wx (HU0.out.trans h)).2.2.1)
         have L10 := Lib.hid (fun wx (h : Bel u0 wx) => KUb.out B2 d2 hd2 wx (CC.out wx (HU0.out.trans h)).2.2.2.1)
         have f5 := fun wx (h : Bel u0 wx) => (CC.out wx (HU0.out.trans h)).2.2.2.2.1
         have f6 := fun wx (h : Bel u0 wx) => (CC.out wx (HU0.out.trans h)).2.2.2.2.2.1
         have f7 := fun wx (h : Bel u0 wx) => (CC.out wx (HU0.out.trans h)).2.2.2.2.2.2.1
         have f8 := fun wx (h : Bel u0 wx) => (CC.out wx (HU0.out.trans h)).2.2.2.2.2.2.2
         have HF := Lib.hid (HB5.out.trans HU0.out)
         clear KW KX KY KN KLa KGa KTa KUa KTb KUb CC HU0 HB5 KHa KHb KRa KRb
         have hU := Bel.refl u0
         go_wp2_with fail
         go_region_held3 (fun w' => Bel u0 w') (first | assumption | exact Bel.drew _ | exact Bel.trans (by assumption) (Bel.drew _) | exact Bel.trans (by assumption) (by assumption)) ((first | (go_at_call 16; refine (L1.out _ (by assumption)).mono ?_; rintro e wx1 ⟨rfl, hbx1⟩) | (go_at_call 17; refine (L2.out _ (by assumption)).mono ?_; rintro e wx2 ⟨rfl, hbx2⟩) | (go_at_call 18; refine (L3.out _ (by assumption)).mono ?_; rintro e wx3 ⟨rfl, hbx3⟩) | (go_at_call 22; refine (L4.out _ (by assumption)).mono ?_; rintro e wx4 ⟨rfl, hbx4⟩) | (go_at_call 23; refine (L5.out _ (by assumption)).mono ?_; rintro e wx5 ⟨rfl, hbx5⟩) | (go_at_call 20; refine (L6.out _ (by assumption)).mono ?_; rintro e wx6 ⟨rfl, hbx6⟩) | (go_at_call 24; first | ((with_reducible refine (L7.out _ (by assumption)).mono ?_); rintro e wx7 ⟨rfl, hbx7⟩) | ((with_reducible refine (L9.out _ (by assumption)).mono ?_); rintro e wx7' ⟨rfl, hbx7'⟩)) | (go_at_call 25; first | ((with_reducible refine (L8.out _ (by assumption)).mono ?_); rintro e wx8 ⟨rfl, hbx8⟩) | ((with_reducible refine (L10.out _ (by assumption)).mono ?_); rintro e wx8' ⟨rfl, hbx8'⟩))))
         all_goals
           go_wp2_with fail
           go_ret
           exact ⟨rfl, HF.out.trans (by assumption)⟩
    · obtain ⟨g1, g2, g3⟩ := hw hkx
      have e1 := HN1 hkx
      have ew : IntKind.i64.wrap (x1 - x0) = N := by rw [w64k (by omega) (by omega)]; exact e1
      clear HN1 HN2 hw g1 g2 g3 e1
      rw [hkx] at KX KY
      clear hkx
      go_wp2_with fail
      generalize bits BinOp.and IntKind.i64 at_ 63 = P2 at *
      refine wp_gen (fun W => Bel w4 W ∧ W.heap[w4.heap.size]? = some (.cells #[.int .i64 at_, .int .i64 P2] 3 (0, 0))) ⟨Bel.alloc _ _, heap_alloc_new _ _⟩ ?_
      rintro W5 ⟨hB5, hf5⟩
      have HB5 := Lib.hid (HB4.out.trans hB5)
      have HF5 := Lib.hid hf5
      have CC := Lib.hid (fun wx (h : Bel W5 wx) => hC4.out wx (hB5.trans h))
      clear hB5 hf5 hC4 HB4 q0 q1
      go_loopw [40] (fun v40 wr => (v40 = .int .i64 0 ∨ v40 = .int .i64 1 ∨ v40 = .int .i64 2) ∧ Hid (Bel W5 wr)) (fun v40 _ => (2 - intOf v40).toNat)
      case atStart => exact ⟨Or.inl rfl, Lib.hid (Bel.refl _)⟩
      case round =>
       obtain ⟨wi, rfl⟩ : ∃ wi : World, wi = wr := ⟨_, rfl⟩
       obtain ⟨hv2, HI2⟩ := hrel
       rcases hv2 with rfl | rfl | rfl
       · skip
         have tf := blk_cell (blk_below HF5.out HI2.out) 0
         go_wp2_with fail
         obtain ⟨f1, f2, f3, f4, _⟩ := CC.out wi HI2.out
         refine (KHa.out A1 c1 at_ hc1 _ f1).mono ?_
         rintro e wa ⟨rfl, hba⟩
         have HIa := Lib.hid (HI2.out.trans hba)
         clear hba tf f1 f2 f3 f4
         obtain ⟨f1, f2, f3, f4, _⟩ := CC.out wa HIa.out
         go_wp2_with fail
         refine (KGa.out B1 d1 hd1 _ f2).mono ?_
         rintro e wb ⟨rfl, hbb⟩
         have HIb := Lib.hid (HIa.out.trans hbb)
         clear hbb f1 f2 f3 f4 HIa HI2
         obtain ⟨f1, f2, f3, f4, _⟩ := CC.out wb HIb.out
         have KRv := Lib.hid (fun w h => KRa.out B1 d1 at_ hd1 w h)
         have KHv := Lib.hid (fun w h => KHb.out A2 c2 at_ hc2 w h)
         have KSv := Lib.hid (fun w h => KRb.out B2 d2 at_ hd2 w h)
         generalize hasB a at_ = ha at *
         generalize hasB b at_ = hb at *
         have hha : (ha != ha) = false := by simp
         have hhb : (hb != hb) = false := by simp
         cases ga
         · go_wp2_with fail
           refine (KHv.out _ f3).mono ?_
           rintro e wd ⟨rfl, hbd⟩
           have HId := Lib.hid (HIb.out.trans hbd)
           clear hbd f1 f2 f3 f4 HIb
           obtain ⟨f1, f2, f3, f4, _⟩ := CC.out wd HId.out
           go_wp2_with fail
           refine (KSv.out _ f4).mono ?_
           rintro e we ⟨rfl, hbe⟩
           have HFI := Lib.hid (HId.out.trans hbe)
           clear hbe f1 f2 f3 f4 HId
           go_wp2_with fail
           exact ⟨⟨by simp, HFI⟩, by simp [intOf]⟩
         · go_wp2_with fail
           refine (KRv.out _ f2).mono ?_
           rintro e wc ⟨rfl, hbc⟩
           have HIc := Lib.hid (HIb.out.trans hbc)
           clear hbc f1 f2 f3 f4 HIb
           obtain ⟨f1, f2, f3, f4, _⟩ := CC.out wc HIc.out
           go_wp2_with fail
           refine (KHv.out _ f3).mono ?_
           rintro e wd ⟨rfl, hbd⟩
           have HId := Lib.hid (HIc.out.trans hbd)
           clear hbd f1 f2 f3 f4 HIc
           obtain ⟨f1, f2, f3, f4, _⟩ := CC.out wd HId.out
           go_wp2_with fail
           refine (KSv.out _ f4).mono ?_
           rintro e we ⟨rfl, hbe⟩
           have HFI := Lib.hid (HId.out.trans hbe)
           clear hbe f1 f2 f3 f4 HId
           go_wp2_with fail
           exact ⟨⟨by simp, HFI⟩, by simp [intOf]⟩
       · skip
         have tf := blk_cell (blk_below HF5.out HI2.out) 1
         go_wp2_with fail
         obtain ⟨f1, f2, f3, f4, _⟩ := CC.out wi HI2.out
         refine (KHa.out A1 c1 P2 hc1 _ f1).mono ?_
         rintro e wa ⟨rfl, hba⟩
         have HIa := Lib.hid (HI2.out.trans hba)
         clear hba tf f1 f2 f3 f4
         obtain ⟨f1, f2, f3, f4, _⟩ := CC.out wa HIa.out
         go_wp2_with fail
         refine (KGa.out B1 d1 hd1 _ f2).mono ?_
         rintro e wb ⟨rfl, hbb⟩
         have HIb := Lib.hid (HIa.out.trans hbb)
         clear hbb f1 f2 f3 f4 HIa HI2
         obtain ⟨f1, f2, f3, f4, _⟩ := CC.out wb HIb.out
         have KRv := Lib.hid (fun w h => KRa.out B1 d1 P2 hd1 w h)
         have KHv := Lib.hid (fun w h => KHb.out A2 c2 P2 hc2 w h)
         have KSv := Lib.hid (fun w h => KRb.out B2 d2 P2 hd2 w h)
         generalize hasB a P2 = ha at *
         generalize hasB b P2 = hb at *
         have hha : (ha != ha) = false := by simp
         have hhb : (hb != hb) = false := by simp
         cases ga
         · go_wp2_with fail
           refine (KHv.out _ f3).mono ?_
           rintro e wd ⟨rfl, hbd⟩
           have HId := Lib.hid (HIb.out.trans hbd)
           clear hbd f1 f2 f3 f4 HIb
           obtain ⟨f1, f2, f3, f4, _⟩ := CC.out wd HId.out
           go_wp2_with fail
           refine (KSv.out _ f4).mono ?_
           rintro e we ⟨rfl, hbe⟩
           have HFI := Lib.hid (HId.out.trans hbe)
           clear hbe f1 f2 f3 f4 HId
           go_wp2_with fail
           exact ⟨⟨by simp, HFI⟩, by simp [intOf]⟩
         · go_wp2_with fail
           refine (KRv.out _ f2).mono ?_
           rintro e wc ⟨rfl, hbc⟩
           have HIc := Lib.hid (HIb.out.trans hbc)
           clear hbc f1 f2 f3 f4 HIb
           obtain ⟨f1, f2, f3, f4, _⟩ := CC.out wc HIc.out
           go_wp2_with fail
           refine (KHv.out _ f3).mono ?_
           rintro e wd ⟨rfl, hbd⟩
           have HId := Lib.hid (HIc.out.trans hbd)
           clear hbd f1 f2 f3 f4 HIc
           obtain ⟨f1, f2, f3, f4, _⟩ := CC.out wd HId.out
           go_wp2_with fail
           refine (KSv.out _ f4).mono ?_
           rintro e we ⟨rfl, hbe⟩
           have HFI := Lib.hid (HId.out.trans hbe)
           clear hbe f1 f2 f3 f4 HId
           go_wp2_with fail
           exact ⟨⟨by simp, HFI⟩, by simp [intOf]⟩
       · have HU0 := Lib.hid HI2.out
         obtain ⟨u0, rfl⟩ : ∃ u0 : World, u0 = wi := ⟨_, rfl⟩
         clear HI2 HF5
         have hga : (ga == ga) = true := by simp
         have hNN : (N == N) = true := by simp
         have hta : (ta == ta) = true := by simp
         have htb : (tb == tb) = true := by simp
         have L1 := Lib.hid (fun wx (h : Bel u0 wx) => KW.out wx)
         have L2 := Lib.hid (fun wx (h : Bel u0 wx) => KX.out wx)
         have L3 := Lib.hid (fun wx (h : Bel u0 wx) => KY.out wx)
         have L4 := Lib.hid (fun wx (h : Bel u0 wx) => KN.out wx)
         have L5 := Lib.hid (fun wx (h : Bel u0 wx) => KLa.out A1 c1 hc1 wx (CC.out wx (HU0.out.trans h)).1)
         have L6 := Lib.hid (fun wx (h : Bel u0 wx) => KGa.out B1 d1 hd1 wx (CC.out wx (HU0.out.trans h)).2.1)
         have L7 := Lib.hid (fun wx (h : Bel u0 wx) => KTa.out A1 c1 hc1 wx (CC.out wx (HU0.out.trans h)).1)
         have L8 := Lib.hid (fun wx (h : Bel u0 wx) => KUa.out B1 d1 hd1 wx (CC.out wx (HU0.out.trans h)).2.1)
         have L9 := Lib.hid (fun wx (h : Bel u0 wx) => KTb.out A2 c2 hc2 wx (CC.out wx (HU0.out.trans h)).2.2.1)
         have L10 := Lib.hid (fun wx (h : Bel u0 wx) => KUb.out B2 d2 hd2 wx (CC.out wx (HU0.out.trans h)).2.2.2.1)
         have f5 := fun wx (h : Bel u0 wx) => (CC.out wx (HU0.out.trans h)).2.2.2.2.1
         have f6 := fun wx (h : Bel u0 wx) => (CC.out wx (HU0.out.trans h)).2.2.2.2.2.1
         have f7 := fun wx (h : Bel u0 wx) => (CC.out wx (HU0.out.trans h)).2.2.2.2.2.2.1
         have f8 := fun wx (h : Bel u0 wx) => (CC.out wx (HU0.out.trans h)).2.2.2.2.2.2.2
         have HF := Lib.hid (HB5.out.trans HU0.out)
         clear KW KX KY KN KLa KGa KTa KUa KTb KUb CC HU0 HB5 KHa KHb KRa KRb
         have hU := Bel.refl u0
         go_wp2_with fail
         go_region_held3 (fun w' => Bel u0 w') (first | assumption | exact Bel.drew _ | exact Bel.trans (by assumption) (Bel.drew _) | exact Bel.trans (by assumption) (by assumption)) ((first | (go_at_call 16; refine (L1.out _ (by assumption)).mono ?_; rintro e wx1 ⟨rfl, hbx1⟩) | (go_at_call 17; refine (L2.out _ (by assumption)).mono ?_; rintro e wx2 ⟨rfl, hbx2⟩) | (go_at_call 18; refine (L3.out _ (by assumption)).mono ?_; rintro e wx3 ⟨rfl, hbx3⟩) | (go_at_call 22; refine (L4.out _ (by assumption)).mono ?_; rintro e wx4 ⟨rfl, hbx4⟩) | (go_at_call 23; refine (L5.out _ (by assumption)).mono ?_; rintro e wx5 ⟨rfl, hbx5⟩) | (go_at_call 20; refine (L6.out _ (by assumption)).mono ?_; rintro e wx6 ⟨rfl, hbx6⟩) | (go_at_call 24; first | ((with_reducible refine (L7.out _ (by assumption)).mono ?_); rintro e wx7 ⟨rfl, hbx7⟩) | ((with_reducible refine (L9.out _ (by assumption)).mono ?_); rintro e wx7' ⟨rfl, hbx7'⟩)) | (go_at_call 25; first | ((with_reducible refine (L8.out _ (by assumption)).mono ?_); rintro e wx8 ⟨rfl, hbx8⟩) | ((with_reducible refine (L10.out _ (by assumption)).mono ?_); rintro e wx8' ⟨rfl, hbx8'⟩))))
         all_goals
           go_wp2_with fail
           go_ret
           exact ⟨rfl, HF.out.trans (by assumption)⟩
end Go.Proofs.Ytjgekbakommkmaa
