/- Queue: the walk of wakes. -/
import Derived.Test.YtffegfidaolgjaaQW
set_option linter.unusedVariables false
set_option linter.unusedSimpArgs false
namespace Go.Proofs.Ytffegfidaolgjaa
open Go.RowKit
theorem up0 : Rising [] := fun i j _ h => by simp at h
theorem up1 (x : El) : Rising [x] := fun i j hij h => by simp at h; omega
theorem up2 {x y : El} (hxy : x.f0 < y.f0) : Rising [x, y] := fun i j hij h => by
  simp at h
  obtain ⟨rfl, rfl⟩ : i = 0 ∧ j = 1 := by omega
  simpa [nth] using hxy
theorem wq1 (a : ByteArray) (ha : a.size = 64) : putE ⟨2, 0, []⟩ 5 a = 0 ∧ putS ⟨2, 0, []⟩ 5 a = ⟨2, 1, [⟨5, a, 0⟩]⟩ := by
  have e : putE ⟨2, 0, []⟩ 5 a = 0 := by simp [putE, ha, has, isAt, pos, fullP]
  exact ⟨e, by unfold putS; rw [if_pos e]; simp [putR, has, isAt, pos]⟩
theorem wq2 (a b : ByteArray) (hb : b.size = 64) : putE ⟨2, 1, [⟨5, a, 0⟩]⟩ 7 b = 0 ∧ putS ⟨2, 1, [⟨5, a, 0⟩]⟩ 7 b = ⟨2, 2, [⟨5, a, 0⟩, ⟨7, b, 1⟩]⟩ := by
  have e : putE ⟨2, 1, [⟨5, a, 0⟩]⟩ 7 b = 0 := by simp [putE, hb, has, isAt, pos, fullP]
  exact ⟨e, by unfold putS; rw [if_pos e]; simp [putR, has, isAt, pos]⟩
theorem wq3 (a b c : ByteArray) (hc : c.size = 64) : putE ⟨2, 2, [⟨5, a, 0⟩, ⟨7, b, 1⟩]⟩ 5 c = 0 ∧ putS ⟨2, 2, [⟨5, a, 0⟩, ⟨7, b, 1⟩]⟩ 5 c = ⟨2, 3, [⟨5, c, 0⟩, ⟨7, b, 1⟩]⟩ := by
  have e : putE ⟨2, 2, [⟨5, a, 0⟩, ⟨7, b, 1⟩]⟩ 5 c = 0 := by simp [putE, hc, has, isAt, pos, nth]
  exact ⟨e, by unfold putS; rw [if_pos e]; simp [putR, has, isAt, pos, nth]⟩
theorem wq4 (b c d : ByteArray) (hd : d.size = 64) : putE ⟨2, 3, [⟨5, c, 0⟩, ⟨7, b, 1⟩]⟩ 6 d = 10 ∧ putS ⟨2, 3, [⟨5, c, 0⟩, ⟨7, b, 1⟩]⟩ 6 d = ⟨2, 3, [⟨5, c, 0⟩, ⟨7, b, 1⟩]⟩ := by
  have e : putE ⟨2, 3, [⟨5, c, 0⟩, ⟨7, b, 1⟩]⟩ 6 d = 10 := by simp [putE, hd, has, isAt, pos, nth, fullP]
  exact ⟨e, by unfold putS; rw [if_neg (by rw [e]; decide)]⟩
attribute [local go_sem high] eq33
set_option maxHeartbeats 8000000 in
set_option maxRecDepth 100000 in
theorem wakesQ (w : World) : Calls Try.prog 14 #[] w fun e w' => e = .returned (.bool true) ∧ Bel w w' := by
  obtain ⟨base, hbase⟩ : ∃ base, base = w.heap.size := ⟨_, rfl⟩
  have HBase := Lib.hid hbase
  clear hbase
  have KN := Lib.hid (newQ 2)
  have hm : max (1 : Int) (min 2 256) = 2 := by decide
  rw [hm] at KN
  have Sa := Lib.hid (fun w => secB 97 false w)
  have Sb := Lib.hid (fun w => secB 98 false w)
  have Sc := Lib.hid (fun w => secB 99 false w)
  have Sd := Lib.hid (fun w => secB 100 false w)
  have za : (secV 97 false).size = 64 := secV_size 97 false
  have zb : (secV 98 false).size = 64 := secV_size 98 false
  have zc : (secV 99 false).size = 64 := secV_size 99 false
  have zd : (secV 100 false).size = 64 := secV_size 100 false
  generalize secV 97 false = a at *
  generalize secV 98 false = b at *
  generalize secV 99 false = c at *
  generalize secV 100 false = d at *
  have P1 := Lib.hid (fun w1 g v (hb : base ≤ w1.heap.size) h => putQ w1 base g v ⟨2, 0, []⟩ 5 a up0 (by simp) (by omega) (by simp) (by simp) hb h)
  have P2 := Lib.hid (fun w1 g v (hb : base ≤ w1.heap.size) h => putQ w1 base g v ⟨2, 1, [⟨5, a, 0⟩]⟩ 7 b (up1 _) (by simp) (by omega) (by simp) (by simp) hb h)
  have P3 := Lib.hid (fun w1 g v (hb : base ≤ w1.heap.size) h => putQ w1 base g v ⟨2, 2, [⟨5, a, 0⟩, ⟨7, b, 1⟩]⟩ 5 c (up2 (by simp)) (by simp) (by omega) (by simp) (by simp) hb h)
  have P4 := Lib.hid (fun w1 g v (hb : base ≤ w1.heap.size) h => putQ w1 base g v ⟨2, 3, [⟨5, c, 0⟩, ⟨7, b, 1⟩]⟩ 6 d (up2 (by simp)) (by simp) (by omega) (by simp) (by simp) hb h)
  rw [(wq1 a za).1, (wq1 a za).2] at P1
  rw [(wq2 a b zb).1, (wq2 a b zb).2] at P2
  rw [(wq3 a b c zc).1, (wq3 a b c zc).2] at P3
  rw [(wq4 b c d zd).1, (wq4 b c d zd).2] at P4
  have KI := Lib.hid (fun w1 g v h => itemsQ w1 base g v ⟨2, 3, [⟨5, c, 0⟩, ⟨7, b, 1⟩]⟩ h (by simp))
  have KC := Lib.hid (fun w1 g v h => clockQ w1 base g v ⟨2, 3, [⟨5, c, 0⟩, ⟨7, b, 1⟩]⟩ h)
  clear hm za zb zc zd
  go_enter Try.func14, Try.ntmps14
  go_wp2_with fail
  refine (KN.out _).mono ?_
  rintro e w1 ⟨rfl, hb1, hlt1, hI⟩
  have hI0 := hI base
  obtain ⟨g, hg⟩ : ∃ g, g = w.heap.size := ⟨_, rfl⟩
  rw [← hg] at hI0 hlt1 ⊢
  have HB1 := Lib.hid hb1
  have HI1 := Lib.hid hI0
  have HG := Lib.hid hg
  clear hb1 hI hI0 KN hg hlt1
  go_wp2_with fail
  refine (Sa.out _).mono ?_
  rintro e w2 ⟨rfl, hb2⟩
  have HI2 := Lib.hid (HI1.out.bel hb2)
  have HB2 := Lib.hid (HB1.out.trans hb2)
  clear hb2 HI1 HB1
  go_wp2_with fail
  refine (P1.out _ _ _ (by have := HB2.out.size; have := HBase.out; omega) HI2.out).mono ?_
  rintro e w3 ⟨v3, rfl, h3, hk3⟩
  have HI3 := Lib.hid h3
  have HK3 := Lib.hid hk3
  clear h3 hk3 HI2
  go_wp2_with fail
  refine (Sb.out _).mono ?_
  rintro e w4 ⟨rfl, hb4⟩
  have HI4 := Lib.hid (HI3.out.bel hb4)
  have HK4 := Lib.hid (HK3.out.trans (Kp.of_bel hb4))
  clear hb4 HI3 HK3
  go_wp2_with fail
  refine (P2.out _ _ _ (by have := HB2.out.size; have := HK4.out.size; have := HBase.out; omega) HI4.out).mono ?_
  rintro e w5 ⟨v5, rfl, h5, hk5⟩
  have HI5 := Lib.hid h5
  have HK5 := Lib.hid (HK4.out.trans hk5)
  clear h5 hk5 HI4 HK4
  go_wp2_with fail
  refine (Sc.out _).mono ?_
  rintro e w6 ⟨rfl, hb6⟩
  have HI6 := Lib.hid (HI5.out.bel hb6)
  have HK6 := Lib.hid (HK5.out.trans (Kp.of_bel hb6))
  clear hb6 HI5 HK5
  go_wp2_with fail
  refine (P3.out _ _ _ (by have := HB2.out.size; have := HK6.out.size; have := HBase.out; omega) HI6.out).mono ?_
  rintro e w7 ⟨v7, rfl, h7, hk7⟩
  have HI7 := Lib.hid h7
  have HK7 := Lib.hid (HK6.out.trans hk7)
  clear h7 hk7 HI6 HK6
  go_wp2_with fail
  refine (Sd.out _).mono ?_
  rintro e w8 ⟨rfl, hb8⟩
  have HI8 := Lib.hid (HI7.out.bel hb8)
  have HK8 := Lib.hid (HK7.out.trans (Kp.of_bel hb8))
  clear hb8 HI7 HK7
  go_wp2_with fail
  refine (P4.out _ _ _ (by have := HB2.out.size; have := HK8.out.size; have := HBase.out; omega) HI8.out).mono ?_
  rintro e w9 ⟨v9, rfl, h9, hk9⟩
  have HI9 := Lib.hid h9
  have HK9 := Lib.hid (HK8.out.trans hk9)
  clear h9 hk9 HI8 HK8
  go_wp2_with fail
  refine (KI.out _ _ _ HI9.out).mono ?_
  rintro e u0 ⟨vi, rfl, hr, hbu⟩
  obtain ⟨g', cc, rfl, hcell⟩ := hr.lit (by simp)
  have HC := Lib.hid (fun wx (h : Bel u0 wx) => (⟨cellB h (hcell 0 _ rfl), cellB h (hcell 1 _ rfl), cellB h (hcell 2 _ rfl), cellB h (hcell 3 _ rfl), cellB h (hcell 4 _ rfl), cellB h (hcell 5 _ rfl)⟩ :
    wx.cell? ⟨g', 0, none⟩ = some (.int .i64 5) ∧ wx.cell? ⟨g', 1, none⟩ = some (.string c) ∧ wx.cell? ⟨g', 2, none⟩ = some (.int .i64 0) ∧ wx.cell? ⟨g', 3, none⟩ = some (.int .i64 7) ∧ wx.cell? ⟨g', 4, none⟩ = some (.string b) ∧ wx.cell? ⟨g', 5, none⟩ = some (.int .i64 1)))
  have hfin0 : Bel w u0 := by
    have h := HK9.out.trans (Kp.of_bel hbu)
    rw [HBase.out] at h
    exact Kp.below' (base := base) HB2.out h (by have := HG.out; omega)
  have HF := Lib.hid hfin0
  have L24 := Lib.hid (fun wx (h : Bel u0 wx) => KC.out wx g _ ((HI9.out.bel hbu).bel h))
  have L11c := Lib.hid (fun wx (h : Bel u0 wx) => Sc.out wx)
  have L11b := Lib.hid (fun wx (h : Bel u0 wx) => Sb.out wx)
  have q0 := fun wx h => (HC.out wx h).1
  have q1 := fun wx h => (HC.out wx h).2.1
  have q2 := fun wx h => (HC.out wx h).2.2.1
  have q3 := fun wx h => (HC.out wx h).2.2.2.1
  have q4 := fun wx h => (HC.out wx h).2.2.2.2.1
  have q5 := fun wx h => (HC.out wx h).2.2.2.2.2
  have rc : (c.toList == c.toList) = true := by simp
  have rb : (b.toList == b.toList) = true := by simp
  have hU := Bel.refl u0
  simp only [List.length_cons, List.length_nil, Nat.zero_add, Nat.reduceAdd]
  clear hcell hr hbu hfin0 HI9 HK9 HB2 KC KI P1 P2 P3 P4 Sa Sb Sc Sd HC
  go_wp2_with fail
  go_region_held3 (fun w' => Bel u0 w') (first | assumption | exact Bel.drew _ | exact Bel.trans (by assumption) (Bel.drew _) | exact Bel.trans (by assumption) (by assumption)) ((first | (go_at_call 11; first | ((with_reducible refine (L11c.out _ (by assumption)).mono ?_); rintro e wc1 ⟨rfl, hbc1⟩) | ((with_reducible refine (L11b.out _ (by assumption)).mono ?_); rintro e wc2 ⟨rfl, hbc2⟩)) | (go_at_call 24; refine (L24.out _ (by assumption)).mono ?_; rintro e wc3 ⟨rfl, hbc3⟩)))
  all_goals
    go_wp2_with fail
    go_ret
    exact ⟨rfl, HF.out.trans (by assumption)⟩
end Go.Proofs.Ytffegfidaolgjaa
