/- Spans: the walk of SpansOrder. -/
import Derived.Test.YtjgekbakommkmaaListT
import Derived.Deep.DeepCutAuto
import Derived.Deep.RegionHeld3
import Derived.RegionTactic
import Derived.ChangeAlike
import Derived.BigRegion
set_option linter.unusedVariables false
set_option linter.unusedSimpArgs false
namespace Go.Proofs.Ytjgekbakommkmaa
open Go.RowKit Go.Proofs.YtjgekbakommkmaaW.PrintWords Go.Proofs.YtjgekbakommkmaaW.PrintMore
open PSpansChange Pl
theorem addG (l : List Sp) (s : Sp) (hl : GoodL l) (hs : ok1 s = true) (hlen : l.length ≤ 1000000) (A : Option Addr) (c : Nat) (hc : l.length ≤ c) (w : World) (hC : Kd.C k30 w A l.length (m30 l)) :
    Calls Try.prog 10 #[.slice A l.length c, .agg #[.int .i64 s.1, .int .i64 s.2]] w fun e w' => ∃ A' c', e = .returned (.tuple #[.slice A' (addF l s).length c', .int .i64 0]) ∧ (addF l s).length ≤ c' ∧ Kd.C k30 w' A' (addF l s).length (m30 (addF l s)) ∧ Bel w w' := by
  have := addB A c l s hlen hc w hC
  rw [may_zero hl hs] at this
  refine this.mono ?_
  rintro e w' ⟨v, rfl, hr, hb⟩
  simp only [errV, if_pos] at hr
  obtain ⟨A', c', rfl, h1, h2⟩ := cells30 hr
  exact ⟨A', c', rfl, h1, h2, hb⟩
theorem cutG' (l : List Sp) (s : Sp) (hl : GoodL l) (hs : ok1 s = true) (hlen : l.length ≤ 1000000) (A : Option Addr) (c : Nat) (hc : l.length ≤ c) (w : World) (hC : Kd.C k30 w A l.length (m30 l)) :
    Calls Try.prog 11 #[.slice A l.length c, .agg #[.int .i64 s.1, .int .i64 s.2]] w fun e w' => ∃ A' c', e = .returned (.tuple #[.slice A' (cutF l s).length c', .int .i64 0]) ∧ (cutF l s).length ≤ c' ∧ Kd.C k30 w' A' (cutF l s).length (m30 (cutF l s)) ∧ Bel w w' := by
  have := cutB A c l s hlen hc w hC
  rw [may_zero hl hs] at this
  refine this.mono ?_
  rintro e w' ⟨v, rfl, hr, hb⟩
  simp only [errV, if_pos] at hr
  obtain ⟨A', c', rfl, h1, h2⟩ := cells30 hr
  exact ⟨A', c', rfl, h1, h2, hb⟩
theorem order_add {a : List Sp} {x y : Sp} (ha : GoodL a) (hx : ok1 x = true) (hy : ok1 y = true) : addF (addF a x) y = addF (addF a y) x := by
  obtain ⟨g1, h1, _⟩ := addF_spec a x ha hx
  obtain ⟨g2, h2, _⟩ := addF_spec (addF a x) y g1 hy
  obtain ⟨g3, h3, _⟩ := addF_spec a y ha hy
  obtain ⟨g4, h4, _⟩ := addF_spec (addF a y) x g3 hx
  refine can_unique g2.can g4.can fun i => ?_
  rw [h2, h1, h4, h3, or_assoc, or_assoc, or_comm (a := inS x i)]
theorem order_cut {a : List Sp} {x : Sp} (ha : GoodL a) (hx : ok1 x = true) : cutF (addF a x) x = cutF a x := by
  obtain ⟨g1, h1, _⟩ := addF_spec a x ha hx
  obtain ⟨g2, h2, _⟩ := cutF_spec (addF a x) x g1 hx
  obtain ⟨g3, h3, _⟩ := cutF_spec a x ha hx
  refine can_unique g2.can g3.can fun i => ?_
  rw [h2, h1, h3]
  constructor
  · rintro ⟨h | h, hn⟩
    · exact ⟨h, hn⟩
    · exact absurd h hn
  · rintro ⟨h, hn⟩; exact ⟨.inl h, hn⟩
attribute [local go_sem high] eqA30
set_option maxHeartbeats 8000000 in
set_option maxRecDepth 100000 in
theorem lawOrderW (A : Option Addr) (c : Nat) (l : List Sp) (x0 x1 y0 y1 : Int) (hc : l.length ≤ c) (w : World) (hC : Kd.C k30 w A l.length (m30 l)) :
    Calls Try.prog 4 #[.slice A l.length c, .agg #[.int .i64 x0, .int .i64 x1], .agg #[.int .i64 y0, .int .i64 y1]] w fun e w' => e = .returned (.bool true) ∧ Bel w w' := by
  have KL := Lib.hid (fun w h => listsT A c l hc w h)
  have HC := Lib.hid hC
  have HG := Lib.hid (listF_good (l.take 40))
  have hal : (listF (l.take 40) true).length ≤ 40 := Nat.le_trans (listF_len _ _) (by simp; omega)
  generalize listF (l.take 40) true = a at *
  clear hC
  have KW := Lib.hid wakesB
  have KX := Lib.hid (fun w => sgoodB (x0, x1) w)
  have KY := Lib.hid (fun w => sgoodB (y0, y1) w)
  go_enter Try.func4, Try.ntmps4
  go_wp2_with fail
  refine calls_gen (fun W => Bel w W ∧ W.heap.size = w.heap.size + 2 ∧ W.heap[w.heap.size]? = some (.cells #[.int .i64 x0, .int .i64 x1] 24 (0, 0)) ∧ W.heap[w.heap.size + 1]? = some (.cells #[.int .i64 y0, .int .i64 y1] 24 (0, 0))) ⟨(Bel.alloc _ _).trans (Bel.alloc _ _), by simp, ((Below.heap_alloc _ _ _ (by simp)).trans (heap_alloc_new _ _)), heap2 _ _ _⟩ ?_
  rintro W0 ⟨hB0, hs0, hx, hy⟩
  refine (KL.out W0 (Kd.C_below HC.out hB0)).mono ?_
  rintro e w1 ⟨v, v', rfl, hr, hr', hb1⟩
  obtain ⟨A1, c1, rfl, hc1, hC1⟩ := cells30 hr
  have b0 := pw_cell_below hb1 (a := ⟨w.heap.size, 0, none⟩) (v := .int .i64 x0) (blk_cell hx 0)
  have b1 := pw_cell_below hb1 (a := ⟨w.heap.size, 1, none⟩) (v := .int .i64 x1) (blk_cell hx 1)
  have b2 := pw_cell_below hb1 (a := ⟨w.heap.size + 1, 0, none⟩) (v := .int .i64 y0) (blk_cell hy 0)
  have b3 := pw_cell_below hb1 (a := ⟨w.heap.size + 1, 1, none⟩) (v := .int .i64 y1) (blk_cell hy 1)
  have HB1 := Lib.hid (hB0.trans hb1)
  have HC1 := Lib.hid hC1
  clear hB0 hs0 hx hy hb1 hr hr' hC1 KL
  go_wp2_with fail
  have a0 := fun o => cellB (Bel.alloc w1 o) b0
  have a1 := fun o => cellB (Bel.alloc w1 o) b1
  have a2 := fun o => cellB (Bel.alloc w1 o) b2
  have a3 := fun o => cellB (Bel.alloc w1 o) b3
  have e0 := fun o o' => cellB (Bel.alloc (w1.alloc o) o') (a0 o)
  have e1 := fun o o' => cellB (Bel.alloc (w1.alloc o) o') (a1 o)
  have e2 := fun o o' => cellB (Bel.alloc (w1.alloc o) o') (a2 o)
  have e3 := fun o o' => cellB (Bel.alloc (w1.alloc o) o') (a3 o)
  go_cut [9, 10] (fun s9 s10 wx => ∃ p q : Nat, s9 = .pointer (some ⟨p, 0, none⟩) ∧ s10 = .pointer (some ⟨q, 0, none⟩) ∧ Bel w1 wx ∧ wx.heap[p]? = some (.cells #[.int .i64 x0, .int .i64 x1] 30 (0, 0)) ∧ wx.heap[q]? = some (.cells #[.int .i64 y0, .int .i64 y1] 30 (0, 0)))
  case first =>
    go_region
    all_goals
      go_wp2_with fail
      go_meet
      first
        | exact ⟨_, _, rfl, rfl, ((Bel.alloc w1 _).trans (Bel.alloc _ _)).trans (Bel.drew _), (Below.heap_alloc _ _ _ (by simp)).trans (heap_alloc_new _ _), heap2 _ _ _⟩
        | exact ⟨_, _, rfl, rfl, ((Bel.alloc w1 _).trans (Bel.alloc _ _)).trans (Bel.drew _), heap2 _ _ _, (Below.heap_alloc _ _ _ (by simp)).trans (heap_alloc_new _ _)⟩
  case rest =>
    obtain ⟨p, q, rfl, rfl, hB2, hp, hq⟩ := hcut
    clear a0 a1 a2 a3 e0 e1 e2 e3
    have HB2 := Lib.hid (HB1.out.trans hB2)
    have HP2 := Lib.hid hp
    have HQ2 := Lib.hid hq
    have HC2 := Lib.hid (Kd.C_below HC1.out hB2)
    clear b0 b1 b2 b3 hB2 hp hq HB1 HC1
    go_wp2_with fail
    refine (KW.out _).mono ?_
    rintro e w3 ⟨rfl, hb3⟩
    have HB3 := Lib.hid (HB2.out.trans hb3)
    have HP3 := Lib.hid ((hb3.block p (blk_lt HP2.out)).trans HP2.out)
    have HQ3 := Lib.hid ((hb3.block q (blk_lt HQ2.out)).trans HQ2.out)
    have HC3 := Lib.hid (Kd.C_below HC2.out hb3)
    clear hb3 HB2 HP2 HQ2 HC2
    have p0 := blk_cell HP3.out 0
    have p1 := blk_cell HP3.out 1
    go_wp2_with fail
    refine (KX.out _).mono ?_
    rintro e w4 ⟨rfl, hb4⟩
    have HB4 := Lib.hid (HB3.out.trans hb4)
    have HP4 := Lib.hid ((hb4.block p (blk_lt HP3.out)).trans HP3.out)
    have HQ4 := Lib.hid ((hb4.block q (blk_lt HQ3.out)).trans HQ3.out)
    have HC4 := Lib.hid (Kd.C_below HC3.out hb4)
    clear hb4 HB3 HP3 HQ3 HC3 p0 p1
    cases hkx : ok1 (x0, x1)
    · clear KY HP4 HQ4 HC4
      go_wp2_with fail
      refine (KW.out _).mono ?_
      rintro e w5 ⟨rfl, hb5⟩
      have HB5 := HB4.out.trans hb5
      clear HB4 hb5
      go_wp2_with fail
      go_ret
      exact ⟨rfl, HB5⟩
    have q0 := blk_cell HQ4.out 0
    have q1 := blk_cell HQ4.out 1
    go_wp2_with fail
    refine (KY.out _).mono ?_
    rintro e w5 ⟨rfl, hb5⟩
    have HB5 := Lib.hid (HB4.out.trans hb5)
    have HP5 := Lib.hid ((hb5.block p (blk_lt HP4.out)).trans HP4.out)
    have HQ5 := Lib.hid ((hb5.block q (blk_lt HQ4.out)).trans HQ4.out)
    have HC5 := Lib.hid (Kd.C_below HC4.out hb5)
    clear hb5 HB4 HP4 HQ4 HC4 q0 q1
    cases hky : ok1 (y0, y1)
    · clear HP5 HQ5 HC5
      go_wp2_with fail
      refine (KW.out _).mono ?_
      rintro e w6 ⟨rfl, hb6⟩
      have HB6 := HB5.out.trans hb6
      clear HB5 hb6
      go_wp2_with fail
      go_ret
      exact ⟨rfl, HB6⟩
    have hG1 := (addF_spec a (x0, x1) HG.out hkx).1
    have hG3 := (addF_spec a (y0, y1) HG.out hky).1
    have hl1 := addF_len (x0, x1) a
    have hl2 := addF_len (y0, y1) (addF a (x0, x1))
    have hl3 := addF_len (y0, y1) a
    have hl5 := cut_len a (x0, x1)
    have KA1 := Lib.hid (fun A c hc w h => addG a (x0, x1) HG.out hkx (by omega) A c hc w h)
    have KA2 := Lib.hid (fun A c hc w h => addG (addF a (x0, x1)) (y0, y1) hG1 hky (by omega) A c hc w h)
    have KA3 := Lib.hid (fun A c hc w h => addG a (y0, y1) HG.out hky (by omega) A c hc w h)
    have KA4 := Lib.hid (fun A c hc w h => addG (addF a (y0, y1)) (x0, x1) hG3 hkx (by omega) A c hc w h)
    have KC1 := Lib.hid (fun A c hc w h => cutG' (addF a (x0, x1)) (x0, x1) hG1 hkx (by omega) A c hc w h)
    have KC2 := Lib.hid (fun A c hc w h => cutG' a (x0, x1) HG.out hkx (by omega) A c hc w h)
    rw [← order_add HG.out hkx hky] at KA4
    rw [order_cut HG.out hkx] at KC1
    have hl2' : (addF (addF a (x0, x1)) (y0, y1)).length ≤ 100 := by omega
    have hl5' : (cutF a (x0, x1)).length ≤ 100 := by omega
    clear hl1 hl2 hl3 hl5 hG1 hG3 HG
    generalize addF (addF a (x0, x1)) (y0, y1) = g2 at *
    generalize addF a (x0, x1) = g1 at *
    generalize addF a (y0, y1) = g3 at *
    generalize cutF a (x0, x1) = g5 at *
    clear hkx hky KW KX KY
    have HCa5 := HC5
    clear HC5
    have u0 := blk_cell HP5.out 0
    have u1 := blk_cell HP5.out 1
    go_wp2_with fail
    refine (KA1.out _ _ hc1 _ HCa5.out).mono ?_
    rintro e w6 ⟨B6, d6, rfl, hd6, hC6, hb6⟩
    have HB6 := Lib.hid (HB5.out.trans hb6)
    have HP6 := Lib.hid ((hb6.block p (blk_lt HP5.out)).trans HP5.out)
    have HQ6 := Lib.hid ((hb6.block q (blk_lt HQ5.out)).trans HQ5.out)
    have HCa6 := Lib.hid (Kd.C_below HCa5.out hb6)
    clear hb6 HB5 HP5 HQ5 u0 u1 HCa5
    have HCg16 := Lib.hid hC6
    clear hC6
    have u0 := blk_cell HQ6.out 0
    have u1 := blk_cell HQ6.out 1
    go_wp2_with fail
    refine (KA2.out _ _ hd6 _ HCg16.out).mono ?_
    rintro e w7 ⟨B7, d7, rfl, hd7, hC7, hb7⟩
    have HB7 := Lib.hid (HB6.out.trans hb7)
    have HP7 := Lib.hid ((hb7.block p (blk_lt HP6.out)).trans HP6.out)
    have HQ7 := Lib.hid ((hb7.block q (blk_lt HQ6.out)).trans HQ6.out)
    have HCa7 := Lib.hid (Kd.C_below HCa6.out hb7)
    have HCg17 := Lib.hid (Kd.C_below HCg16.out hb7)
    clear hb7 HB6 HP6 HQ6 u0 u1 HCa6 HCg16
    have HCg27 := Lib.hid hC7
    clear hC7
    have u0 := blk_cell HQ7.out 0
    have u1 := blk_cell HQ7.out 1
    go_wp2_with fail
    refine (KA3.out _ _ hc1 _ HCa7.out).mono ?_
    rintro e w8 ⟨B8, d8, rfl, hd8, hC8, hb8⟩
    have HB8 := Lib.hid (HB7.out.trans hb8)
    have HP8 := Lib.hid ((hb8.block p (blk_lt HP7.out)).trans HP7.out)
    have HQ8 := Lib.hid ((hb8.block q (blk_lt HQ7.out)).trans HQ7.out)
    have HCa8 := Lib.hid (Kd.C_below HCa7.out hb8)
    have HCg18 := Lib.hid (Kd.C_below HCg17.out hb8)
    have HCg28 := Lib.hid (Kd.C_below HCg27.out hb8)
    clear hb8 HB7 HP7 HQ7 u0 u1 HCa7 HCg17 HCg27
    have HCg38 := Lib.hid hC8
    clear hC8
    have u0 := blk_cell HP8.out 0
    have u1 := blk_cell HP8.out 1
    go_wp2_with fail
    refine (KA4.out _ _ hd8 _ HCg38.out).mono ?_
    rintro e w9 ⟨B9, d9, rfl, hd9, hC9, hb9⟩
    have HB9 := Lib.hid (HB8.out.trans hb9)
    have HP9 := Lib.hid ((hb9.block p (blk_lt HP8.out)).trans HP8.out)
    have HQ9 := Lib.hid ((hb9.block q (blk_lt HQ8.out)).trans HQ8.out)
    have HCa9 := Lib.hid (Kd.C_below HCa8.out hb9)
    have HCg19 := Lib.hid (Kd.C_below HCg18.out hb9)
    have HCg29 := Lib.hid (Kd.C_below HCg28.out hb9)
    have HCg39 := Lib.hid (Kd.C_below HCg38.out hb9)
    clear hb9 HB8 HP8 HQ8 u0 u1 HCa8 HCg18 HCg28 HCg38
    have HCg2p9 := Lib.hid hC9
    clear hC9
    have u0 := blk_cell HP9.out 0
    have u1 := blk_cell HP9.out 1
    go_wp2_with fail
    refine (KA1.out _ _ hc1 _ HCa9.out).mono ?_
    rintro e w10 ⟨B10, d10, rfl, hd10, hC10, hb10⟩
    have HB10 := Lib.hid (HB9.out.trans hb10)
    have HP10 := Lib.hid ((hb10.block p (blk_lt HP9.out)).trans HP9.out)
    have HQ10 := Lib.hid ((hb10.block q (blk_lt HQ9.out)).trans HQ9.out)
    have HCa10 := Lib.hid (Kd.C_below HCa9.out hb10)
    have HCg110 := Lib.hid (Kd.C_below HCg19.out hb10)
    have HCg210 := Lib.hid (Kd.C_below HCg29.out hb10)
    have HCg310 := Lib.hid (Kd.C_below HCg39.out hb10)
    have HCg2p10 := Lib.hid (Kd.C_below HCg2p9.out hb10)
    clear hb10 HB9 HP9 HQ9 u0 u1 HCa9 HCg19 HCg29 HCg39 HCg2p9
    clear HCg110
    have HCg110 := Lib.hid hC10
    clear hC10
    have u0 := blk_cell HP10.out 0
    have u1 := blk_cell HP10.out 1
    go_wp2_with fail
    refine (KC1.out _ _ hd10 _ HCg110.out).mono ?_
    rintro e w11 ⟨B11, d11, rfl, hd11, hC11, hb11⟩
    have HB11 := Lib.hid (HB10.out.trans hb11)
    have HP11 := Lib.hid ((hb11.block p (blk_lt HP10.out)).trans HP10.out)
    have HQ11 := Lib.hid ((hb11.block q (blk_lt HQ10.out)).trans HQ10.out)
    have HCa11 := Lib.hid (Kd.C_below HCa10.out hb11)
    have HCg111 := Lib.hid (Kd.C_below HCg110.out hb11)
    have HCg211 := Lib.hid (Kd.C_below HCg210.out hb11)
    have HCg311 := Lib.hid (Kd.C_below HCg310.out hb11)
    have HCg2p11 := Lib.hid (Kd.C_below HCg2p10.out hb11)
    clear hb11 HB10 HP10 HQ10 u0 u1 HCa10 HCg110 HCg210 HCg310 HCg2p10
    have HCg511 := Lib.hid hC11
    clear hC11
    have u0 := blk_cell HP11.out 0
    have u1 := blk_cell HP11.out 1
    go_wp2_with fail
    refine (KC2.out _ _ hc1 _ HCa11.out).mono ?_
    rintro e w12 ⟨B12, d12, rfl, hd12, hC12, hb12⟩
    have HB12 := Lib.hid (HB11.out.trans hb12)
    have HP12 := Lib.hid ((hb12.block p (blk_lt HP11.out)).trans HP11.out)
    have HQ12 := Lib.hid ((hb12.block q (blk_lt HQ11.out)).trans HQ11.out)
    have HCa12 := Lib.hid (Kd.C_below HCa11.out hb12)
    have HCg112 := Lib.hid (Kd.C_below HCg111.out hb12)
    have HCg212 := Lib.hid (Kd.C_below HCg211.out hb12)
    have HCg312 := Lib.hid (Kd.C_below HCg311.out hb12)
    have HCg2p12 := Lib.hid (Kd.C_below HCg2p11.out hb12)
    have HCg512 := Lib.hid (Kd.C_below HCg511.out hb12)
    clear hb12 HB11 HP11 HQ11 u0 u1 HCa11 HCg111 HCg211 HCg311 HCg2p11 HCg511
    have HCg5p12 := Lib.hid hC12
    clear hC12
    clear HP12 HQ12 HCa12 HCg112 HCg312
    go_wp2_with fail
    go_loopw [112] (fun v112 wr => ∃ (k : Nat), v112 = .int .i64 k ∧ k ≤ g2.length ∧ Hid (Bel w12 wr)) (fun v112 _ => g2.length - (intOf v112).toNat)
    case atStart => exact ⟨0, rfl, by omega, Lib.hid (Bel.refl _)⟩
    case round =>
      obtain ⟨wo, rfl⟩ : ∃ wo : World, wo = wr := ⟨_, rfl⟩
      obtain ⟨k, rfl, hk, HI⟩ := hrel
      by_cases hlt : k < g2.length
      · obtain ⟨ad, he, x0, x1⟩ := at30 (Kd.C_below HCg212.out HI.out) k hlt
        obtain ⟨ad', he', y0, y1⟩ := at30 (Kd.C_below HCg2p12.out HI.out) k hlt
        subst he he'
        generalize nth g2 k = t at *
        obtain ⟨t0, t1⟩ := t
        simp only [] at x0 x1 y0 y1
        have hlt' : (k : Int) < (g2.length : Int) := by omega
        have hrf0 : (t0 == t0) = true := by simp
        have hrf1 : (t1 == t1) = true := by simp
        go_wp2_with fail
        go_quiet (fail)
        have hfin : Hid (Bel w12 (wo.drewN nq)) := Lib.hid (HI.out.trans (Bel.drewN wo nq))
        clear HI x0 x1 y0 y1
        generalize wo.drewN nq = W at *
        go_wp2_with fail
        exact ⟨⟨k + 1, by congr 1, by omega, hfin⟩, by simp [intOf]; omega⟩
      · have hb := HI.out
        clear HI
        obtain ⟨wm, rfl⟩ : ∃ wm : World, wm = wo := ⟨_, rfl⟩
        have HBm := Lib.hid (HB12.out.trans hb)
        have HE := Lib.hid (Kd.C_below HCg512.out hb)
        have HEp := Lib.hid (Kd.C_below HCg5p12.out hb)
        clear hb HB12 HCg512 HCg5p12
        go_wp2_with fail
        go_loopw [127] (fun v127 wr => ∃ (k : Nat), v127 = .int .i64 k ∧ k ≤ g5.length ∧ Hid (Bel wm wr)) (fun v127 _ => g5.length - (intOf v127).toNat)
        case atStart => exact ⟨0, rfl, by omega, Lib.hid (Bel.refl _)⟩
        case round =>
          obtain ⟨wo, rfl⟩ : ∃ wo : World, wo = wr := ⟨_, rfl⟩
          obtain ⟨k, rfl, hk, HI⟩ := hrel
          by_cases hlt : k < g5.length
          · obtain ⟨ad, he, x0, x1⟩ := at30 (Kd.C_below HE.out HI.out) k hlt
            obtain ⟨ad', he', y0, y1⟩ := at30 (Kd.C_below HEp.out HI.out) k hlt
            subst he he'
            generalize nth g5 k = t at *
            obtain ⟨t0, t1⟩ := t
            simp only [] at x0 x1 y0 y1
            have hlt' : (k : Int) < (g5.length : Int) := by omega
            have hrf0 : (t0 == t0) = true := by simp
            have hrf1 : (t1 == t1) = true := by simp
            go_wp2_with fail
            go_quiet (fail)
            have hfin : Hid (Bel wm (wo.drewN nq)) := Lib.hid (HI.out.trans (Bel.drewN wo nq))
            clear HI x0 x1 y0 y1
            generalize wo.drewN nq = W at *
            go_wp2_with fail
            exact ⟨⟨k + 1, by congr 1, by omega, hfin⟩, by simp [intOf]; omega⟩
          · have hb := HI.out
            clear HI
            have hbf := HBm.out.trans hb
            clear hb HBm
            go_wp2_with fail
            go_ret
            exact ⟨rfl, hbf⟩
end Go.Proofs.Ytjgekbakommkmaa
