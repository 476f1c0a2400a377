/- Queue: the walk of QueueFull. -/
import Derived.Test.YtffegfidaolgjaaQP
set_option linter.unusedVariables false
set_option linter.unusedSimpArgs false
namespace Go.Proofs.Ytffegfidaolgjaa
open Go.RowKit
/-- The first k even blocks stand there. -/
structure Q1 (s : QS) (n k : Nat) : Prop where
  ok : OkQ s
  most : s.most = n
  len : s.rs.length = k
  clock : s.clock = k
  lt : ∀ x ∈ s.rs, x.f0 < 2 * (k : Int)
  ev : ∀ x ∈ s.rs, x.f0 % 2 = 0
  all : ∀ j : Nat, j < k → has s (2 * (j : Int)) = true
theorem q1_new (most : Int) (n : Nat) (hn : max 1 (min most 256) = (n : Int)) : Q1 ⟨n, 0, []⟩ n 0 := by
  refine ⟨?_, rfl, rfl, rfl, by simp, by simp, fun j h => by omega⟩
  have := okq_new most
  rwa [hn] at this
theorem q1_step {s : QS} {n k : Nat} {D : ByteArray} (hD : D.size = 64) (h : Q1 s n k) (hk : k < n) (hn : n ≤ 256) : fullP s = false ∧ putE s (2 * (k : Int)) D = 0 ∧ Q1 (putS s (2 * (k : Int)) D) n (k + 1) := by
  have hh : has s (2 * (k : Int)) = false := (has_false h.ok.up _).2 fun x hx => by have := h.lt x hx; omega
  have he : putE s (2 * (k : Int)) D = 0 := putE_new (by omega) (by omega) hD (by rw [h.len, h.most]; omega)
  have hf : fullP s = false := by rw [← Bool.not_eq_true, full_iff, h.len, h.most]; omega
  have ho := ok_put h.ok (2 * (k : Int)) D
  have hm := mem_put h.ok.up he
  refine ⟨hf, he, ho, by rw [put_most, h.most], by rw [put_len he, h.len, hh]; simp, by rw [putS_of he]; show s.clock + 1 = _; rw [h.clock]; omega, fun x hx => ?_, fun x hx => ?_, fun j hj => (has_put h.ok he _).2 ?_⟩
  · rcases (hm x).1 hx with ⟨hx, _⟩ | rfl
    · have := h.lt x hx; omega
    · simp only []; omega
  · rcases (hm x).1 hx with ⟨hx, _⟩ | rfl
    · exact h.ev x hx
    · simp only []; omega
  · by_cases hjk : j = k
    · exact .inr (by rw [hjk])
    · exact .inl (h.all j (by omega))
theorem q1_mid {s : QS} {n : Nat} {D D' : ByteArray} (hD : D.size = 64) (hD' : D'.size = 64) (h : Q1 s n n) (hn : n ≤ 256) {K : Int} (hK : ∃ j : Nat, j < n ∧ K = 2 * (j : Int)) :
    fullP s = true ∧ putE s 1 D = 10 ∧ putS s 1 D = s ∧ putE s K D' = 0 ∧ has (putS s K D') K = true ∧ (nth (putS s K D').rs (pos (putS s K D').rs K)).f1 = D' ∧
      fullP (takeS (putS s K D') K) = false ∧ putE (takeS (putS s K D') K) 1 D = 0 ∧ fullP (putS (takeS (putS s K D') K) 1 D) = true ∧ s.clock ≤ 1000 ∧ (takeS (putS s K D') K).clock ≤ 1000 := by
  obtain ⟨j, hj, rfl⟩ := hK
  have hKK := h.all j hj
  have hf : fullP s = true := by rw [full_iff, h.len, h.most]; exact Int.le_refl _
  have h1 : has s 1 = false := (has_false h.ok.up _).2 fun x hx => by have := h.ev x hx; omega
  have e10 : putE s 1 D = 10 := by unfold putE; rw [if_neg (by omega), if_neg (by omega), if_neg (by simp [h1]), if_pos hf]
  have eK : putE s (2 * (j : Int)) D' = 0 := putE_old (by omega) (by omega) hD' hKK
  have ho2 := ok_put h.ok (2 * (j : Int)) D'
  have hm2 := mem_put h.ok.up eK
  have hh2 : has (putS s (2 * (j : Int)) D') (2 * (j : Int)) = true := (has_put h.ok eK _).2 (.inr rfl)
  have hn2 := nth_key ho2 ((hm2 _).2 (.inr rfl))
  have hl2 : (putS s (2 * (j : Int)) D').rs.length = n := by rw [put_len eK, if_pos hKK, h.len]; omega
  have ho3 := ok_take ho2 (2 * (j : Int))
  have hl3 : (takeS (putS s (2 * (j : Int)) D') (2 * (j : Int))).rs.length = n - 1 := by rw [take_len, if_pos hh2, hl2]
  have hm3 : (takeS (putS s (2 * (j : Int)) D') (2 * (j : Int))).most = n := by rw [take_most, put_most, h.most]
  have hf3 : fullP (takeS (putS s (2 * (j : Int)) D') (2 * (j : Int))) = false := by rw [← Bool.not_eq_true, full_iff, hl3, hm3]; omega
  have e3 : putE (takeS (putS s (2 * (j : Int)) D') (2 * (j : Int))) 1 D = 0 := putE_new (by omega) (by omega) hD (by rw [hl3, hm3]; omega)
  have h31 : has (takeS (putS s (2 * (j : Int)) D') (2 * (j : Int))) 1 = false := by
    rw [← Bool.not_eq_true, has_take ho2, has_put h.ok eK]
    rintro ⟨h4 | h4, _⟩
    · rw [h1] at h4; exact absurd h4 (by decide)
    · omega
  refine ⟨hf, e10, putS_no (by rw [e10]; decide), eK, hh2, by have := hn2.2; simp only [] at this; rw [this], hf3, e3, ?_, by rw [h.clock]; omega, ?_⟩
  · rw [full_iff, put_len e3, put_most, hm3, hl3, h31]; simp; omega
  · rw [take_clock]
    have := put_clock s (2 * (j : Int)) D'
    have := h.clock
    omega
set_option maxHeartbeats 8000000 in
set_option maxRecDepth 100000 in
theorem lawFullW (most x0 x1 : Int) (x2 x3 : Bool) (w : World) : Calls Try.prog 3 #[.int .i64 most, .agg #[.int .i64 x0, .int .u8 x1, .bool x2, .bool x3]] w fun e w' => e = .returned (.bool true) ∧ Bel w w' := by
  obtain ⟨base, hbase⟩ : ∃ base, base = w.heap.size := ⟨_, rfl⟩
  have HBase := Lib.hid hbase
  clear hbase
  have KN := Lib.hid (newQ most)
  obtain ⟨n, hn⟩ : ∃ n : Nat, max 1 (min most 256) = (n : Int) := ⟨(max 1 (min most 256)).toNat, by omega⟩
  have hn1 : 1 ≤ n := by omega
  have hn2 : n ≤ 256 := by omega
  rw [hn] at KN
  have Q10 := Lib.hid (q1_new most n hn)
  have hn' : Hid (max 1 (min most 256) = (n : Int)) := Lib.hid hn
  clear hn
  have KP := Lib.hid (fun w1 g v s key d hs hl hd hc hsm hb h => putQ w1 base g v s key d hs hl hd hc hsm hb h)
  have KG := Lib.hid (fun w1 g v s key hs hl h => getQ w1 base g v s key hs hl h)
  have KT := Lib.hid (fun w1 g v s key hs hl hb h => takeQ w1 base g v s key hs hl hb h)
  have KF := Lib.hid (fun w1 g v s h => fullQ w1 base g v s h)
  have KS := Lib.hid (fun w => secB x1 false w)
  have KS' := Lib.hid (fun w => secB ((x1 + 1) % 256) false w)
  have K8 := Lib.hid wakesQ
  have zD : (secV x1 false).size = 64 := secV_size x1 false
  have zD' : (secV ((x1 + 1) % 256) false).size = 64 := secV_size _ false
  generalize secV x1 false = D at *
  generalize secV ((x1 + 1) % 256) false = D' at *
  obtain ⟨K, hK0⟩ : ∃ K, K = max 0 x0 % (n : Int) := ⟨_, rfl⟩
  have hKj : ∃ j : Nat, j < n ∧ 2 * K = 2 * (j : Int) := ⟨K.toNat, by rw [hK0]; have := Int.emod_lt_of_pos (max 0 x0) (b := n) (by omega); have := Int.emod_nonneg (max 0 x0) (b := n) (by omega); omega, by rw [hK0]; have := Int.emod_nonneg (max 0 x0) (b := n) (by omega); omega⟩
  have hKw : IntKind.i64.wrap (2 * K) = 2 * K := by obtain ⟨j, h1, h2⟩ := hKj; exact w64i (by omega) (by omega)
  have HK0 : Hid (max 0 x0 % (n : Int) = K) := Lib.hid hK0.symm
  have HKj := Lib.hid hKj
  clear hKj hK0
  have ZD := Lib.hid zD
  have ZD' := Lib.hid zD'
  clear zD zD'
  go_enter Try.func3, Try.ntmps3
  go_wp2_with fail
  refine calls_gen (fun W => Bel w W ∧ W.heap[w.heap.size]? = some (.cells #[.int .i64 x0, .int .u8 x1, .bool x2, .bool x3] 23 (0, 0))) ⟨Bel.alloc _ _, heap_alloc_new _ _⟩ ?_
  rintro W0 ⟨hB0, hx⟩
  refine (KN.out _).mono ?_
  rintro e w1 ⟨rfl, hb1, hlt1, hI⟩
  have hI0 := hI base
  obtain ⟨g, hg⟩ : ∃ g, g = W0.heap.size := ⟨_, rfl⟩
  rw [← hg] at hI0 hlt1 ⊢
  obtain ⟨bx, hbx⟩ : ∃ bx, bx = w.heap.size := ⟨_, rfl⟩
  rw [← hbx] at hx ⊢
  have hxg : bx ≠ g := by have := blk_lt hx; omega
  have HX1 := Lib.hid (blk_below hx hb1)
  have HB1 := Lib.hid (hB0.trans hb1)
  have HI1 := Lib.hid hI0
  have HG : Hid (w.heap.size ≤ g) := Lib.hid (by have := hB0.size; omega)
  have HXG := Lib.hid hxg
  have HN := hn'.out
  clear hxg hb1 hI hI0 KN hg hbx hx hB0
  go_wp2_with fail
  clear HN hn'
  go_loopw [20] (fun v20 wr => ∃ (k : Nat), v20 = .int .i64 k ∧ k ≤ n ∧ Hid (∃ v s, IsQ wr base g v s ∧ Q1 s n k ∧ Kp base g w1 wr)) (fun v20 _ => n - (intOf v20).toNat)
  case atStart => exact ⟨0, rfl, by omega, Lib.hid ⟨_, _, HI1.out, Q10.out, Kp.refl _ _ _⟩⟩
  case round =>
    obtain ⟨wi, rfl⟩ : ∃ wi : World, wi = wr := ⟨_, rfl⟩
    obtain ⟨k, rfl, hk, HI⟩ := hrel
    obtain ⟨v, s, h1, hf, hk1⟩ := HI.out
    have H1 := Lib.hid h1
    have HF := Lib.hid hf
    have HK1 := Lib.hid hk1
    have HX2 := Lib.hid (hk1.keep HX1.out HXG.out (by decide))
    have hbz : base ≤ wi.heap.size := by have := HB1.out.size; have := hk1.size; have := HBase.out; omega
    have HBZ := Lib.hid hbz
    clear h1 hf hk1 HI hbz
    by_cases hlt : k < n
    · have hw2 : IntKind.i64.wrap (2 * (k : Int)) = 2 * (k : Int) := w64i (by omega) (by omega)
      have HST := Lib.hid (q1_step ZD.out HF.out hlt hn2)
      have hlt' : decide ((k : Int) < n) = true := by simp; omega
      have c1 := fun wx (h : Bel wi wx) => blk_cell (blk_below HX2.out h) 1
      go_wp2_with fail
      refine (KF.out _ _ v s H1.out).mono ?_
      rw [HST.out.1]
      rintro e w2 ⟨rfl, hb2⟩
      have c1' := c1 _ hb2
      have HB2 := Lib.hid hb2
      clear hb2 c1
      go_wp2_with fail
      refine (KS.out _).mono ?_
      rintro e w3 ⟨rfl, hb3⟩
      have HB3 := Lib.hid (HB2.out.trans hb3)
      clear hb3 HB2 c1'
      go_wp2_with fail
      refine (KP.out _ _ v s (2 * (k : Int)) D HF.out.ok.up HF.out.ok.len' (by rw [ZD.out]; decide) HF.out.ok.clock (by rw [HF.out.clock]; omega) (by have := HB3.out.size; have := HBZ.out; omega) (H1.out.bel HB3.out)).mono ?_
      rintro e w4 ⟨v4, rfl, h4, hk4⟩
      rw [HST.out.2.1]
      have hfin : Hid (∃ v s, IsQ w4 base g v s ∧ Q1 s n (k + 1) ∧ Kp base g w1 w4) := Lib.hid ⟨v4, _, h4, HST.out.2.2, (HK1.out.trans (Kp.of_bel HB3.out)).trans hk4⟩
      clear h4 hk4 H1 HK1 HB3
      go_wp2_with fail
      exact ⟨⟨k + 1, by congr 1, by omega, hfin⟩, by simp [intOf]; omega⟩
    · obtain rfl : k = n := by omega
      have HMid := Lib.hid (q1_mid ZD.out ZD'.out HF.out hn2 HKj.out)
      have c0 := blk_cell HX2.out 0
      go_wp2_with fail
      rw [HK0.out]
      have c1 := fun W (h : Kp base g wi W) => blk_cell (h.keep HX2.out HXG.out (by decide)) 1
      have HZ := Lib.hid (fun W (h : Kp base g wi W) => show base ≤ W.heap.size from by have := h.size; have := HBZ.out; omega)
      have Hok2 := Lib.hid (ok_put HF.out.ok (2 * K) D')
      have Hok3 := Lib.hid (ok_take Hok2.out (2 * K))
      have Hcl := Lib.hid HF.out.clock
      clear c0
      refine (KF.out _ _ v s H1.out).mono ?_
      rw [HMid.out.1]
      rintro e w2 ⟨rfl, hb2⟩
      have HA2 := Lib.hid (Kp.of_bel hb2 : Kp base g wi w2)
      have H2 := Lib.hid (H1.out.bel hb2)
      have c := c1 _ HA2.out
      clear hb2 H1
      go_wp2_with fail
      refine (KS.out _).mono ?_
      rintro e w3 ⟨rfl, hb3⟩
      have HA3 := Lib.hid (HA2.out.trans (Kp.of_bel hb3))
      have H3 := Lib.hid (H2.out.bel hb3)
      clear hb3 HA2 H2 c
      go_wp2_with fail
      refine (KP.out _ _ v s 1 D HF.out.ok.up HF.out.ok.len' (by rw [ZD.out]; decide) HF.out.ok.clock (by have := HMid.out.2.2.2.2.2.2.2.2.2.1; omega) (HZ.out _ HA3.out) H3.out).mono ?_
      rw [HMid.out.2.1, HMid.out.2.2.1]
      rintro e w4 ⟨v4, rfl, h4, hk4⟩
      have HA4 := Lib.hid (HA3.out.trans hk4)
      have H4 := Lib.hid h4
      have c := c1 _ HA4.out
      clear h4 hk4 HA3 H3
      go_wp2_with fail
      refine (KS'.out _).mono ?_
      rintro e w5 ⟨rfl, hb5⟩
      have HA5 := Lib.hid (HA4.out.trans (Kp.of_bel hb5))
      have H5 := Lib.hid (H4.out.bel hb5)
      clear hb5 HA4 H4 c
      go_wp2_with fail
      refine (KP.out _ _ v4 s (2 * K) D' HF.out.ok.up HF.out.ok.len' (by rw [ZD'.out]; decide) HF.out.ok.clock (by have := HMid.out.2.2.2.2.2.2.2.2.2.1; omega) (HZ.out _ HA5.out) H5.out).mono ?_
      rw [HMid.out.2.2.2.1]
      rintro e w6 ⟨v6, rfl, h6, hk6⟩
      have HA6 := Lib.hid (HA5.out.trans hk6)
      have H6 := Lib.hid h6
      clear h6 hk6 HA5 H5
      go_wp2_with fail
      refine (KG.out _ _ v6 _ (2 * K) Hok2.out.up (by have := Hok2.out.len'; omega) H6.out).mono ?_
      rw [HMid.out.2.2.2.2.1, HMid.out.2.2.2.2.2.1]
      simp only [if_true]
      rintro e w7 ⟨rfl, hb7⟩
      have HA7 := Lib.hid (HA6.out.trans (Kp.of_bel hb7))
      have H7 := Lib.hid (H6.out.bel hb7)
      clear hb7 HA6 H6
      go_wp2_with fail
      refine (KT.out _ _ v6 _ (2 * K) Hok2.out.up Hok2.out.len' (HZ.out _ HA7.out) H7.out).mono ?_
      rw [HMid.out.2.2.2.2.1]
      rintro e w8 ⟨v8, rfl, h8, hk8⟩
      have HA8 := Lib.hid (HA7.out.trans hk8)
      have H8 := Lib.hid h8
      have hev : ∀ x : El, elV x = .agg #[.int .i64 x.f0, .string x.f1, .int .i64 x.f2] := fun _ => rfl
      rw [hev]
      generalize takeV (putS s (2 * K) D') (2 * K) = tv at *
      obtain ⟨t0, t1, t2⟩ := tv
      simp only []
      clear h8 hk8 HA7 H7 hev
      go_wp2_with fail
      refine calls_gen (fun W => Bel w8 W) (Bel.alloc _ _) ?_
      rintro W9 hb9
      refine (K8.out _).mono ?_
      rintro e w10 ⟨rfl, hb10⟩
      have HA10 := Lib.hid (HA8.out.trans (Kp.of_bel (hb9.trans hb10)))
      have H10 := Lib.hid (H8.out.bel (hb9.trans hb10))
      have c := c1 _ HA10.out
      clear hb9 hb10 HA8 H8
      go_wp2_with fail
      refine (KS'.out _).mono ?_
      rintro e w11 ⟨rfl, hb11⟩
      have HA11 := Lib.hid (HA10.out.trans (Kp.of_bel hb11))
      have H11 := Lib.hid (H10.out.bel hb11)
      have rD : (D'.toList == D'.toList) = true := by simp
      clear hb11 HA10 H10 c
      go_wp2_with fail
      refine (KF.out _ _ v8 _ H11.out).mono ?_
      rw [HMid.out.2.2.2.2.2.2.1]
      rintro e w12 ⟨rfl, hb12⟩
      have HA12 := Lib.hid (HA11.out.trans (Kp.of_bel hb12))
      have H12 := Lib.hid (H11.out.bel hb12)
      have c := c1 _ HA12.out
      clear hb12 HA11 H11
      go_wp2_with fail
      refine (KS.out _).mono ?_
      rintro e w13 ⟨rfl, hb13⟩
      have HA13 := Lib.hid (HA12.out.trans (Kp.of_bel hb13))
      have H13 := Lib.hid (H12.out.bel hb13)
      clear hb13 HA12 H12 c
      go_wp2_with fail
      refine (KP.out _ _ v8 _ 1 D Hok3.out.up Hok3.out.len' (by rw [ZD.out]; decide) Hok3.out.clock (by have := HMid.out.2.2.2.2.2.2.2.2.2.2; omega) (HZ.out _ HA13.out) H13.out).mono ?_
      rw [HMid.out.2.2.2.2.2.2.2.1]
      rintro e w14 ⟨v14, rfl, h14, hk14⟩
      have HA14 := Lib.hid (HA13.out.trans hk14)
      have H14 := Lib.hid h14
      clear h14 hk14 HA13 H13
      go_wp2_with fail
      refine (KF.out _ _ v14 _ H14.out).mono ?_
      rw [HMid.out.2.2.2.2.2.2.2.2.1]
      rintro e w15 ⟨rfl, hb15⟩
      have hfin : Bel w w15 := by
        have h := HK1.out.trans (HA14.out.trans (Kp.of_bel hb15))
        rw [HBase.out] at h
        exact Kp.below' (base := base) HB1.out h HG.out
      clear hb15 HA14 H14
      go_wp2_with fail
      go_ret
      exact ⟨rfl, hfin⟩
end Go.Proofs.Ytffegfidaolgjaa
