/- Lift: the walk of wakes. -/
import Derived.Test.YthhigmkheccfpaaLiftP
set_option linter.unusedVariables false
set_option linter.unusedSimpArgs false
namespace Go.Proofs.Ythhigmkheccfpaa
open Go.RowKit
def ws0 : LS := ⟨10, 0, 0, []⟩
def ws1 : LS := addS ws0 5
def ws2 : LS := addS ws1 2
def ws3 : LS := addS ws2 9
def ws4 : LS := pickS ws3
def ws5 : LS := addS ws4 1
def ws6 : LS := pickS ws5
def ws7 : LS := pickS ws6
def ws8 : LS := pickS ws7
theorem wS0 : Ok ws0 := ok_new 10
theorem wS1 : Ok ws1 := ok_add wS0 5
theorem wS2 : Ok ws2 := ok_add wS1 2
theorem wS3 : Ok ws3 := ok_add wS2 9
theorem wS4 : Ok ws4 := ok_pick wS3
theorem wS5 : Ok ws5 := ok_add wS4 1
theorem wS6 : Ok ws6 := ok_pick wS5
theorem wS7 : Ok ws7 := ok_pick wS6
theorem wE : addE ws0 5 = 0 ∧ addE ws1 2 = 0 ∧ addE ws2 9 = 0 ∧ addE ws4 1 = 0 := by decide +kernel
theorem wA : ws0.added ≤ 1000000 ∧ ws1.added ≤ 1000000 ∧ ws2.added ≤ 1000000 ∧ ws4.added ≤ 1000000 := by decide +kernel
theorem wP : pickK ws3 = 2 ∧ pickK ws5 = 5 ∧ pickK ws6 = 9 ∧ pickK ws7 = 1 ∧ pickB ws3 = true ∧ pickB ws5 = true ∧ pickB ws6 = true ∧ pickB ws7 = true ∧ ws8.rs.length = 0 := by decide +kernel
theorem wW3 : ∀ x ∈ ws3.rs, x.f1 ≤ 1000000 := by decide +kernel
theorem wW5 : ∀ x ∈ ws5.rs, x.f1 ≤ 1000000 := by decide +kernel
theorem wW6 : ∀ x ∈ ws6.rs, x.f1 ≤ 1000000 := by decide +kernel
theorem wW7 : ∀ x ∈ ws7.rs, x.f1 ≤ 1000000 := by decide +kernel
set_option maxHeartbeats 8000000 in
set_option maxRecDepth 100000 in
theorem wakesL (w : World) : Calls Try.prog 8 #[] w fun e w' => e = .returned (.bool true) ∧ Bel w w' := by
  obtain ⟨base, hbase⟩ : ∃ base, base = w.heap.size := ⟨_, rfl⟩
  have HBase := Lib.hid hbase
  clear hbase
  have KN := Lib.hid (newL 10)
  have hm : max (1 : Int) (min 10 65536) = 10 := by decide
  rw [hm] at KN
  have A0 := Lib.hid (fun w1 g v (hb : base ≤ w1.heap.size) h => wE.1 ▸ addL w1 base g v ws0 5 wS0 wA.1 hb h)
  have A1 := Lib.hid (fun w1 g v (hb : base ≤ w1.heap.size) h => wE.2.1 ▸ addL w1 base g v ws1 2 wS1 wA.2.1 hb h)
  have A2 := Lib.hid (fun w1 g v (hb : base ≤ w1.heap.size) h => wE.2.2.1 ▸ addL w1 base g v ws2 9 wS2 wA.2.2.1 hb h)
  have A4 := Lib.hid (fun w1 g v (hb : base ≤ w1.heap.size) h => wE.2.2.2 ▸ addL w1 base g v ws4 1 wS4 wA.2.2.2 hb h)
  have P3 := Lib.hid (fun w1 g v h => pickL w1 base g v ws3 wS3 wW3 h)
  have P5 := Lib.hid (fun w1 g v h => pickL w1 base g v ws5 wS5 wW5 h)
  have P6 := Lib.hid (fun w1 g v h => pickL w1 base g v ws6 wS6 wW6 h)
  have P7 := Lib.hid (fun w1 g v h => pickL w1 base g v ws7 wS7 wW7 h)
  rw [wP.1, wP.2.2.2.2.1] at P3
  rw [wP.2.1, wP.2.2.2.2.2.1] at P5
  rw [wP.2.2.1, wP.2.2.2.2.2.2.1] at P6
  rw [wP.2.2.2.1, wP.2.2.2.2.2.2.2.1] at P7
  have KL := Lib.hid (fun w1 g v h => wP.2.2.2.2.2.2.2.2 ▸ lenL w1 base g v ws8 h)
  change Hid (∀ w1 g v, base ≤ w1.heap.size → IsL w1 base g v ws0 → Calls Try.prog 11 #[PT g, .int .i64 5] w1 fun e w' => ∃ v', e = .returned (.int .i64 0) ∧ IsL w' base g v' ws1 ∧ Kp base g w1 w') at A0
  change Hid (∀ w1 g v, base ≤ w1.heap.size → IsL w1 base g v ws1 → Calls Try.prog 11 #[PT g, .int .i64 2] w1 fun e w' => ∃ v', e = .returned (.int .i64 0) ∧ IsL w' base g v' ws2 ∧ Kp base g w1 w') at A1
  change Hid (∀ w1 g v, base ≤ w1.heap.size → IsL w1 base g v ws2 → Calls Try.prog 11 #[PT g, .int .i64 9] w1 fun e w' => ∃ v', e = .returned (.int .i64 0) ∧ IsL w' base g v' ws3 ∧ Kp base g w1 w') at A2
  change Hid (∀ w1 g v, base ≤ w1.heap.size → IsL w1 base g v ws4 → Calls Try.prog 11 #[PT g, .int .i64 1] w1 fun e w' => ∃ v', e = .returned (.int .i64 0) ∧ IsL w' base g v' ws5 ∧ Kp base g w1 w') at A4
  change Hid (∀ w1 g v, IsL w1 base g v ws3 → Calls Try.prog 9 #[PT g] w1 fun e w' => ∃ v', e = .returned (.tuple #[.int .i64 2, .bool true]) ∧ IsL w' base g v' ws4 ∧ Kp base g w1 w') at P3
  change Hid (∀ w1 g v, IsL w1 base g v ws5 → Calls Try.prog 9 #[PT g] w1 fun e w' => ∃ v', e = .returned (.tuple #[.int .i64 5, .bool true]) ∧ IsL w' base g v' ws6 ∧ Kp base g w1 w') at P5
  change Hid (∀ w1 g v, IsL w1 base g v ws6 → Calls Try.prog 9 #[PT g] w1 fun e w' => ∃ v', e = .returned (.tuple #[.int .i64 9, .bool true]) ∧ IsL w' base g v' ws7 ∧ Kp base g w1 w') at P6
  change Hid (∀ w1 g v, IsL w1 base g v ws7 → Calls Try.prog 9 #[PT g] w1 fun e w' => ∃ v', e = .returned (.tuple #[.int .i64 1, .bool true]) ∧ IsL w' base g v' ws8 ∧ Kp base g w1 w') at P7
  change Hid (∀ w1 g v, IsL w1 base g v ws8 → Calls Try.prog 10 #[PT g] w1 fun e w' => e = .returned (.int .i64 0) ∧ Bel w1 w') at KL
  have hws0 : (⟨10, 0, 0, []⟩ : LS) = ws0 := rfl
  rw [hws0] at KN
  clear hws0 hm
  generalize ws0 = s0 at *
  generalize ws1 = s1 at *
  generalize ws2 = s2 at *
  generalize ws3 = s3 at *
  generalize ws4 = s4 at *
  generalize ws5 = s5 at *
  generalize ws6 = s6 at *
  generalize ws7 = s7 at *
  generalize ws8 = s8 at *
  go_enter Try.func8, Try.ntmps8
  go_wp2_with fail
  refine (KN.out _).mono ?_
  rintro e w1 ⟨rfl, hb1, hlt1, hI⟩
  have hI0 := hI base
  obtain ⟨g, hg⟩ : ∃ g, g = w.heap.size := ⟨_, rfl⟩
  rw [← hg] at hI0 hlt1 ⊢
  have HB1 := Lib.hid hb1
  have HI1 := Lib.hid hI0
  have HG := Lib.hid hg
  clear hb1 hI hI0 KN hg
  go_wp2_with fail
  refine wp_gen (fun W => Bel w1 W ∧ W.heap[w1.heap.size]? = some (.cells #[.int .i64 5, .int .i64 2, .int .i64 9] 3 (0, 0))) ⟨Bel.alloc _ _, heap_alloc_new _ _⟩ ?_
  rintro W2 ⟨hB2, hf2⟩
  have H0 := Lib.hid (HI1.out.bel hB2)
  have HK0 := Lib.hid (HB1.out.trans hB2)
  have HF2 := Lib.hid hf2
  have hgn : w1.heap.size ≠ g := by omega
  have HN := Lib.hid hgn
  clear hB2 hf2 HI1 HB1 hgn
  go_loopw [16] (fun v16 wr => (v16 = .int .i64 0 ∧ Hid (∃ v, IsL wr base g v s0 ∧ Kp base g W2 wr)) ∨ (v16 = .int .i64 1 ∧ Hid (∃ v, IsL wr base g v s1 ∧ Kp base g W2 wr)) ∨ (v16 = .int .i64 2 ∧ Hid (∃ v, IsL wr base g v s2 ∧ Kp base g W2 wr)) ∨ (v16 = .int .i64 3 ∧ Hid (∃ v, IsL wr base g v s3 ∧ Kp base g W2 wr))) (fun v16 _ => (3 - intOf v16).toNat)
  case atStart => exact Or.inl ⟨rfl, Lib.hid ⟨_, H0.out, Kp.refl _ _ _⟩⟩
  case round =>
    obtain ⟨wi, rfl⟩ : ∃ wi : World, wi = wr := ⟨_, rfl⟩
    rcases hrel with ⟨rfl, HI⟩ | ⟨rfl, HI⟩ | ⟨rfl, HI⟩ | ⟨rfl, HI⟩
    · obtain ⟨v, h1, hk1⟩ := HI.out
      have tf := blk_cell (hk1.keep HF2.out HN.out (by decide)) 0
      have H1 := Lib.hid h1
      have HK1 := Lib.hid hk1
      clear h1 hk1 HI
      go_wp2_with fail
      refine (A0.out _ _ v ?_ H1.out).mono ?_
      · have := HK0.out.size; have := HK1.out.size; have := HBase.out; omega
      rintro e w3 ⟨v3, rfl, h3, hk3⟩
      have HF3 : Hid (∃ v, IsL w3 base g v s1 ∧ Kp base g W2 w3) := Lib.hid ⟨v3, h3, HK1.out.trans hk3⟩
      clear h3 hk3 H1 HK1 tf
      go_wp2_with fail
      exact ⟨by first | exact Or.inl ⟨rfl, HF3⟩ | exact Or.inr (Or.inl ⟨rfl, HF3⟩) | exact Or.inr (Or.inr (Or.inl ⟨rfl, HF3⟩)) | exact Or.inr (Or.inr (Or.inr ⟨rfl, HF3⟩)), by simp [intOf]⟩
    · obtain ⟨v, h1, hk1⟩ := HI.out
      have tf := blk_cell (hk1.keep HF2.out HN.out (by decide)) 1
      have H1 := Lib.hid h1
      have HK1 := Lib.hid hk1
      clear h1 hk1 HI
      go_wp2_with fail
      refine (A1.out _ _ v ?_ H1.out).mono ?_
      · have := HK0.out.size; have := HK1.out.size; have := HBase.out; omega
      rintro e w3 ⟨v3, rfl, h3, hk3⟩
      have HF3 : Hid (∃ v, IsL w3 base g v s2 ∧ Kp base g W2 w3) := Lib.hid ⟨v3, h3, HK1.out.trans hk3⟩
      clear h3 hk3 H1 HK1 tf
      go_wp2_with fail
      exact ⟨by first | exact Or.inl ⟨rfl, HF3⟩ | exact Or.inr (Or.inl ⟨rfl, HF3⟩) | exact Or.inr (Or.inr (Or.inl ⟨rfl, HF3⟩)) | exact Or.inr (Or.inr (Or.inr ⟨rfl, HF3⟩)), by simp [intOf]⟩
    · obtain ⟨v, h1, hk1⟩ := HI.out
      have tf := blk_cell (hk1.keep HF2.out HN.out (by decide)) 2
      have H1 := Lib.hid h1
      have HK1 := Lib.hid hk1
      clear h1 hk1 HI
      go_wp2_with fail
      refine (A2.out _ _ v ?_ H1.out).mono ?_
      · have := HK0.out.size; have := HK1.out.size; have := HBase.out; omega
      rintro e w3 ⟨v3, rfl, h3, hk3⟩
      have HF3 : Hid (∃ v, IsL w3 base g v s3 ∧ Kp base g W2 w3) := Lib.hid ⟨v3, h3, HK1.out.trans hk3⟩
      clear h3 hk3 H1 HK1 tf
      go_wp2_with fail
      exact ⟨by first | exact Or.inl ⟨rfl, HF3⟩ | exact Or.inr (Or.inl ⟨rfl, HF3⟩) | exact Or.inr (Or.inr (Or.inl ⟨rfl, HF3⟩)) | exact Or.inr (Or.inr (Or.inr ⟨rfl, HF3⟩)), by simp [intOf]⟩
    · obtain ⟨v, h1, hk1⟩ := HI.out
      have H3 := Lib.hid h1
      have HK3 := Lib.hid hk1
      clear h1 hk1 HI
      go_wp2_with fail
      refine (P3.out _ _ v H3.out).mono ?_
      rintro e w4 ⟨v4, rfl, h4, hk4⟩
      have H4 := Lib.hid h4
      have HK4 := Lib.hid (HK3.out.trans hk4)
      clear h4 hk4 H3 HK3
      go_wp2_with fail
      refine (A4.out _ _ v4 ?_ H4.out).mono ?_
      · have := HK0.out.size; have := HK4.out.size; have := HBase.out; omega
      rintro e w5 ⟨v5, rfl, h5, hk5⟩
      have H5 := Lib.hid h5
      have HK5 := Lib.hid (HK4.out.trans hk5)
      clear h5 hk5 H4 HK4
      go_wp2_with fail
      refine (P5.out _ _ v5 H5.out).mono ?_
      rintro e w6 ⟨v6, rfl, h6, hk6⟩
      have H6 := Lib.hid h6
      have HK6 := Lib.hid (HK5.out.trans hk6)
      clear h6 hk6 H5 HK5
      go_wp2_with fail
      refine (P6.out _ _ v6 H6.out).mono ?_
      rintro e w7 ⟨v7, rfl, h7, hk7⟩
      have H7 := Lib.hid h7
      have HK7 := Lib.hid (HK6.out.trans hk7)
      clear h7 hk7 H6 HK6
      go_wp2_with fail
      refine (P7.out _ _ v7 H7.out).mono ?_
      rintro e w8 ⟨v8, rfl, h8, hk8⟩
      have H8 := Lib.hid h8
      have HK8 := Lib.hid (HK7.out.trans hk8)
      clear h8 hk8 H7 HK7
      go_wp2_with fail
      refine (KL.out _ _ v8 H8.out).mono ?_
      rintro e w9 ⟨rfl, hb9⟩
      have hfin : Bel w w9 := by
        have h := HK8.out.trans (Kp.of_bel hb9)
        rw [HBase.out] at h
        exact Kp.below' (base := base) HK0.out h (by have := HG.out; omega)
      clear hb9 H8 HK8
      go_wp2_with fail
      go_ret
      exact ⟨rfl, hfin⟩
end Go.Proofs.Ythhigmkheccfpaa
