/- The queue and the reference's queue: the walk of same. -/
import Derived.Test.YtffegfidaolgjaaQRel
import Derived.Test.YtffegfidaolgjaaQWakes
set_option linter.unusedVariables false
set_option linter.unusedSimpArgs false
namespace Go.Proofs.Ytffegfidaolgjaa
open Go.RowKit Go.Proofs.YtffegfidaolgjaaW.PrintWords Go.Proofs.YtffegfidaolgjaaW.PrintLast Go.Proofs.YtffegfidaolgjaaW.PrintMore
theorem eq44 (d : Nat) (w : World) (x0 y0 : Int) (x1 y1 : ByteArray) (x2 y2 : Int) :
    (Op.equalIn (d + 2) 44 (.agg #[.int .i64 x0, .string x1, .int .i64 x2]) (.agg #[.int .i64 y0, .string y1, .int .i64 y2])).run Try.prog w = .ok (x0 == y0 && (x1.toList == y1.toList && (x2 == y2))) w := by
  refine eqA_of Try.underlying44 (by kernel_rfl) ?_
  refine eqf_cons (by rfl) (by go_simp; rfl) (by go_simp; rfl) (by go_simp) ?_
  refine eqf_cons (by rfl) (by go_simp; rfl) (by go_simp; rfl) (by go_simp) ?_
  exact eqf_last (by rfl) (by go_simp; rfl) (by go_simp; rfl) (by go_simp)
attribute [local go_sem high] eq44
/-- The oldest, as the reference tells it. -/
theorem oldQ' (w : World) (base g : Nat) (v : Value) (s r : QS) (hr : Rel s r) (h : IsQ w base g v s) :
    Calls Try.prog 15 #[PT g] w fun e w' => e = .returned (.tuple #[elV (roldV r), .bool (decide (0 < s.rs.length))]) ∧ Bel w w' := by
  by_cases h0 : 0 < s.rs.length
  · refine (oldQ w base g v s h0 hr.ok.len' h).mono ?_
    rintro e w' ⟨k, hk, rfl, hb⟩
    rw [rel_old hr hk, decide_eq_true h0]
    exact ⟨rfl, hb⟩
  · refine (oldQ0 w base g v s (by omega) h).mono ?_
    rintro e w' ⟨rfl, hb⟩
    rw [rel_oldN hr (by omega), decide_eq_false h0]
    exact ⟨rfl, hb⟩
set_option maxHeartbeats 8000000 in
set_option maxRecDepth 100000 in
theorem sameQ (w : World) (base g base2 g2 : Nat) (v v2 : Value) (s r : QS) (hr : Rel s r) (h : IsQ w base g v s) (h2 : IsR w base2 g2 v2 r) :
    Calls Try.prog 21 #[PT g, PT g2] w fun e w' => e = .returned (.bool true) ∧ Bel w w' := by
  have hlen := hr.ok.len'
  have KI1 := Lib.hid (itemsQ w base g v s h (by omega))
  have KS := Lib.hid (fun wx hx => sortR wx base2 g2 v2 r s.rs hx hr.sort (by rw [hr.len]; omega))
  have KL := Lib.hid (fun wx (hb : Bel w wx) => lenQ wx base g v s (h.bel hb))
  have KF := Lib.hid (fun wx (hb : Bel w wx) => fullQ wx base g v s (h.bel hb))
  have KC := Lib.hid (fun wx (hb : Bel w wx) => clockQ wx base g v s (h.bel hb))
  have KO := Lib.hid (fun wx (hb : Bel w wx) => oldQ' wx base g v s r hr (h.bel hb))
  have KR := Lib.hid (fun wx (hb : Bel w wx) => oldR wx base2 g2 v2 r (h2.bel hb) (by rw [hr.len]; omega))
  rw [hr.len] at KR
  have H2 := Lib.hid h2
  have HFU : Hid (decide ((s.rs.length : Int) ≥ r.most) = fullP s) := Lib.hid (by rw [hr.most]; rfl)
  have HM := Lib.hid hr.most
  have HC := Lib.hid hr.clock
  clear h h2 hr
  rw [← HC.out] at KC
  generalize s.rs = l at *
  generalize roldV r = x at *
  generalize hn : l.length = n at *
  have HN := Lib.hid hn
  clear hn
  generalize s.clock = ck at *
  go_enter Try.func21, Try.ntmps21
  go_wp2_with fail
  refine KI1.out.mono ?_
  rintro e w1 ⟨v1, rfl, hr1, hb1⟩
  obtain ⟨A1, c1, rfl, hc1, hR1⟩ := hr1.reads
  have HR1 := Lib.hid hR1
  have HB1 := Lib.hid hb1
  clear hr1 hR1 hb1 KI1
  go_wp2_with fail
  refine (KS.out w1 (H2.out.bel HB1.out)).mono ?_
  rintro e w2 ⟨v3, rfl, hr2, hb2⟩
  obtain ⟨A2, c2, rfl, hc2, hR2⟩ := readsR hr2
  have HR2 := Lib.hid hR2
  have HB2 := Lib.hid (And.intro (HB1.out.trans hb2) hb2)
  rw [HN.out]
  rw [HN.out] at hc1 hc2
  clear hr2 hR2 hb2 KS
  go_wp2_with fail
  have cm : ∀ wx, Bel w2 wx → wx.cell? ⟨g2, 0, none⟩ = some (.int .i64 r.most) := fun wx hb => blk_cell (H2.out.bel (HB2.out.1.trans hb)).blk 0
  have cc : ∀ wx, Bel w2 wx → wx.cell? ⟨g2, 2, none⟩ = some (.int .i64 r.clock) := fun wx hb => blk_cell (H2.out.bel (HB2.out.1.trans hb)).blk 2
  have HFx := HFU.out
  generalize fullP s = B at *
  have e1 : (!B == B) = false := by cases B <;> rfl
  have e2 : (B != B) = false := by cases B <;> rfl
  have KLx := Lib.hid (fun wx (hb : Bel w2 wx) => KL.out wx (HB2.out.1.trans hb))
  have KFx := Lib.hid (fun wx (hb : Bel w2 wx) => KF.out wx (HB2.out.1.trans hb))
  have KCx := Lib.hid (fun wx (hb : Bel w2 wx) => KC.out wx (HB2.out.1.trans hb))
  generalize r.most = m at *
  generalize r.clock = ck at *
  go_region_held3 (fun w' => Bel w2 w') (first | assumption | exact Bel.refl _ | exact Bel.drew _ | exact Bel.trans (by assumption) (Bel.drew _) | exact Bel.trans (by assumption) (by assumption)) ((first | (go_at_call 16; refine (KLx.out _ (by assumption)).mono ?_; rintro e wx1 ⟨rfl, hbx1⟩) | (go_at_call 9; refine (KFx.out _ (by assumption)).mono ?_; rintro e wx2 ⟨rfl, hbx2⟩) | (go_at_call 24; refine (KCx.out _ (by assumption)).mono ?_; rintro e wx3 ⟨rfl, hbx3⟩)))
  have HB3 : Hid (Bel w2 wx3) := Lib.hid (by assumption)
  clear cm cc HFx e1 e2 KLx KFx KCx KL KF KC HFU HM HC hbx1 hbx2 hbx3
  go_wp2_with fail
  go_loopw [7, 51] (fun v7 v51 wr => ∃ (k : Nat), v51 = .int .i64 k ∧ k ≤ n ∧ Hid (Bel w2 wr)) (fun _ v51 _ => n - (intOf v51).toNat)
  case atStart => exact ⟨0, rfl, by omega, HB3⟩
  case round =>
    obtain ⟨wo, rfl⟩ : ∃ wo : World, wo = wr := ⟨_, rfl⟩
    obtain ⟨k, rfl, hk, HI⟩ := hrel
    by_cases hlt : k < n
    · have hlt' : decide ((k : Int) < (n : Int)) = true := by simp; omega
      obtain ⟨ad1, rfl, x0, x1, x2⟩ := HR1.out k (by rw [HN.out]; exact hlt)
      obtain ⟨ad2, rfl, y0, y1, y2⟩ := HR2.out k (by rw [HN.out]; exact hlt)
      have x0 := cellB (HB2.out.2.trans HI.out) x0
      have x1 := cellB (HB2.out.2.trans HI.out) x1
      have x2 := cellB (HB2.out.2.trans HI.out) x2
      have y0 := cellB HI.out y0
      have y1 := cellB HI.out y1
      have y2 := cellB HI.out y2
      generalize nth l k = z at *
      obtain ⟨z0, z1, z2⟩ := z
      simp only [] at x0 x1 x2 y0 y1 y2
      go_wp2_with fail
      go_quiet (fail)
      refine then_gen (fun W => Bel w2 W) (HI.out.trans (Bel.drewN _ _)) ?_
      rintro W hbW
      have HF := Lib.hid hbW
      clear hbW x0 x1 x2 y0 y1 y2
      go_wp2_with fail
      exact ⟨⟨k + 1, by congr 1, by omega, HF⟩, by simp [intOf]; omega⟩
    · have hlt' : decide ((k : Int) < (n : Int)) = false := by simp; omega
      have hbo := HB2.out.1.trans HI.out
      generalize decide (0 < n) = b at *
      obtain ⟨z0, z1, z2⟩ := x
      have hel : elV (⟨z0, z1, z2⟩ : El) = .agg #[.int .i64 z0, .string z1, .int .i64 z2] := rfl
      rw [hel] at KO KR
      go_wp2_with fail
      refine (KO.out _ hbo).mono ?_
      rintro e w5 ⟨rfl, hb5⟩
      have HB5 := Lib.hid (hbo.trans hb5)
      clear hb5 hbo HI
      go_wp2_with fail
      refine calls_gen (fun W => Bel w5 W ∧ W.heap[w5.heap.size]? = some (.cells #[.int .i64 z0, .string z1, .int .i64 z2] 33 (0, 0))) ⟨Bel.alloc _ _, heap_alloc_new _ _⟩ ?_
      rintro W6 ⟨hb6, hx6⟩
      refine (KR.out _ (HB5.out.trans hb6)).mono ?_
      rintro e w7 ⟨rfl, hb7⟩
      have hx7 := fun o => blk_below (blk_below hx6 hb7) (Bel.alloc w7 o)
      have q0 := fun o => blk_cell (hx7 o) 0
      have q1 := fun o => blk_cell (hx7 o) 1
      have q2 := fun o => blk_cell (hx7 o) 2
      have HB7 := Lib.hid (HB5.out.trans (hb6.trans hb7))
      clear hb6 hx6 hb7 hx7
      go_wp2_with fail
      go_ret
      refine ⟨by simp, HB7.out.trans (Bel.alloc _ _)⟩
end Go.Proofs.Ytffegfidaolgjaa
