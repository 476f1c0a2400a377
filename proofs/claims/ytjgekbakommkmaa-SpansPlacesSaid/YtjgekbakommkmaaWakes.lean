/- Spans: the walk of wakes. -/
import Derived.Test.YtjgekbakommkmaaAdd
set_option linter.unusedVariables false
set_option linter.unusedSimpArgs false
namespace Go.Proofs.Ytjgekbakommkmaa
open Go.RowKit Go.Proofs.YtjgekbakommkmaaW.PrintWords Go.Proofs.YtjgekbakommkmaaW.PrintMore
open PSpansChange Pl
def L0 : List Sp := [(0, 2), (5, 9)]
theorem L0_good : GoodL L0 := ⟨by intro s hs; simp [L0] at hs; rcases hs with rfl | rfl <;> rfl, by simp [L0]⟩
theorem L0_add : addF L0 (2, 3) = [(0, 3), (5, 9)] := by rfl
theorem L0_cut : cutF L0 (6, 7) = [(0, 2), (5, 6), (7, 9)] := by rfl
theorem L0_gaps : gapsF (meetL L0 (1, 7)) (1, 7) = [(2, 5)] := by rfl
theorem L0_total : spans_List_Total.f 4 (m30 L0) = some 6 := by
  unfold spans_List_Total.f
  have h := lgood_f L0 (by decide)
  have hg : gl L0 = true := (gl_iff L0).2 L0_good
  rw [hg] at h
  rw [show (4 : Nat) = L0.length + 2 by rfl, h, Option.bind_some, if_pos rfl]
  simp [spans_List_Total.l0, L0, m30, rd_T30, spans_Span_Len.f, spans_Span_Good.f, wrap64]
attribute [local go_sem high] eqA30
theorem L0_may (s : Sp) (h : ok1 s = true) : mayE L0 s = 0 := may_zero L0_good h
theorem cells30 {w : World} {v : Value} {l : List Sp} {base : Nat} (h : Kd.R k30 30 w base (fun _ => True) v (m30 l)) : ∃ A c, v = .slice A l.length c ∧ l.length ≤ c ∧ Kd.C k30 w A l.length (m30 l) := by
  obtain ⟨A, c, e, h1, h2⟩ := Kd.R_reads h
  rw [m30_length] at e h1 h2
  exact ⟨A, c, e, h1, h2⟩
set_option maxHeartbeats 8000000 in
set_option maxRecDepth 100000 in
theorem wakesB (w : World) : Calls Try.prog 16 #[] w fun e w' => e = .returned (.bool true) ∧ Bel w w' := by
  have K1 := Lib.hid (fun A c hc w h => addB A c L0 (2, 3) (by decide) hc w h)
  have K2 := Lib.hid (fun A c hc w h => cutB A c L0 (6, 7) (by decide) hc w h)
  have K3 := Lib.hid (fun A c hc w h => gapsB A c L0 (1, 7) (by decide) hc w h)
  have K4 := Lib.hid (fun A c hc w h => spans_List_Total.calls 4 A c (m30 L0) 6 w h hc L0_total)
  rw [L0_may _ (by rfl)] at K1 K2 K3
  simp only [errV, if_pos, L0_add, L0_cut, L0_gaps] at K1 K2 K3
  have hlit := (Kd.R_reads' (lit30_2 w w.heap.size (Nat.le_refl _) (0, 2) (5, 9))).2.2
  have HL : Hid (Kd.C k30 (w.alloc (.cells #[.int .i64 0, .int .i64 2, .int .i64 5, .int .i64 9] 30)) (some ⟨w.heap.size, 0, none⟩) 2 (m30 L0)) := Lib.hid hlit
  clear hlit
  go_enter Try.func16, Try.ntmps16
  go_wp2_with fail
  refine calls_gen (fun W => Bel w W ∧ Kd.C k30 W (some ⟨w.heap.size, 0, none⟩) 2 (m30 L0)) ⟨Bel.alloc _ _, HL.out⟩ ?_
  rintro W0 ⟨hW, hC⟩
  have HW := Lib.hid hW
  have HC := Lib.hid hC
  clear hW hC HL
  refine (K1.out _ _ (by decide) W0 HC.out).mono ?_
  rintro e w1 ⟨v1, rfl, hr1, hb1⟩
  have HR1 := Lib.hid hr1
  have HB1 := Lib.hid hb1
  clear hr1 hb1
  go_wp2_with fail
  refine (K2.out _ _ (by decide) w1 (Kd.C_below HC.out HB1.out)).mono ?_
  rintro e w2 ⟨v2, rfl, hr2, hb2⟩
  have HR2 := Lib.hid hr2
  have HB2 := Lib.hid hb2
  clear hr2 hb2
  go_wp2_with fail
  refine (K3.out _ _ (by decide) w2 (Kd.C_below HC.out (Bel.trans HB1.out HB2.out))).mono ?_
  rintro e w3 ⟨v3, rfl, hr3, hb3⟩
  obtain ⟨A1, c1, rfl, _, hC1⟩ := cells30 (Kd.R_below HR1.out (Bel.trans HB2.out hb3))
  obtain ⟨A2, c2, rfl, _, hC2⟩ := cells30 (Kd.R_below HR2.out hb3)
  obtain ⟨A3, c3, rfl, _, hC3⟩ := cells30 hr3
  obtain ⟨a1, rfl, x0, x1⟩ := at30 hC1 0 (by decide)
  obtain ⟨a2, rfl, y0, y1⟩ := at30 hC2 1 (by decide)
  obtain ⟨a3, rfl, z0, z1⟩ := at30 hC3 0 (by decide)
  have hb := Bel.trans (Bel.trans HB1.out HB2.out) hb3
  have HT : Hid (∀ wx, Bel w3 wx → Calls Try.prog 24 #[.slice (some ⟨w.heap.size, 0, none⟩) 2 2] wx fun e w' => e = .returned (.int .i64 6) ∧ Bel wx w') := Lib.hid fun wx h => K4.out _ _ (by decide) wx (Kd.C_below HC.out (Bel.trans hb h))
  have HB := Lib.hid (Bel.trans HW.out hb)
  simp only [nth, List.getD_cons_zero, List.getD_cons_succ, List.length_cons, List.length_nil, Nat.zero_add, Nat.zero_mul, Nat.one_mul] at x0 x1 y0 y1 z0 z1 ⊢
  have hz : ∀ a : Addr, a.add 0 = a := fun a => by unfold Addr.add; simp
  simp only [hz, Nat.reduceAdd] at x0 x1 y0 y1 z0 z1 ⊢
  simp [Addr.add] at y0 y1
  clear hC1 hC2 hC3 hr3 hb3 hb K1 K2 K3 K4 HR1 HR2 HB1 HB2 HC HW
  go_wp2_with fail
  refine (HT.out _ (Bel.refl _)).mono ?_
  rintro e wt ⟨rfl, hbt⟩
  go_wp2_with fail
  go_ret
  exact ⟨rfl, HB.out.trans hbt⟩
end Go.Proofs.Ytjgekbakommkmaa
