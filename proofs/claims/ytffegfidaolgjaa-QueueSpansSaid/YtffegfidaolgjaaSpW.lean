/- Queue: the walk of Spans. -/
import Derived.Test.YtffegfidaolgjaaSpP
set_option linter.unusedVariables false
set_option linter.unusedSimpArgs false
namespace Go.Proofs.Ytffegfidaolgjaa
open Go.RowKit Spn
theorem Enc.Row.lower {α : Type} {K : Enc α} {w : World} {b c : Nat} {v : Value} {l : List α} (h : K.Row w b v l) (hc : c ≤ b) : K.Row w c v l := by
  obtain ⟨hl, h1 | ⟨g, cap, cur, e, hb, r⟩⟩ := h
  · exact ⟨hl, .inl h1⟩
  · exact ⟨hl, .inr ⟨g, cap, cur, e, Nat.le_trans hc hb, r⟩⟩
theorem info78 : (Try.prog.info? 78).map (fun i => (i.zero, i.size, i.bytes)) = some (some (.agg #[.int .i64 0, .int .i64 0]), 2, 16) := by kernel_rfl
set_option maxHeartbeats 4000000 in
set_option maxRecDepth 100000 in
theorem spansQ (w : World) (base g : Nat) (v : Value) (s : QS) (h : IsQ w base g v s) (hup : Rising s.rs) (hkey : ∀ x ∈ s.rs, 0 ≤ x.f0 ∧ x.f0 < 1099511627776) (hlen : s.rs.length ≤ 1000) :
    Calls Try.prog 23 #[PT g] w fun e w' => ∃ v' l, e = .returned v' ∧ KSp.Row w' w.heap.size v' l ∧ SB s.rs s.rs.length l ∧ Bel w w' := by
  have K := Lib.hid (itemsQ w base g v s h (by omega))
  clear h
  generalize s.rs = rs at *
  have HUP := Lib.hid hup
  have HKEY := Lib.hid hkey
  clear hup hkey
  go_enter Try.func23, Try.ntmps23
  go_wp2_with fail
  refine K.out.mono ?_
  rintro e w1 ⟨vi, rfl, hri, hb1⟩
  obtain ⟨A, c, rfl, hc, hR⟩ := hri.reads
  have HR := Lib.hid hR
  have HB1 := Lib.hid hb1
  clear hri hR hb1 K
  generalize hn : rs.length = n at *
  have HN := Lib.hid hn
  clear hn
  go_wp2_with fail
  have HX0 : Hid (∃ l, KSp.Row w1 w1.heap.size (.slice none 0 0) l ∧ SB rs 0 l ∧ Bel w1 w1) := Lib.hid ⟨[], Enc.Row.nil _ _, sb_zero rs, Bel.refl _⟩
  go_loopw [3, 10] (fun v3 v10 wr => ∃ (k : Nat), v10 = .int .i64 k ∧ k ≤ n ∧ Hid (∃ l, KSp.Row wr w1.heap.size v3 l ∧ SB rs k l ∧ Bel w1 wr)) (fun _ v10 _ => n - (intOf v10).toNat)
  case atStart => exact ⟨0, rfl, by omega, HX0⟩
  case round =>
    obtain ⟨wo, rfl⟩ : ∃ wo : World, wo = wr := ⟨_, rfl⟩
    obtain ⟨k, rfl, hk, HI⟩ := hrel
    clear HX0
    by_cases hlt : k < n
    · obtain ⟨l, hrow, hsb, hbw⟩ := HI.out
      obtain ⟨ad, rfl, x0, x1, x2⟩ := HR.out k (by rw [HN.out]; exact hlt)
      have x0 := cellB hbw x0
      have x1 := cellB hbw x1
      have x2 := cellB hbw x2
      have hkk := HKEY.out _ (nth_mem (l := rs) (i := k) (by rw [HN.out]; exact hlt))
      generalize hy : nth rs k = y at *
      obtain ⟨y0, y1, y2⟩ := y
      simp only [] at x0 x1 x2 hkk
      have HY : Hid ((nth rs k).f0 = y0) := Lib.hid (by rw [hy])
      clear hy
      have HSB := Lib.hid hsb
      have hll := hsb.len
      obtain ⟨A2, c2, rfl, hc2, hx⟩ := hrow.at0
      have hlt' : decide ((k : Int) < (n : Int)) = true := by simp; omega
      clear hsb
      by_cases hl0 : l.length = 0
      · have HNW := Lib.hid (sb_new HUP.out (by rw [HN.out]; exact hlt) HSB.out HY.out hkk.1 hkk.2 (fun h => absurd hl0 (by omega)))
        have hd1 : decide ((l.length : Int) > 0) = false := decide_eq_false (by omega)
        have hd2 : decide (0 < l.length) = false := decide_eq_false (by omega)
        have HROW := Lib.hid hrow
        have HBW := Lib.hid hbw
        have HL0 := Lib.hid hl0
        clear hrow hbw hx hl0 HI
        generalize hm : l.length = m at *
        have HM := Lib.hid hm
        clear hm
        go_wp2_with fail
        refine wp_gen (fun W => Bel wo W ∧ W.heap[wo.heap.size]? = some (.cells #[.int .i64 y0, .string y1, .int .i64 y2] 33 (0, 0))) ⟨Bel.alloc _ _, heap_alloc_new _ _⟩ ?_
        rintro W ⟨hbW, hxW⟩
        generalize wo.heap.size = bx at *
        have q0 := blk_cell hxW 0
        have HXW := Lib.hid hxW
        have HBW2 := Lib.hid hbW
        clear hxW hbW x0 x1 x2
        go_quiet (fail)
        refine then_gen (fun W2 => Bel wo W2 ∧ W2.cell? ⟨bx, 0, none⟩ = some (.int .i64 y0)) ⟨HBW2.out.trans (Bel.drewN _ _), cellB (Bel.drewN _ _) q0⟩ ?_
        rintro W2 ⟨hbW2, q2⟩
        have HB2 := Lib.hid hbW2
        have HO := Lib.hid (HROW.out.bel hbW2)
        have hkk1 := hkk.1
        have hkk2 := hkk.2
        have hsz : w1.heap.size ≤ W2.heap.size := (HBW.out.trans hbW2).size
        have HSZ := Lib.hid hsz
        clear q0 hbW2 hkk hsz HXW HBW2
        go_wp2_with (at_builtin; refine Enc.Row.append (K := KSp) (W := W2) (base := w1.heap.size) (v := .slice A2 m c2) (l := l) HO.out (y0, y0 + 1) rfl _ _ 57 rfl (.agg #[.int .i64 0, .int .i64 0]) 16 Try.underlying57 info78 rfl (by decide) rfl rfl (by rw [HM.out]; omega) HSZ.out ?_; intro v3 w3 ho hg; have HO3 := Lib.hid ho; have HG3 := Lib.hid hg; clear ho hg)
        exact ⟨⟨k + 1, by congr 1, by omega, Lib.hid ⟨_, HO3.out, HNW.out, Enc.Row.bel_grown HO.out (HBW.out.trans HB2.out) HG3.out (Nat.le_refl _)⟩⟩, by simp [intOf]; omega⟩
      · obtain ⟨g2, rfl, hxx⟩ := hx (by omega)
        have z1 : wo.cell? ⟨g2, (l.length - 1) * 2 + 1, none⟩ = some (.int .i64 (Spn.nth l (l.length - 1)).2) := hxx (l.length - 1) (by omega) 1 (.int .i64 (Spn.nth l (l.length - 1)).2) rfl
        have hL : 0 < l.length := by omega
        have hd1 : decide ((l.length : Int) > 0) = true := by simp; omega
        have hd2 : decide (0 < l.length) = true := by simp; omega
        have hw : IntKind.i64.wrap ((l.length : Int) - 1) = ((l.length - 1 : Nat) : Int) := by rw [IntKind.wrap_i64]; omega
        have hpm : l.length - 1 < l.length := by omega
        by_cases hq : (Spn.nth l (l.length - 1)).2 = y0
        · have HNW := Lib.hid (sb_join HSB.out HY.out hkk.1 hkk.2 hL hq)
          have HSW := Lib.hid (fun (wx : World) (h : KSp.Row wx w1.heap.size (.slice (some ⟨g2, 0, none⟩) l.length c2) l) => h.setW (k := l.length - 1) (j := 1) (by omega) (by decide) ((Spn.nth l (l.length - 1)).1, y0 + 1) (.int .i64 (y0 + 1)) rfl)
          have HROW := Lib.hid hrow
          have HBW := Lib.hid hbw
          rw [hq] at z1
          clear hrow hbw hx hl0 HI hq hxx
          generalize (Spn.nth l (l.length - 1)).1 = t0 at *
          generalize hl2 : l.set (l.length - 1) (t0, y0 + 1) = l2 at *
          clear hl2
          generalize l.length - 1 = p at *
          generalize hm : l.length = m at *
          have HM := Lib.hid hm
          clear hm
          go_wp2_with fail
          refine wp_gen (fun W => Bel wo W ∧ W.heap[wo.heap.size]? = some (.cells #[.int .i64 y0, .string y1, .int .i64 y2] 33 (0, 0))) ⟨Bel.alloc _ _, heap_alloc_new _ _⟩ ?_
          rintro W ⟨hbW, hxW⟩
          generalize wo.heap.size = bx at *
          have q0 := blk_cell hxW 0
          have z1 := cellB hbW z1
          have HXW := Lib.hid hxW
          have HBW2 := Lib.hid hbW
          clear hxW hbW x0 x1 x2
          go_quiet (fail)
  
          refine then_gen (fun W2 => Bel wo W2 ∧ W2.cell? ⟨g2, p * 2 + 1, none⟩ = some (.int .i64 y0)) ⟨HBW2.out.trans (Bel.drewN _ _), cellB (Bel.drewN _ _) z1⟩ ?_
          rintro W2 ⟨hbW2, q2⟩
          have HO := Lib.hid (HROW.out.bel hbW2)
          obtain ⟨g3, c3, e3, hg3, hfz, hset, hgr⟩ := HSW.out W2 HO.out
          simp only [Value.slice.injEq, Option.some.injEq, Addr.mk.injEq, and_true, true_and] at e3
          obtain ⟨rfl, rfl⟩ := e3
          have hfz : W2.frozen? ⟨g2, p * 2 + 1, none⟩ = false := hfz
          have HFIN : Hid (KSp.Row (W2.setCell ⟨g2, p * 2 + 1, none⟩ (.int .i64 (y0 + 1))) w1.heap.size (.slice (some ⟨g2, 0, none⟩) m c2) l2 ∧ Bel w1 (W2.setCell ⟨g2, p * 2 + 1, none⟩ (.int .i64 (y0 + 1)))) := Lib.hid ⟨hset, Enc.Row.bel_grown HO.out (HBW.out.trans hbW2) hgr (Nat.le_refl _)⟩
          have hkk1 := hkk.1
          have hkk2 := hkk.2
          clear q0 z1 hbW2 hkk HXW HBW2 hset hgr hg3 HSW HO
          go_wp2_with fail
          exact ⟨⟨k + 1, by congr 1, by omega, Lib.hid ⟨_, HFIN.out.1, HNW.out, HFIN.out.2⟩⟩, by simp [intOf]; omega⟩
        · have HNW := Lib.hid (sb_new HUP.out (by rw [HN.out]; exact hlt) HSB.out HY.out hkk.1 hkk.2 (fun _ => hq))
          have HROW := Lib.hid hrow
          have HBW := Lib.hid hbw
          generalize (Spn.nth l (l.length - 1)).2 = t1 at *
          have hqd : decide (t1 = y0) = false := by simpa using hq
          have hqb : (t1 == y0) = false := by simpa using hq
          clear hrow hbw hx hl0 HI hq hxx
          generalize l.length - 1 = p at *
          generalize hm : l.length = m at *
          have HM := Lib.hid hm
          clear hm
          go_wp2_with fail
          refine wp_gen (fun W => Bel wo W ∧ W.heap[wo.heap.size]? = some (.cells #[.int .i64 y0, .string y1, .int .i64 y2] 33 (0, 0))) ⟨Bel.alloc _ _, heap_alloc_new _ _⟩ ?_
          rintro W ⟨hbW, hxW⟩
          generalize wo.heap.size = bx at *
          have q0 := blk_cell hxW 0
          have z1 := cellB hbW z1
          have HXW := Lib.hid hxW
          have HBW2 := Lib.hid hbW
          clear hxW hbW x0 x1 x2
          go_quiet (fail)
          refine then_gen (fun W2 => Bel wo W2 ∧ W2.cell? ⟨bx, 0, none⟩ = some (.int .i64 y0)) ⟨HBW2.out.trans (Bel.drewN _ _), cellB (Bel.drewN _ _) q0⟩ ?_
          rintro W2 ⟨hbW2, q2⟩
          have HB2 := Lib.hid hbW2
          have HO := Lib.hid (HROW.out.bel hbW2)
          have hkk1 := hkk.1
          have hkk2 := hkk.2
          have hsz : w1.heap.size ≤ W2.heap.size := (HBW.out.trans hbW2).size
          have HSZ := Lib.hid hsz
          clear q0 hbW2 hkk hsz HXW HBW2
          go_wp2_with (at_builtin; refine Enc.Row.append (K := KSp) (W := W2) (base := w1.heap.size) (v := .slice (some ⟨g2, 0, none⟩) m c2) (l := l) HO.out (y0, y0 + 1) rfl _ _ 57 rfl (.agg #[.int .i64 0, .int .i64 0]) 16 Try.underlying57 info78 rfl (by decide) rfl rfl (by rw [HM.out]; omega) HSZ.out ?_; intro v3 w3 ho hg; have HO3 := Lib.hid ho; have HG3 := Lib.hid hg; clear ho hg)
          exact ⟨⟨k + 1, by congr 1, by omega, Lib.hid ⟨_, HO3.out, HNW.out, Enc.Row.bel_grown HO.out (HBW.out.trans HB2.out) HG3.out (Nat.le_refl _)⟩⟩, by simp [intOf]; omega⟩
  
    · have hkn : k = n := by omega
      have hlt' : decide ((k : Int) < (n : Int)) = false := by simp; omega
      have HI2 : Hid (∃ l, KSp.Row wo w1.heap.size u3 l ∧ SB rs n l ∧ Bel w1 wo) := Lib.hid (by rw [← hkn]; exact HI.out)
      clear HI hkn
      go_wp2_with fail
      obtain ⟨l, hrow, hsb, hbw⟩ := HI2.out
      refine bodyPost_ret (v := u3) (by simp [results, Try.results23, go_sem]) rfl ⟨u3, l, rfl, hrow.lower HB1.out.size, by rw [HN.out]; exact hsb, HB1.out.trans hbw⟩
end Go.Proofs.Ytffegfidaolgjaa
