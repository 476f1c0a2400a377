/- Spans: the walk of Add. -/
import Derived.Test.YtjgekbakommkmaaGaps
import Derived.Deep.RegionHeld3
import Derived.RegionTactic
import Derived.ChangeAlike
import Derived.BigRegion
set_option linter.unusedVariables false
set_option linter.unusedSimpArgs false
namespace Go.Proofs.Ytjgekbakommkmaa
open Go.RowKit Go.Proofs.YtjgekbakommkmaaW.PrintWords Go.Proofs.YtjgekbakommkmaaW.PrintMore
open PSpansChange Pl
/-- append(out, m...) -/
theorem app30s {w0 W : World} {ops : Array Oper} {rest : List Oper} {o : Oper} {a : Act} {Q : Exit → Act → World → Prop} (base : Nat) (hgd : o.guard = none) (s x : Operand)
    (ho : o.op = .call { callee := .builtin .append, args := #[s, x], argTypes := #[26, 26] }) (v : Value) (l m : List Sp) (A : Option Addr) (n c : Nat) (hn : m.length = n) (hs : a.eval s = v) (hx : a.eval x = .slice A n c)
    (HO : Kd.R k30 30 W base (fun _ => True) v (m30 l)) (HC : Kd.C k30 W A m.length (m30 m)) (HB : Below base w0 W) (hbase : base ≤ W.heap.size) (hl : l.length + m.length ≤ 4000000)
    (h : ∀ v1 w1, Kd.R k30 30 w1 base (fun _ => True) v1 (m30 (l ++ m)) → Below base w0 w1 → wpList Try.prog ops Q rest (a.put o.dst v1) w1) :
    wpList Try.prog ops Q (o :: rest) a W := by
  subst hn
  refine Kd.R_append_rows k30 (Rr := k30.K W) (w0 := w0) base hgd s x 26 30 (.agg #[.int .i64 0, .int .i64 0]) 16 ho Try.underlying26 info30 rfl (by decide) (by omega) v (m30 l) (m30 m) A m.length c (fun _ => True) (fun _ => False) hs hx HO HC (fun x cs hk => by obtain rfl := k30_open hk; exact k30_mkM _ _ _ _) (fun _ hk => hk.elim) (fun _ _ => trivial) HB hbase (by rw [m30_length]; omega) ?_
  intro v1 w1 h1 h2 _ _
  exact h v1 w1 (by rw [m30_append]; exact h1) h2
theorem addF_step (l : List Sp) (s : Sp) (i : Nat) (hi : i < l.length) (hc : (nth l i).2 < s.1) (h : addF l s = l.take i ++ addF (l.drop i) s) : addF l s = l.take (i + 1) ++ addF (l.drop (i + 1)) s := by
  have e : nth l i = l[i] := by unfold nth; rw [List.getD_eq_getElem?_getD, List.getElem?_eq_getElem hi]; rfl
  rw [h, List.drop_eq_getElem_cons hi]
  rw [e] at hc
  simp only [addF]
  rw [if_pos hc, List.take_succ_eq_append_getElem hi, List.append_assoc, List.singleton_append]
theorem addF_stop (l : List Sp) (s : Sp) (i : Nat) (hc : i < l.length → ¬ (nth l i).2 < s.1) : addF (l.drop i) s = (addMid (l.drop i) s).1 :: (addMid (l.drop i) s).2 := by
  by_cases hi : i < l.length
  · have e : nth l i = l[i] := by unfold nth; rw [List.getD_eq_getElem?_getD, List.getElem?_eq_getElem hi]; rfl
    have := hc hi
    rw [e] at this
    rw [List.drop_eq_getElem_cons hi]
    simp only [addF]
    rw [if_neg this]
  · rw [List.drop_eq_nil_of_le (by omega)]
    simp [addF, addMid]
theorem addMid_step (l : List Sp) (s : Sp) (i : Nat) (hi : i < l.length) (hc : (nth l i).1 ≤ s.2 ∧ s.1 ≤ (nth l i).2) : addMid (l.drop i) s = addMid (l.drop (i + 1)) (min s.1 (nth l i).1, max s.2 (nth l i).2) := by
  have e : nth l i = l[i] := by unfold nth; rw [List.getD_eq_getElem?_getD, List.getElem?_eq_getElem hi]; rfl
  rw [List.drop_eq_getElem_cons hi, e]
  rw [e] at hc
  simp only [addMid]
  rw [if_pos hc]
theorem addMid_stop (l : List Sp) (s : Sp) (i : Nat) (hc : i < l.length → ¬ ((nth l i).1 ≤ s.2 ∧ s.1 ≤ (nth l i).2)) : addMid (l.drop i) s = (s, l.drop i) := by
  by_cases hi : i < l.length
  · have e : nth l i = l[i] := by unfold nth; rw [List.getD_eq_getElem?_getD, List.getElem?_eq_getElem hi]; rfl
    have := hc hi
    rw [e] at this
    rw [List.drop_eq_getElem_cons hi]
    simp only [addMid]
    rw [if_neg this]
  · rw [List.drop_eq_nil_of_le (by omega)]
    simp [addMid]
theorem take_succ (l : List Sp) (i : Nat) (hi : i < l.length) : l.take (i + 1) = l.take i ++ [nth l i] := by
  have e : nth l i = l[i] := by unfold nth; rw [List.getD_eq_getElem?_getD, List.getElem?_eq_getElem hi]; rfl
  rw [e, List.take_succ_eq_append_getElem hi]
theorem bel_up {b c : Nat} {w w1 w2 : World} (h : Below b w w1) (hbc : b ≤ c) (k : Below c w1 w2) : Below b w w2 := ⟨k.os.trans h.os, k.tape.trans h.tape, k.output.trans h.output, Nat.le_trans h.size k.size, fun i hi => (k.block i (by omega)).trans (h.block i hi)⟩
theorem own0 {w : World} {b : Nat} {v : Value} (h : w.ownsRow b 30 2 v 0 []) : Kd.R k30 30 w b (fun _ => True) v (m30 []) := ⟨fun _ _ => trivial, [], h, Reps.none _ _⟩
set_option maxHeartbeats 8000000 in
set_option maxRecDepth 100000 in
theorem addB (A : Option Addr) (c : Nat) (l : List Sp) (s : Sp) (hlen : l.length ≤ 1000000) (hc : l.length ≤ c) (w : World) (hC : Kd.C k30 w A l.length (m30 l)) :
    Calls Try.prog 10 #[.slice A l.length c, .agg #[.int .i64 s.1, .int .i64 s.2]] w fun e w' => ∃ v, e = .returned (.tuple #[v, .int .i64 (mayE l s)]) ∧ Kd.R k30 30 w' w.heap.size (fun _ => True) v (m30 (errV (mayE l s) (addF l s))) ∧ Bel w w' := by
  have HM := Lib.hid (fun w => mayB A c l s hlen hc w)
  obtain ⟨s0, s1⟩ := s
  have HC := Lib.hid hC
  have KT := Lib.hid touchesB
  have KCUT := Lib.hid (fun j hj => cut30 A c l j hj hc)
  clear hC
  obtain ⟨E, hE⟩ : ∃ E, E = mayE l (s0, s1) := ⟨_, rfl⟩
  rw [← hE] at HM ⊢
  clear hE
  by_cases h0 : E = 0
  · subst h0
    have HV : Hid (errV 0 (addF l (s0, s1)) = addF l (s0, s1)) := Lib.hid (by unfold errV; rw [if_pos rfl])
    generalize errV 0 (addF l (s0, s1)) = V at *
    simp only [] at HM ⊢
    obtain ⟨i0, hi, hzz⟩ := Option.map_eq_some_iff.1 info30
    simp only [Prod.mk.injEq] at hzz
    obtain ⟨hz0, hz1, hz2⟩ := hzz
    have HI0 := Lib.hid (And.intro hi (And.intro hz0 (And.intro hz1 hz2)))
    clear hi hz0 hz1 hz2
    go_enter Try.func10, Try.ntmps10
    go_wp2_with fail
    refine calls_gen (fun W => Bel w W ∧ W.heap.size = w.heap.size + 1 ∧ W.heap[w.heap.size]? = some (.cells #[.int .i64 s0, .int .i64 s1] 30 (0, 0))) ⟨Bel.alloc _ _, by simp, heap_alloc_new _ _⟩ ?_
    rintro W0 ⟨hW, hWs, hWb⟩
    refine (HM.out W0 (Kd.C_below HC.out hW)).mono ?_
    rintro e w1 ⟨rfl, hb1⟩
    have HW := Lib.hid (Bel.trans hW hb1)
    have HWs := Lib.hid hWs
    have HWb := Lib.hid ((hb1.block _ (by rw [hWs]; omega)).trans hWb)
    have hsz1 := hb1.size
    clear hW hWs hWb hb1
    go_wp2_with (at_make; refine wpList_make_own _ rfl _ _ 26 rfl W0.heap.size 30 i0 _ 2 Try.underlying26 HI0.out.1 HI0.out.2.1 HI0.out.2.2.1 .i64 .i64 _ (l.length + 1) rfl rfl (by omega) (by rw [HI0.out.2.2.2]; omega) (by unfold maxLen; omega) hsz1 ?_; intro w2 hown hgrow)
    have HO2 := Lib.hid (own0 hown)
    have HB2 := Lib.hid (pw_below_grown (Below.refl W0.heap.size w1) _ hsz1 hgrow (by intro k hk; cases hk))
    clear hown hgrow HI0 HM
    go_loopw [7, 8] (fun v7 v8 wr => ∃ (k : Nat), v8 = .int .i64 k ∧ k ≤ l.length ∧ Hid (Below W0.heap.size w1 wr ∧ Kd.R k30 30 wr W0.heap.size (fun _ => True) v7 (m30 (l.take k)) ∧ addF l (s0, s1) = l.take k ++ addF (l.drop k) (s0, s1))) (fun _ v8 _ => l.length - (intOf v8).toNat)
    case atStart => exact ⟨0, rfl, by omega, Lib.hid ⟨HB2.out, HO2.out, by simp⟩⟩
    case round =>
      obtain ⟨wo, rfl⟩ : ∃ wo : World, wo = wr := ⟨_, rfl⟩
      obtain ⟨k, rfl, hk, HI⟩ := hrel
      have hsb := blk_cell ((HI.out.1.block _ (by rw [HWs.out]; omega)).trans HWb.out)
      have hs0 := hsb 0
      have hs1 := hsb 1
      clear hsb
      by_cases hlt : k < l.length
      · obtain ⟨ad, rfl, x0, x1⟩ := at30 (Kd.C_below HC.out (bel_up HW.out (by rw [HWs.out]; omega) HI.out.1)) k hlt
        have hadd := addF_step l (s0, s1) k hlt
        have hts := take_succ l k hlt
        have hstop := addF_stop l (s0, s1) k
        have hlt' : (k : Int) < (l.length : Int) := by omega
        have hnt : Hid (nth l k = nth l k) := Lib.hid rfl
        generalize hg : nth l k = t at *
        have HG := Lib.hid hg
        clear hg hnt
        obtain ⟨t0, t1⟩ := t
        simp only [] at x0 x1 hadd hstop
        by_cases hc : t1 < s0
        · have HA := Lib.hid (hadd hc HI.out.2.2)
          clear hadd hstop
          go_wp2_with fail
          go_quiet (fail)
          have HRq : Hid (Kd.R k30 30 (wo.drewN nq) W0.heap.size (fun _ => True) u7 (m30 (l.take k))) := Lib.hid (Kd.R_drewN HI.out.2.1 nq)
          have HBq : Hid (Below W0.heap.size w1 (wo.drewN nq)) := Lib.hid (pw_below_drewN HI.out.1 nq)
          have hszq : W0.heap.size ≤ (wo.drewN nq).heap.size := by have := HBq.out.size; omega
          have htl : (l.take k).length ≤ 1000000 := by rw [List.length_take]; omega
          have y0 : (wo.drewN nq).cell? (ad.add (k * 2)) = some (.int .i64 t0) := x0
          have y1 : (wo.drewN nq).cell? ⟨(ad.add (k * 2)).block, (ad.add (k * 2)).off + 1, none⟩ = some (.int .i64 t1) := x1
          clear HI hs0 hs1 x0 x1
          generalize wo.drewN nq = W at *
          go_wp2_with (at_builtin; refine app30 (w0 := w1) W0.heap.size rfl _ _ rfl u7 (l.take k) (t0, t1) rfl rfl ?aO ?aB ?aS ?aL ?_; (case aO => exact HRq.out); (case aB => exact HBq.out); (case aS => exact hszq); (case aL => omega); intro v1 w6 ho hb hg; rw [← hts] at ho; have HO := Lib.hid ho; have HB := Lib.hid hb; clear ho hb hg)
          exact ⟨⟨k + 1, by congr 1, by omega, Lib.hid ⟨HB.out, HO.out, HA.out⟩⟩, by simp [intOf]; omega⟩
        · have hm := hstop (fun _ => hc)
          have HX := Lib.hid (And.intro HI.out.2.2 hm)
          clear hadd hstop hts hm
          go_wp2_with fail
          go_quiet (fail)
          have hex : Hid (Below W0.heap.size w1 (wo.drewN nq) ∧ Kd.R k30 30 (wo.drewN nq) W0.heap.size (fun _ => True) u7 (m30 (l.take k)) ∧ addF l (s0, s1) = l.take k ++ ((addMid (l.drop k) (s0, s1)).1 :: (addMid (l.drop k) (s0, s1)).2)) := Lib.hid ⟨pw_below_drewN HI.out.1 nq, Kd.R_drewN HI.out.2.1 nq, by rw [← HX.out.2]; exact HX.out.1⟩
          clear HI HX x0 x1 hs0 hs1 HG
          generalize wo.drewN nq = W at *
          go_wp2_with fail
          have hkl := hk
          go_loopw [8] (fun v8 wr => ∃ (j : Nat) (p : Sp), v8 = .int .i64 j ∧ k ≤ j ∧ j ≤ l.length ∧ Hid (Below w.heap.size w wr ∧ W0.heap.size ≤ wr.heap.size ∧ wr.heap[w.heap.size]? = some (.cells #[.int .i64 p.1, .int .i64 p.2] 30 (0, 0)) ∧ Kd.R k30 30 wr W0.heap.size (fun _ => True) u7 (m30 (l.take k)) ∧ addMid (l.drop k) (s0, s1) = addMid (l.drop j) p)) (fun v8 _ => l.length - (intOf v8).toNat)
          case atStart => exact ⟨k, (s0, s1), rfl, Nat.le_refl _, hk, Lib.hid ⟨bel_up HW.out (by rw [HWs.out]; omega) hex.out.1, Nat.le_trans hsz1 hex.out.1.size, (hex.out.1.block _ (by rw [HWs.out]; omega)).trans HWb.out, hex.out.2.1, rfl⟩⟩
          case round =>
            obtain ⟨j, p, rfl, hkj, hj, HI⟩ := hrel
            obtain ⟨p0, p1⟩ := p
            have HVV : Hid (addF l (s0, s1) = l.take k ++ ((addMid (l.drop j) (p0, p1)).1 :: (addMid (l.drop j) (p0, p1)).2)) := Lib.hid (by rw [← HI.out.2.2.2.2]; exact hex.out.2.2)
            clear hex
            obtain ⟨wo, rfl⟩ : ∃ wo : World, wo = wr := ⟨_, rfl⟩
            by_cases hlt2 : j < l.length
            · obtain ⟨ad2, he2, x0, x1⟩ := at30 (Kd.C_below HC.out HI.out.1) j hlt2
              cases he2
              have hlt3 : (j : Int) < (l.length : Int) := by omega
              have hgo := addMid_step l (p0, p1) j hlt2
              have hno := addMid_stop l (p0, p1) j
              have HG2 := Lib.hid (KT.out (nth l j) (p0, p1))
              generalize nth l j = t at *
              obtain ⟨t0, t1⟩ := t
              simp only [] at x0 x1 hgo hno HG2
              have hb0 := blk_cell HI.out.2.2.1 0
              have hb1 := blk_cell HI.out.2.2.1 1
              by_cases hc2 : t0 ≤ p1 ∧ p0 ≤ t1
              · have hgo' := hgo hc2
                have hbb : (decide (t0 ≤ p1) && decide (p0 ≤ t1)) = true := by simp [hc2.1, hc2.2]
                rw [hbb] at HG2
                have HM2 := Lib.hid (HI.out.2.2.2.2.trans hgo')
                clear hgo hno hgo' hbb hc2 HVV
                go_wp2_with fail
                have F0 := fun wx (hx : Bel wo wx) => cellB hx x0
                have F1 := fun wx (hx : Bel wo wx) => cellB hx x1
                have F2 := fun wx (hx : Bel wo wx) => cellB hx hb0
                have F3 := fun wx (hx : Bel wo wx) => cellB hx hb1
                go_region_held3 (fun w' => Bel wo w') (first | exact Bel.drewA _ | exact Bel.drew _ | exact Bel.trans (by assumption) (by assumption)) ((first | (go_at_call 31; refine (HG2.out _).mono ?_; rintro e wt ⟨rfl, hbt⟩)))
                have hbx : Bel wo wt := by first | exact hbt | exact Bel.trans (Bel.drew wo) hbt | exact Bel.trans (by assumption) hbt
                have HI2 : Hid (Below w.heap.size w wt ∧ W0.heap.size ≤ wt.heap.size ∧ wt.heap[w.heap.size]? = some (.cells #[.int .i64 p0, .int .i64 p1] 30 (0, 0)) ∧ Kd.R k30 30 wt W0.heap.size (fun _ => True) u7 (m30 (l.take k))) := Lib.hid ⟨bel_up HI.out.1 HI.out.1.size hbx, Nat.le_trans HI.out.2.1 hbx.size, blk_below HI.out.2.2.1 hbx, Kd.R_below HI.out.2.2.2.1 hbx⟩
                have y0 := cellB hbx x0
                have y1 := cellB hbx x1
                have z0 := cellB hbx hb0
                have z1 := cellB hbx hb1
                have fz0 := blk_frozen HI2.out.2.2.1 0
                have fz1 := blk_frozen HI2.out.2.2.1 1
                clear F0 F1 F2 F3 hbx hbt x0 x1 hb0 hb1 HI
                go_wp2_with fail
                go_region
                have hfin : Hid (Below w.heap.size w (((wt.setCell ⟨w.heap.size, 0, none⟩ (.int .i64 (min p0 t0))).setCell ⟨w.heap.size, 1, none⟩ (.int .i64 (max p1 t1))).drew) ∧ W0.heap.size ≤ (((wt.setCell ⟨w.heap.size, 0, none⟩ (.int .i64 (min p0 t0))).setCell ⟨w.heap.size, 1, none⟩ (.int .i64 (max p1 t1))).drew).heap.size ∧ (((wt.setCell ⟨w.heap.size, 0, none⟩ (.int .i64 (min p0 t0))).setCell ⟨w.heap.size, 1, none⟩ (.int .i64 (max p1 t1))).drew).heap[w.heap.size]? = some (.cells #[.int .i64 (min p0 t0), .int .i64 (max p1 t1)] 30 (0, 0)) ∧ Kd.R k30 30 (((wt.setCell ⟨w.heap.size, 0, none⟩ (.int .i64 (min p0 t0))).setCell ⟨w.heap.size, 1, none⟩ (.int .i64 (max p1 t1))).drew) W0.heap.size (fun _ => True) u7 (m30 (l.take k)) ∧ addMid (l.drop k) (s0, s1) = addMid (l.drop (j + 1)) (min p0 t0, max p1 t1)) := Lib.hid ⟨below_drew (below_set (below_set HI2.out.1 (Nat.le_refl _)) (Nat.le_refl _)), by have := HI2.out.2.1; simpa using this, blk_drew (blk_put (blk_put HI2.out.2.2.1 0 _ rfl) 1 _ rfl), Kd.R_drew (R_old (R_old HI2.out.2.2.2 (p := ⟨w.heap.size, 0, none⟩) (by simp only []; rw [HWs.out]; omega) _) (p := ⟨w.heap.size, 1, none⟩) (by simp only []; rw [HWs.out]; omega) _), HM2.out⟩
                clear HI2 y0 y1 z0 z1 fz0 fz1
                skip
                go_wp2_with fail
                exact ⟨⟨j + 1, (min p0 t0, max p1 t1), by congr 1, by omega, by omega, hfin⟩, by simp [intOf]; omega⟩
              · have hno' := hno (fun _ => hc2)
                have hbb : (decide (t0 ≤ p1) && decide (p0 ≤ t1)) = false := by
                  by_cases h5 : t0 ≤ p1
                  · have h6 : ¬ p0 ≤ t1 := fun h => hc2 ⟨h5, h⟩
                    simp [h6]
                  · simp [h5]
                rw [hbb] at HG2
                rw [hno'] at HVV
                clear hgo hno hno' hbb hc2
                go_wp2_with fail
                have F0 := fun wx (hx : Bel wo wx) => cellB hx x0
                have F1 := fun wx (hx : Bel wo wx) => cellB hx x1
                have F2 := fun wx (hx : Bel wo wx) => cellB hx hb0
                have F3 := fun wx (hx : Bel wo wx) => cellB hx hb1
                go_region_held3 (fun w' => Bel wo w') (first | exact Bel.drewA _ | exact Bel.drew _ | exact Bel.trans (by assumption) (by assumption)) ((first | (go_at_call 31; refine (HG2.out _).mono ?_; rintro e wt ⟨rfl, hbt⟩)))
                have hbx : Bel wo wt := by first | exact hbt | exact Bel.trans (Bel.drew wo) hbt | exact Bel.trans (by assumption) hbt
                have HI2 : Hid (Below w.heap.size w wt ∧ W0.heap.size ≤ wt.heap.size ∧ wt.heap[w.heap.size]? = some (.cells #[.int .i64 p0, .int .i64 p1] 30 (0, 0)) ∧ Kd.R k30 30 wt W0.heap.size (fun _ => True) u7 (m30 (l.take k))) := Lib.hid ⟨bel_up HI.out.1 HI.out.1.size hbx, Nat.le_trans HI.out.2.1 hbx.size, blk_below HI.out.2.2.1 hbx, Kd.R_below HI.out.2.2.2.1 hbx⟩
                clear F0 F1 F2 F3 hbx hbt x0 x1 hb0 hb1 HI
                have z0 := blk_cell HI2.out.2.2.1 0
                have z1 := blk_cell HI2.out.2.2.1 1
                have HFIN : Hid (V = (l.take k ++ [(p0, p1)]) ++ l.drop j) := Lib.hid (by rw [HV.out, HVV.out]; simp)
                obtain ⟨A2, hcut, hC2⟩ := KCUT.out j hj
                rw [List.length_drop] at hcut
                have HC2 := Lib.hid (fun wx h => hC2 wx (Kd.C_below HC.out h))
                have htl : (l.take k).length ≤ 1000000 := by rw [List.length_take]; omega
                have hdl : (l.drop j).length ≤ 1000000 := by rw [List.length_drop]; omega
                have hszt := HI2.out.2.1
                clear hC2
                go_wp2_with (first | (at_builtin; refine app30 (w0 := wt) W0.heap.size rfl _ _ rfl u7 (l.take k) (p0, p1) rfl rfl ?aO ?aB ?aS ?aL ?_; (case aO => exact HI2.out.2.2.2); (case aB => exact Below.refl _ _); (case aS => exact hszt); (case aL => omega); intro v1 w6 ho hb hg; have HO6 := Lib.hid ho; have HB6 := Lib.hid hb; have HB7 := Lib.hid (bel_up HI2.out.1 (by rw [HWs.out]; omega) hb); have hsz6 : W0.heap.size ≤ w6.heap.size := Nat.le_trans hszt hb.size; clear ho hb hg) | (at_builtin; refine app30s (w0 := w6) W0.heap.size rfl _ _ rfl v1 (l.take k ++ [(p0, p1)]) (l.drop j) A2 (l.length - j) (c - j) List.length_drop rfl rfl ?aO ?aC ?aB ?aS ?aL ?_; (case aO => exact HO6.out); (case aC => exact HC2.out _ HB7.out); (case aB => exact Below.refl _ _); (case aS => exact hsz6); (case aL => simp only [List.length_append, List.length_cons, List.length_nil]; omega); intro v2 w7 ho hb; rw [← HFIN.out] at ho; have HO7 := Lib.hid ho; have HB8 := Lib.hid (bel_up HB7.out (by rw [HWs.out]; omega) hb); clear ho hb))
                exact bodyPost_ret (v := .tuple #[v2, .int .i64 0]) (by simp [results, Try.results10, go_sem]) rfl ⟨v2, rfl, Kd.R_lower HO7.out (by rw [HWs.out]; omega), HB8.out⟩
            · have hno' := addMid_stop l (p0, p1) j (fun h => absurd h hlt2)
              have hlt3 : decide ((j : Int) < (l.length : Int)) = false := by simp; omega
              rw [hno'] at HVV
              clear hno'
              go_wp2_with fail
              go_quiet (fail)
              have HI2 : Hid (Below w.heap.size w (wo.drewN nq) ∧ W0.heap.size ≤ (wo.drewN nq).heap.size ∧ (wo.drewN nq).heap[w.heap.size]? = some (.cells #[.int .i64 p0, .int .i64 p1] 30 (0, 0)) ∧ Kd.R k30 30 (wo.drewN nq) W0.heap.size (fun _ => True) u7 (m30 (l.take k))) := Lib.hid ⟨pw_below_drewN HI.out.1 nq, HI.out.2.1, blk_drewN HI.out.2.2.1 nq, Kd.R_drewN HI.out.2.2.2.1 nq⟩
              clear HI
              generalize wo.drewN nq = wt at *
              have z0 := blk_cell HI2.out.2.2.1 0
              have z1 := blk_cell HI2.out.2.2.1 1
              have HFIN : Hid (V = (l.take k ++ [(p0, p1)]) ++ l.drop j) := Lib.hid (by rw [HV.out, HVV.out]; simp)
              obtain ⟨A2, hcut, hC2⟩ := KCUT.out j hj
              rw [List.length_drop] at hcut
              have HC2 := Lib.hid (fun wx h => hC2 wx (Kd.C_below HC.out h))
              have htl : (l.take k).length ≤ 1000000 := by rw [List.length_take]; omega
              have hdl : (l.drop j).length ≤ 1000000 := by rw [List.length_drop]; omega
              have hszt := HI2.out.2.1
              clear hC2
              go_wp2_with (first | (at_builtin; refine app30 (w0 := wt) W0.heap.size rfl _ _ rfl u7 (l.take k) (p0, p1) rfl rfl ?aO ?aB ?aS ?aL ?_; (case aO => exact HI2.out.2.2.2); (case aB => exact Below.refl _ _); (case aS => exact hszt); (case aL => omega); intro v1 w6 ho hb hg; have HO6 := Lib.hid ho; have HB6 := Lib.hid hb; have HB7 := Lib.hid (bel_up HI2.out.1 (by rw [HWs.out]; omega) hb); have hsz6 : W0.heap.size ≤ w6.heap.size := Nat.le_trans hszt hb.size; clear ho hb hg) | (at_builtin; refine app30s (w0 := w6) W0.heap.size rfl _ _ rfl v1 (l.take k ++ [(p0, p1)]) (l.drop j) A2 (l.length - j) (c - j) List.length_drop rfl rfl ?aO ?aC ?aB ?aS ?aL ?_; (case aO => exact HO6.out); (case aC => exact HC2.out _ HB7.out); (case aB => exact Below.refl _ _); (case aS => exact hsz6); (case aL => simp only [List.length_append, List.length_cons, List.length_nil]; omega); intro v2 w7 ho hb; rw [← HFIN.out] at ho; have HO7 := Lib.hid ho; have HB8 := Lib.hid (bel_up HB7.out (by rw [HWs.out]; omega) hb); clear ho hb))
              exact bodyPost_ret (v := .tuple #[v2, .int .i64 0]) (by simp [results, Try.results10, go_sem]) rfl ⟨v2, rfl, Kd.R_lower HO7.out (by rw [HWs.out]; omega), HB8.out⟩
      · have hm := addF_stop l (s0, s1) k (fun h => absurd h hlt)
        have hex0 : Hid (Below W0.heap.size w1 wo ∧ Kd.R k30 30 wo W0.heap.size (fun _ => True) u7 (m30 (l.take k)) ∧ addF l (s0, s1) = l.take k ++ ((addMid (l.drop k) (s0, s1)).1 :: (addMid (l.drop k) (s0, s1)).2)) := Lib.hid ⟨HI.out.1, HI.out.2.1, by rw [← hm]; exact HI.out.2.2⟩
        have hlt' : decide ((k : Int) < (l.length : Int)) = false := by simp; omega
        clear hm HI
        go_wp2_with fail
        go_quiet (fail)
        have hex : Hid (Below W0.heap.size w1 (wo.drewN nq) ∧ Kd.R k30 30 (wo.drewN nq) W0.heap.size (fun _ => True) u7 (m30 (l.take k)) ∧ addF l (s0, s1) = l.take k ++ ((addMid (l.drop k) (s0, s1)).1 :: (addMid (l.drop k) (s0, s1)).2)) := Lib.hid ⟨pw_below_drewN hex0.out.1 nq, Kd.R_drewN hex0.out.2.1 nq, hex0.out.2.2⟩
        clear hex0 hs0 hs1 hlt'
        generalize wo.drewN nq = W at *
        go_wp2_with fail
        have hkl := hk
        go_loopw [8] (fun v8 wr => ∃ (j : Nat) (p : Sp), v8 = .int .i64 j ∧ k ≤ j ∧ j ≤ l.length ∧ Hid (Below w.heap.size w wr ∧ W0.heap.size ≤ wr.heap.size ∧ wr.heap[w.heap.size]? = some (.cells #[.int .i64 p.1, .int .i64 p.2] 30 (0, 0)) ∧ Kd.R k30 30 wr W0.heap.size (fun _ => True) u7 (m30 (l.take k)) ∧ addMid (l.drop k) (s0, s1) = addMid (l.drop j) p)) (fun v8 _ => l.length - (intOf v8).toNat)
        case atStart => exact ⟨k, (s0, s1), rfl, Nat.le_refl _, hk, Lib.hid ⟨bel_up HW.out (by rw [HWs.out]; omega) hex.out.1, Nat.le_trans hsz1 hex.out.1.size, (hex.out.1.block _ (by rw [HWs.out]; omega)).trans HWb.out, hex.out.2.1, rfl⟩⟩
        case round =>
          obtain ⟨j, p, rfl, hkj, hj, HI⟩ := hrel
          obtain ⟨p0, p1⟩ := p
          have HVV : Hid (addF l (s0, s1) = l.take k ++ ((addMid (l.drop j) (p0, p1)).1 :: (addMid (l.drop j) (p0, p1)).2)) := Lib.hid (by rw [← HI.out.2.2.2.2]; exact hex.out.2.2)
          clear hex
          obtain ⟨wo, rfl⟩ : ∃ wo : World, wo = wr := ⟨_, rfl⟩
          have hlt2 : ¬ j < l.length := by omega
          have hno' := addMid_stop l (p0, p1) j (fun h => absurd h hlt2)
          have hlt3 : decide ((j : Int) < (l.length : Int)) = false := by simp; omega
          rw [hno'] at HVV
          clear hno'
          go_wp2_with fail
          go_quiet (fail)
          have HI2 : Hid (Below w.heap.size w (wo.drewN nq) ∧ W0.heap.size ≤ (wo.drewN nq).heap.size ∧ (wo.drewN nq).heap[w.heap.size]? = some (.cells #[.int .i64 p0, .int .i64 p1] 30 (0, 0)) ∧ Kd.R k30 30 (wo.drewN nq) W0.heap.size (fun _ => True) u7 (m30 (l.take k))) := Lib.hid ⟨pw_below_drewN HI.out.1 nq, HI.out.2.1, blk_drewN HI.out.2.2.1 nq, Kd.R_drewN HI.out.2.2.2.1 nq⟩
          clear HI
          generalize wo.drewN nq = wt at *
          have z0 := blk_cell HI2.out.2.2.1 0
          have z1 := blk_cell HI2.out.2.2.1 1
          have HFIN : Hid (V = (l.take k ++ [(p0, p1)]) ++ l.drop j) := Lib.hid (by rw [HV.out, HVV.out]; simp)
          obtain ⟨A2, hcut, hC2⟩ := KCUT.out j hj
          rw [List.length_drop] at hcut
          have HC2 := Lib.hid (fun wx h => hC2 wx (Kd.C_below HC.out h))
          have htl : (l.take k).length ≤ 1000000 := by rw [List.length_take]; omega
          have hdl : (l.drop j).length ≤ 1000000 := by rw [List.length_drop]; omega
          have hszt := HI2.out.2.1
          clear hC2
          go_wp2_with (first | (at_builtin; refine app30 (w0 := wt) W0.heap.size rfl _ _ rfl u7 (l.take k) (p0, p1) rfl rfl ?aO ?aB ?aS ?aL ?_; (case aO => exact HI2.out.2.2.2); (case aB => exact Below.refl _ _); (case aS => exact hszt); (case aL => omega); intro v1 w6 ho hb hg; have HO6 := Lib.hid ho; have HB6 := Lib.hid hb; have HB7 := Lib.hid (bel_up HI2.out.1 (by rw [HWs.out]; omega) hb); have hsz6 : W0.heap.size ≤ w6.heap.size := Nat.le_trans hszt hb.size; clear ho hb hg) | (at_builtin; refine app30s (w0 := w6) W0.heap.size rfl _ _ rfl v1 (l.take k ++ [(p0, p1)]) (l.drop j) A2 (l.length - j) (c - j) List.length_drop rfl rfl ?aO ?aC ?aB ?aS ?aL ?_; (case aO => exact HO6.out); (case aC => exact HC2.out _ HB7.out); (case aB => exact Below.refl _ _); (case aS => exact hsz6); (case aL => simp only [List.length_append, List.length_cons, List.length_nil]; omega); intro v2 w7 ho hb; rw [← HFIN.out] at ho; have HO7 := Lib.hid ho; have HB8 := Lib.hid (bel_up HB7.out (by rw [HWs.out]; omega) hb); clear ho hb))
          exact bodyPost_ret (v := .tuple #[v2, .int .i64 0]) (by simp [results, Try.results10, go_sem]) rfl ⟨v2, rfl, Kd.R_lower HO7.out (by rw [HWs.out]; omega), HB8.out⟩
  · have HV : Hid (errV E (addF l (s0, s1)) = []) := Lib.hid (by unfold errV; rw [if_neg h0])
    have hE0 : (E != 0) = true := by simpa using h0
    generalize errV E (addF l (s0, s1)) = V at *
    simp only [] at HM ⊢
    clear h0
    go_enter Try.func10, Try.ntmps10
    go_wp2_with fail
    refine (HM.out _ (Kd.C_below HC.out (Bel.alloc _ _))).mono ?_
    rintro e w1 ⟨rfl, hb1⟩
    go_wp2_with fail
    exact bodyPost_ret (v := .tuple #[.slice none 0 0, .int .i64 E]) (by simp [results, Try.results10, go_sem]) rfl ⟨_, rfl, by rw [HV.out]; exact Kd.R_nil _ _ _ _ _, (Bel.alloc _ _).trans hb1⟩
end Go.Proofs.Ytjgekbakommkmaa
