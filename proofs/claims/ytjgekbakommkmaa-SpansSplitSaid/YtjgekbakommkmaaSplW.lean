/- Spans: the walk of Split. -/
import Derived.Test.YtjgekbakommkmaaSplP
set_option linter.unusedVariables false
set_option linter.unusedSimpArgs false
namespace Go.Proofs.Ytjgekbakommkmaa
open Go.RowKit Go.Proofs.YtjgekbakommkmaaW.PrintWords Go.Proofs.YtjgekbakommkmaaW.PrintMore
open PSpansChange Pl
theorem w64i {x : Int} (h1 : -9223372036854775808 ≤ x) (h2 : x ≤ 9223372036854775807) : IntKind.i64.wrap x = x := by
  unfold IntKind.wrap
  simp [IntKind.bits, IntKind.signed]
  omega
/-- append(out, p) of a span, onto a row of the call's own. -/
theorem app25 {w0 W : World} {ops : Array Oper} {rest : List Oper} {o : Oper} {a : Act} {Q : Exit → Act → World → Prop} (base : Nat) (hgd : o.guard = none) (s x : Operand)
    (ho : o.op = .call { callee := .builtin .append, args := #[s, x], argTypes := #[25, 25] }) (v : Value) (l : List Sp) (p : Sp) (hs : a.eval s = v) (hx : a.eval x = .slice (some ⟨W.heap.size, 0, none⟩) 1 1)
    (HO : Kd.R k30 30 W base (fun _ => True) v (m30 l)) (HB : Below base w0 W) (hbase : base ≤ W.heap.size) (hl : l.length ≤ 4000000)
    (h : ∀ v1 w1, Kd.R k30 30 w1 base (fun _ => True) v1 (m30 (l ++ [p])) → Below base w0 w1 → W.grownBy w1 v.ownBlock → wpList Try.prog ops Q rest (a.put o.dst v1) w1) :
    wpList Try.prog ops Q (o :: rest) a (W.alloc (.cells #[.int .i64 p.1, .int .i64 p.2] 30)) := by
  refine Kd.R_append k30 (w0 := w0) base hgd s x 25 30 (.agg #[.int .i64 0, .int .i64 0]) 16 ho Try.underlying25 info30 rfl (by decide) (by omega) v (m30 l) ⟨p.1, p.2⟩ [.int .i64 p.1, .int .i64 p.2] (fun _ => True) (fun _ => False) hs hx (k30_mkM _ _ _ _) (fun _ hk => hk.elim) (fun _ _ => trivial) HO HB hbase (by rw [m30_length]; omega) ?_
  intro v1 w1 h1 h2 h3 _
  exact h v1 w1 (by rw [m30_append]; exact h1) h2 h3
set_option maxHeartbeats 8000000 in
set_option maxRecDepth 100000 in
theorem splitB (s : Sp) (part : Int) (w : World) :
    Calls Try.prog 28 #[.agg #[.int .i64 s.1, .int .i64 s.2], .int .i64 part] w fun e w' => ∃ v, e = .returned (.tuple #[v, .int .i64 (splE s part)]) ∧ Kd.R k30 30 w' w.heap.size (fun _ => True) v (m30 (splV s part)) ∧ Bel w w' := by
  have KG := Lib.hid (fun w => sgoodB s w)
  by_cases hs : ok1 s = true
  · rw [hs] at KG
    by_cases hp : 1 ≤ part
    · have hb := (ok1_iff s).1 hs
      have hc0 := cnt_nonneg hs hp
      have ht1 : Int.tdiv s.1 part = s.1 / part := Int.tdiv_eq_ediv_of_nonneg hb.1
      have ht2 : Int.tdiv (s.2 - 1) part = (s.2 - 1) / part := Int.tdiv_eq_ediv_of_nonneg (by omega)
      have hq1 := Int.ediv_nonneg hb.1 (show 0 ≤ part by omega)
      have hq2 : (s.2 - 1) / part ≤ s.2 - 1 := Int.ediv_le_self _ (by omega)
      have hcd : cnt s part = (s.2 - 1) / part - s.1 / part := rfl
      have hpn : (part != 0) = true := by simp; omega
      have hsE : Hid (splE s part = if 65536 ≤ cnt s part then 3 else 0) := Lib.hid (by unfold splE; rw [if_pos ⟨hs, hp⟩])
      have hsV : Hid (splV s part = if cnt s part < 65536 then pieces s part (cnt s part + 1).toNat else []) := Lib.hid (by unfold splV; by_cases h : cnt s part < 65536 <;> simp [hs, hp, h])
      have HBI := Lib.hid (fun k hk => bord_in (k := k) hs hp hk)
      have HBN := Lib.hid (bord_next s part)
      have HBE := Lib.hid (fun k hk => bord_end (k := k) hs hp hk)
      have HB0 : Hid (bord s part 0 = s.1) := Lib.hid (by simp [bord])
      obtain ⟨s0, s1⟩ := s
      simp only [] at hb ht1 ht2 hq1 hq2 hcd HB0 HBN HBI KG
      generalize hgc : cnt (s0, s1) part = N at *
      clear hs hgc
      generalize hg1 : s0 / part = q0 at *
      generalize hg2 : (s1 - 1) / part = q1 at *
      clear hg1 hg2
      obtain ⟨hb0, hb1, hb2⟩ := hb
      have hw1 : IntKind.i64.wrap (s1 - 1) = s1 - 1 := w64i (by omega) (by omega)
      have hw2 : IntKind.i64.wrap q0 = q0 := w64i (by omega) (by omega)
      have hw3 : IntKind.i64.wrap q1 = q1 := w64i (by omega) (by omega)
      have hw4 : IntKind.i64.wrap (q1 - q0) = q1 - q0 := w64i (by omega) (by omega)
      have hnp : decide (part < 1) = false := by simp; omega
      by_cases hN : 65536 ≤ N
      · rw [hsE.out, hsV.out, if_pos hN, if_neg (by omega)]
        clear hsE hsV HBI HBN HBE HB0
        go_enter Try.func28, Try.ntmps28
        go_wp2_with fail
        refine (KG.out _).mono ?_
        rintro e w1 ⟨rfl, hb1'⟩
        have z0 := pw_cell_below hb1' (a := ⟨w.heap.size, 0, none⟩) (v := .int .i64 s0) (by simp [go_sem])
        have z1 := pw_cell_below hb1' (a := ⟨w.heap.size, 1, none⟩) (v := .int .i64 s1) (by simp [go_sem])
        go_wp2_with fail
        go_quiet (fail)
        go_wp2_with fail
        exact bodyPost_ret (v := .tuple #[.slice none 0 0, .int .i64 3]) (by simp [results, Try.results28, go_sem]) rfl ⟨_, rfl, Kd.R_nil _ _ _ _ _, (Bel.alloc _ _).trans (hb1'.trans (Bel.drewN _ _))⟩
      · rw [hsE.out, hsV.out, if_neg hN, if_pos (by omega)]
        have hNd : decide (65536 ≤ N) = false := by simp; omega
        obtain ⟨V, hV⟩ : ∃ V, V = pieces (s0, s1) part (N + 1).toNat := ⟨_, rfl⟩
        rw [← hV]
        have HV := Lib.hid hV
        clear hsE hsV hV
        go_enter Try.func28, Try.ntmps28
        go_wp2_with fail
        refine calls_gen (fun W => Bel w W ∧ W.heap.size = w.heap.size + 1 ∧ W.heap[w.heap.size]? = some (.cells #[.int .i64 s0, .int .i64 s1] 30 (0, 0))) ⟨Bel.alloc _ _, by simp, heap_alloc_new _ _⟩ ?_
        rintro W0 ⟨hW, hWs, hWb⟩
        refine (KG.out _).mono ?_
        rintro e w1 ⟨rfl, hb1'⟩
        have z0 := pw_cell_below hb1' (a := ⟨w.heap.size, 0, none⟩) (v := .int .i64 s0) (blk_cell hWb 0)
        have z1 := pw_cell_below hb1' (a := ⟨w.heap.size, 1, none⟩) (v := .int .i64 s1) (blk_cell hWb 1)
        have HW := Lib.hid hW
        have HWs := Lib.hid hWs
        have HWb := Lib.hid hWb
        clear hW hWs hWb
        go_wp2_with fail
        go_quiet (fail)
        have HB1 := Lib.hid (hb1'.trans (Bel.drewN w1 nq))
        have y0 : (w1.drewN nq).cell? ⟨w.heap.size, 0, none⟩ = some (.int .i64 s0) := z0
        have y1 : (w1.drewN nq).cell? ⟨w.heap.size, 1, none⟩ = some (.int .i64 s1) := z1
        clear z0 z1 hb1'
        generalize w1.drewN nq = W1 at *
        go_wp2_with fail
        have hs0b := HB0.out
        clear ht1 ht2 hw1 hw2 hw3 hw4 hnp hNd
        go_loopw [8, 9] (fun v8 v9 wr => ∃ (k : Nat), v9 = .int .i64 (bord (s0, s1) part k) ∧ (k : Int) ≤ N + 1 ∧ Hid (Below W0.heap.size W0 wr ∧ Kd.R k30 30 wr W0.heap.size (fun _ => True) v8 (m30 (pieces (s0, s1) part k)))) (fun _ v9 _ => (s1 - intOf v9).toNat)
        case atStart => exact ⟨0, by rw [hs0b], by omega, Lib.hid ⟨HB1.out, Kd.R_nil _ _ _ _ _⟩⟩
        case round =>
          obtain ⟨wo, rfl⟩ : ∃ wo : World, wo = wr := ⟨_, rfl⟩
          obtain ⟨k, rfl, hk, HI⟩ := hrel
          have hsb := blk_cell ((HI.out.1.block _ (by rw [HWs.out]; omega)).trans HWb.out)
          have x0 := hsb 0
          have x1 := hsb 1
          clear hsb y0 y1 hs0b
          have HPS := Lib.hid (pieces_succ (s0, s1) part k)
          have hpl := pieces_len (s0, s1) part k
          have hsz := HI.out.1.size
          by_cases hlt : (k : Int) ≤ N
          · obtain ⟨c1, c2, c3, c4, c5⟩ := HBI.out k hlt
            have HNX := Lib.hid (HBN.out k)
            generalize bord (s0, s1) part k = b at *
            have hbq : b.tdiv part = q0 + k := by rw [Int.tdiv_eq_ediv_of_nonneg c2]; exact c3
            have hqb : b / part ≤ b := Int.ediv_le_self _ c2
            generalize hq : q0 + (k : Int) = q at *
            clear hq
            have hq0 : 0 ≤ q := by have := Int.ediv_nonneg c2 (show 0 ≤ part by omega); omega
            have hM1 : Int.tdiv 1099511627776 part = 1099511627776 / part := Int.tdiv_eq_ediv_of_nonneg (by omega)
            have hMn := Int.ediv_nonneg (show (0 : Int) ≤ 1099511627776 by omega) (show 0 ≤ part by omega)
            have hMs : (1099511627776 : Int) / part ≤ 1099511627776 := Int.ediv_le_self _ (by omega)
            have hMm : (1099511627776 : Int) / part * part ≤ 1099511627776 := Int.ediv_mul_le _ (by omega)
            have hMl : (q + 1) * part ≤ 1099511627776 → q + 1 ≤ 1099511627776 / part := fun h => Int.le_ediv_of_mul_le (by omega) h
            have hMg : q + 1 ≤ 1099511627776 / part → (q + 1) * part ≤ 1099511627776 := fun h => Int.le_trans (Int.mul_le_mul_of_nonneg_right h (by omega)) hMm
            have hw5 : IntKind.i64.wrap q = q := w64i (by omega) (by omega)
            have hw6 : IntKind.i64.wrap (q + 1) = q + 1 := w64i (by omega) (by omega)
            have hw7 : IntKind.i64.wrap (1099511627776 / part) = 1099511627776 / part := w64i (by omega) (by omega)
            generalize hgM : (1099511627776 : Int) / part = M at *
            by_cases h1 : q + 1 ≤ M
            · have hE40 := hMg h1
              have hw9 : wrap64 ((q + 1) * part) = (q + 1) * part := w64 (by omega) (by omega)
              have hw8 : IntKind.i64.wrap ((q + 1) * part) = ((q + 1) * part) := w64i (by omega) (by omega)
              by_cases h2 : ((q + 1) * part) < s1
              · have HX : Hid (bord (s0, s1) part (k + 1) = ((q + 1) * part)) := Lib.hid (by rw [HNX.out]; omega)
                have HP2 : Hid (pieces (s0, s1) part (k + 1) = pieces (s0, s1) part k ++ [(b, ((q + 1) * part))]) := Lib.hid (by rw [HPS.out, HX.out])
                clear HNX HPS hMl hMg
                go_wp2_with (at_builtin; refine app25 (w0 := W0) W0.heap.size rfl _ _ rfl u8 (pieces (s0, s1) part k) (b, ((q + 1) * part)) rfl rfl ?aO ?aB ?aS ?aL ?_; (case aO => exact HI.out.2); (case aB => exact HI.out.1); (case aS => exact hsz); (case aL => rw [hpl]; omega); intro v1 w6 ho hb hg; rw [← HP2.out] at ho; have HO := Lib.hid ho; have HB := Lib.hid hb; clear ho hb hg)
                exact ⟨⟨k + 1, by rw [HX.out], by omega, Lib.hid ⟨HB.out, HO.out⟩⟩, by simp [intOf]; omega⟩
              · have HX : Hid (bord (s0, s1) part (k + 1) = s1) := Lib.hid (by rw [HNX.out]; omega)
                have HP2 : Hid (pieces (s0, s1) part (k + 1) = pieces (s0, s1) part k ++ [(b, s1)]) := Lib.hid (by rw [HPS.out, HX.out])
                clear HNX HPS hMl hMg
                go_wp2_with (at_builtin; refine app25 (w0 := W0) W0.heap.size rfl _ _ rfl u8 (pieces (s0, s1) part k) (b, s1) rfl rfl ?aO ?aB ?aS ?aL ?_; (case aO => exact HI.out.2); (case aB => exact HI.out.1); (case aS => exact hsz); (case aL => rw [hpl]; omega); intro v1 w6 ho hb hg; rw [← HP2.out] at ho; have HO := Lib.hid ho; have HB := Lib.hid hb; clear ho hb hg)
                exact ⟨⟨k + 1, by rw [HX.out], by omega, Lib.hid ⟨HB.out, HO.out⟩⟩, by simp [intOf]; omega⟩
            · have hE41 : ¬ ((q + 1) * part) ≤ 1099511627776 := fun h => h1 (hMl h)
              have hd1 : decide (q + 1 ≤ M) = false := by simp; omega
              have HX : Hid (bord (s0, s1) part (k + 1) = s1) := Lib.hid (by rw [HNX.out]; omega)
              have HP2 : Hid (pieces (s0, s1) part (k + 1) = pieces (s0, s1) part k ++ [(b, s1)]) := Lib.hid (by rw [HPS.out, HX.out])
              clear HNX HPS hMl hMg
              go_wp2_with (at_builtin; refine app25 (w0 := W0) W0.heap.size rfl _ _ rfl u8 (pieces (s0, s1) part k) (b, s1) rfl rfl ?aO ?aB ?aS ?aL ?_; (case aO => exact HI.out.2); (case aB => exact HI.out.1); (case aS => exact hsz); (case aL => rw [hpl]; omega); intro v1 w6 ho hb hg; rw [← HP2.out] at ho; have HO := Lib.hid ho; have HB := Lib.hid hb; clear ho hb hg)
              exact ⟨⟨k + 1, by rw [HX.out], by omega, Lib.hid ⟨HB.out, HO.out⟩⟩, by simp [intOf]; omega⟩
          · have hbe := HBE.out k (by omega)
            have hkN : k = (N + 1).toNat := by omega
            have hfin : Hid (Kd.R k30 30 wo W0.heap.size (fun _ => True) u8 (m30 V) ∧ Below W0.heap.size W0 wo) := Lib.hid ⟨by
              rw [HV.out, ← hkN]
              exact HI.out.2, HI.out.1⟩
            rw [hbe]
            clear hbe HI HPS hkN
            go_wp2_with fail
            exact bodyPost_ret (v := .tuple #[u8, .int .i64 0]) (by simp [results, Try.results28, go_sem]) rfl ⟨u8, rfl, Kd.R_lower hfin.out.1 (by rw [HWs.out]; omega), HW.out.trans hfin.out.2⟩
    · have hE : splE s part = 2 := by unfold splE; rw [if_neg (fun h => hp h.2)]
      have hV : splV s part = [] := by unfold splV; rw [if_neg (fun h => hp h.2.1)]
      rw [hE, hV]
      obtain ⟨s0, s1⟩ := s
      have hnp : part < 1 := by omega
      clear hE hV hs
      simp only [] at KG
      go_enter Try.func28, Try.ntmps28
      go_wp2_with fail
      refine (KG.out _).mono ?_
      rintro e w1 ⟨rfl, hb1'⟩
      go_wp2_with fail
      exact bodyPost_ret (v := .tuple #[.slice none 0 0, .int .i64 2]) (by simp [results, Try.results28, go_sem]) rfl ⟨_, rfl, Kd.R_nil _ _ _ _ _, (Bel.alloc _ _).trans hb1'⟩
  · have hE : splE s part = 2 := by unfold splE; rw [if_neg (fun h => hs h.1)]
    have hV : splV s part = [] := by unfold splV; rw [if_neg (fun h => hs h.1)]
    rw [hE, hV]
    have hs' : ok1 s = false := by simpa using hs
    rw [hs'] at KG
    obtain ⟨s0, s1⟩ := s
    clear hE hV hs hs'
    simp only [] at KG
    go_enter Try.func28, Try.ntmps28
    go_wp2_with fail
    refine (KG.out _).mono ?_
    rintro e w1 ⟨rfl, hb1'⟩
    go_wp2_with fail
    exact bodyPost_ret (v := .tuple #[.slice none 0 0, .int .i64 2]) (by simp [results, Try.results28, go_sem]) rfl ⟨_, rfl, Kd.R_nil _ _ _ _ _, (Bel.alloc _ _).trans hb1'⟩
end Go.Proofs.Ytjgekbakommkmaa
