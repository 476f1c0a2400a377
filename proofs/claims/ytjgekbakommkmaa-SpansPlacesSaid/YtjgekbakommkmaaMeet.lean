/- Spans: the walk of Meet. -/
import Derived.Test.YtjgekbakommkmaaCut
set_option linter.unusedVariables false
set_option linter.unusedSimpArgs false
namespace Go.Proofs.Ytjgekbakommkmaa
open Go.RowKit Go.Proofs.YtjgekbakommkmaaW.PrintWords Go.Proofs.YtjgekbakommkmaaW.PrintMore
open PSpansChange Pl
def Has0 (l : List Sp) (t : Int) : List Sp := l.filter fun x => decide (t < x.2)
def meetL (l : List Sp) (s : Sp) : List Sp := meetF (Has0 l s.1) s
theorem rise_of {l : List Sp} (h : GoodL l) : Rising (m30 l) := by
  intro i j hij hj
  rw [m30_length] at hj
  rw [rd30 _ _ (by omega), rd30 _ _ (by omega)]
  simp only [Int.toNat_natCast]
  rcases Nat.eq_or_lt_of_le hij with rfl | hlt
  · exact Int.le_refl _
  · have h1 := List.pairwise_iff_getElem.1 h.ap i j (by omega) hj hlt
    have h2 := ((ok1_iff _).1 (h.ok _ (nth_mem hj))).2.1
    have h3 : nth l j = l[j] := by unfold nth; rw [List.getD_eq_getElem?_getD, List.getElem?_eq_getElem hj]; rfl
    have h4 : nth l i = l[i]'(by omega) := by unfold nth; rw [List.getD_eq_getElem?_getD, List.getElem?_eq_getElem (show i < l.length by omega)]; rfl
    rw [← h3, ← h4] at h1
    omega
theorem drop_find {l : List Sp} {t : Int} {i : Nat} (h : FindAt (m30 l) t i) : i ≤ l.length ∧ l.drop i = Has0 l t := by
  obtain ⟨h0, h1, h2⟩ := h
  rw [m30_length] at h0
  refine ⟨h0, ?_⟩
  have e : l = l.take i ++ l.drop i := (List.take_append_drop i l).symm
  have f1 : (l.take i).filter (fun x => decide (t < x.2)) = [] := by
    rw [List.filter_eq_nil_iff]
    intro x hx
    obtain ⟨j, hj, rfl⟩ := List.getElem_of_mem hx
    simp only [List.length_take] at hj
    have := h1 j (by omega)
    rw [rd30 _ _ (by omega)] at this
    simp only [Int.toNat_natCast, nth, List.getD_eq_getElem?_getD, List.getElem?_eq_getElem (show j < l.length by omega), Option.getD_some] at this
    simp only [List.getElem_take, decide_eq_true_eq]
    omega
  have f2 : (l.drop i).filter (fun x => decide (t < x.2)) = l.drop i := by
    rw [List.filter_eq_self]
    intro x hx
    obtain ⟨j, hj, rfl⟩ := List.getElem_of_mem hx
    simp only [List.length_drop] at hj
    have := h2 (i + j) (by omega) (by rw [m30_length]; omega)
    rw [rd30 _ _ (by omega)] at this
    simp only [Int.toNat_natCast, nth, List.getD_eq_getElem?_getD, List.getElem?_eq_getElem (show i + j < l.length by omega), Option.getD_some] at this
    simp only [List.getElem_drop, decide_eq_true_eq]
    exact this
  unfold Has0
  conv => rhs; rw [e, List.filter_append, f1, f2]
  simp
theorem m30_drop (l : List Sp) (i : Nat) : (m30 l).drop i = m30 (l.drop i) := by simp [m30, List.map_drop]
/-- l[i:]: the row of the rest. -/
theorem cut30 (A : Option Addr) (c : Nat) (l : List Sp) (i : Nat) (hi : i ≤ l.length) (hc : l.length ≤ c) :
    ∃ A' : Option Addr, (∀ W : World, (Instr.slice 26 (.slice A l.length c) (some (.int .i64 (i : Int))) none none).run Try.prog W = .ok (.slice A' (l.drop i).length (c - i)) W) ∧
      (∀ w : World, Kd.C k30 w A l.length (m30 l) → Kd.C k30 w A' (l.drop i).length (m30 (l.drop i))) := by
  refine ⟨if c = i then A else A.map (·.add (i * 2)), fun W => ?_, fun w h => ?_⟩
  · have hel : Try.prog.elem 26 = 30 := by simp [Program.elem, Try.underlying26]
    have hu : Try.prog.underlying 26 = some (.slice (Try.prog.elem 26)) := by rw [hel]; exact Try.underlying26
    obtain ⟨inf, hinf, hsz⟩ : ∃ inf, Try.prog.info? 30 = some inf ∧ inf.size = 2 := by
      have := info30
      cases h : Try.prog.info? 30 with
      | none => rw [h] at this; simp at this
      | some inf => rw [h] at this; simp at this; exact ⟨inf, rfl, this.2.1⟩
    rw [run_slice_l W 26 A l.length c hu .i64 (i : Int) (Int.natCast_nonneg _) (by omega), hel]
    simp [sizeOf, typeInfo, hinf, hsz, sliced, Result.andThen]
  · have := Kd.C_drop (c := c) (m := i) (show Kd.C k30 w A (m30 l).length (m30 l) by rw [m30_length]; exact h) (by rw [m30_length]; exact hi) (by rw [m30_length]; exact hc)
    rw [m30_drop, m30_length] at this
    exact this
/-- what has been met after k spans, all good so far -/
def metK (l : List Sp) (s : Sp) (k : Nat) : List Sp := (l.take k).map fun t => meet1 t s
theorem metK_succ (l : List Sp) (s : Sp) (k : Nat) (h : k < l.length) : metK l s (k + 1) = metK l s k ++ [meet1 (nth l k) s] := by
  unfold metK nth
  rw [List.take_succ_eq_append_getElem h, List.map_append, List.getD_eq_getElem?_getD, List.getElem?_eq_getElem h]
  simp
theorem metK_len (l : List Sp) (s : Sp) (k : Nat) : (metK l s k).length ≤ l.length := by unfold metK; simp; omega
def AllOk (l : List Sp) (s : Sp) (k : Nat) : Prop := ∀ x ∈ metK l s k, ok1 x = true
theorem tw_all {p : Sp → Bool} {l : List Sp} (h : ∀ x ∈ l, p x = true) (r : List Sp) : (l ++ r).takeWhile p = l ++ r.takeWhile p := by
  induction l with
  | nil => rfl
  | cons a t ih =>
    rw [List.cons_append, List.takeWhile_cons, if_pos (h a (by simp)), ih (fun x hx => h x (by simp [hx]))]
    rfl
theorem met_stop (l : List Sp) (s : Sp) (k : Nat) (h : AllOk l s k) (hk : k < l.length) (hb : ok1 (meet1 (nth l k) s) = false) : meetF l s = metK l s k := by
  unfold meetF
  have e : l.map (fun t => meet1 t s) = metK l s k ++ (l.drop k).map (fun t => meet1 t s) := by
    unfold metK
    rw [← List.map_append, List.take_append_drop]
  rw [e, tw_all h, List.drop_eq_getElem_cons hk, List.map_cons, List.takeWhile_cons, if_neg]
  · simp
  · unfold nth at hb
    rw [List.getD_eq_getElem?_getD, List.getElem?_eq_getElem hk] at hb
    simpa using hb
theorem met_end (l : List Sp) (s : Sp) (h : AllOk l s l.length) : meetF l s = metK l s l.length := by
  unfold meetF
  have := tw_all h []
  unfold metK at *
  simpa using this
set_option maxHeartbeats 8000000 in
set_option maxRecDepth 100000 in
theorem meetB12 (A : Option Addr) (c : Nat) (l : List Sp) (s : Sp) (hlen : l.length ≤ 1000000) (hc : l.length ≤ c) (w : World) (hC : Kd.C k30 w A l.length (m30 l)) :
    Calls Try.prog 12 #[.slice A l.length c, .agg #[.int .i64 s.1, .int .i64 s.2]] w fun e w' => ∃ v, e = .returned (.tuple #[v, .int .i64 (mayE l s)]) ∧ Kd.R k30 30 w' w.heap.size (fun _ => True) v (m30 (errV (mayE l s) (meetL l s))) ∧ Bel w w' := by
  have HM := Lib.hid (fun w => mayB A c l s hlen hc w)
  have hmo := @may_ok l s
  obtain ⟨s0, s1⟩ := s
  have HC := Lib.hid hC
  have KG := Lib.hid sgoodB
  have KM := Lib.hid meetB
  clear hC
  obtain ⟨E, hE⟩ : ∃ E, E = mayE l (s0, s1) := ⟨_, rfl⟩
  rw [← hE] at HM hmo ⊢
  clear hE
  by_cases h0 : E = 0
  · subst h0
    obtain ⟨hgl, hok⟩ := hmo rfl
    have hb := (ok1_iff _).1 hok
    simp only [] at hb
    obtain ⟨hb0, hb01, hb1'⟩ := hb
    have KF := Lib.hid (fun w h => findB A c (m30 l) s0 (by omega) (by omega) (rise_of hgl) (by rw [m30_length]; exact hlen) w h)
    have HV : Hid (errV 0 (meetL l (s0, s1)) = meetF (Has0 l s0) (s0, s1)) := Lib.hid (by unfold errV meetL; rw [if_pos rfl])
    generalize errV 0 (meetL l (s0, s1)) = V at *
    simp only [m30_length] at HM KF ⊢
    clear hmo hgl hok hb0 hb01 hb1'
    go_enter Try.func12, Try.ntmps12
    go_wp2_with fail
    refine calls_gen (fun W => Bel w W ∧ W.heap.size = w.heap.size + 1 ∧ W.heap[w.heap.size]? = some (.cells #[.int .i64 s0, .int .i64 s1] 30 (0, 0))) ⟨Bel.alloc _ _, by simp, heap_alloc_new _ _⟩ ?_
    rintro W0 ⟨hW, hWs, hWb⟩
    refine (HM.out W0 (Kd.C_below HC.out hW)).mono ?_
    rintro e w1 ⟨rfl, hb1⟩
    have hs0 := pw_cell_below hb1 (a := ⟨w.heap.size, 0, none⟩) (v := .int .i64 s0) (blk_cell hWb 0)
    have HW := Lib.hid hW
    have HWs := Lib.hid hWs
    have HWb := Lib.hid hWb
    have HB1 := Lib.hid hb1
    clear hW hWs hWb hb1
    go_wp2_with fail
    refine (KF.out _ (Kd.C_below HC.out (HW.out.trans HB1.out))).mono ?_
    rintro e w2 ⟨i, rfl, hf, hb2⟩
    obtain ⟨hi, hd⟩ := drop_find hf
    obtain ⟨A', hcut, hCl⟩ := cut30 A c l i hi hc
    rw [hd] at hcut hCl
    have HB2 := Lib.hid (Bel.trans HB1.out hb2)
    have HC' : Hid (∀ wr, Below W0.heap.size W0 wr → Kd.C k30 wr A' (Has0 l s0).length (m30 (Has0 l s0))) := Lib.hid fun wr h => hCl _ (Kd.C_below HC.out (HW.out.trans h))
    have hml : (Has0 l s0).length ≤ 1000000 := by rw [← hd, List.length_drop]; omega
    generalize Has0 l s0 = m at *
    clear hs0 hf hd hCl hb2 HB1
    go_wp2_with fail
    go_loopw [7, 24] (fun v7 v24 wr => ∃ (k : Nat), v24 = .int .i64 k ∧ k ≤ m.length ∧ Hid (Below W0.heap.size W0 wr ∧ Kd.R k30 30 wr W0.heap.size (fun _ => True) v7 (m30 (metK m (s0, s1) k)) ∧ AllOk m (s0, s1) k)) (fun _ v24 _ => m.length - (intOf v24).toNat)
    case atStart => exact ⟨0, rfl, by omega, Lib.hid ⟨HB2.out, Kd.R_nil _ _ _ _ _, by intro x hx; simp [metK] at hx⟩⟩
    case round =>
      obtain ⟨wo, rfl⟩ : ∃ wo : World, wo = wr := ⟨_, rfl⟩
      obtain ⟨k, rfl, hk, HI⟩ := hrel
      by_cases hlt : k < m.length
      · obtain ⟨ad, rfl, x0, x1⟩ := at30 (HC'.out _ HI.out.1) k hlt
        have hs := fun o => blk_cell ((Below.heap_alloc wo o _ (by have := HI.out.1.size; have := HWs.out; omega)).trans ((HI.out.1.block _ (by have := HWs.out; omega)).trans HWb.out))
        have hs0 := fun o => hs o 0
        have hs1 := fun o => hs o 1
        have HK := Lib.hid (metK_succ m (s0, s1) k hlt)
        have hstop := fun h => met_stop m (s0, s1) k HI.out.2.2 hlt h
        have hall : ok1 (meet1 (nth m k) (s0, s1)) = true → AllOk m (s0, s1) (k + 1) := by
          intro h x hx
          rw [metK_succ m _ k hlt, List.mem_append] at hx
          rcases hx with hx | hx
          · exact HI.out.2.2 x hx
          · simp only [List.mem_singleton] at hx
            rw [hx]; exact h
        have HG := Lib.hid (fun w => KM.out (nth m k) (s0, s1) w)
        generalize meet1 (nth m k) (s0, s1) = p at *
        generalize nth m k = t at *
        obtain ⟨t0, t1⟩ := t
        obtain ⟨p0, p1⟩ := p
        simp only [] at x0 x1 HK HG
        have hlen' := metK_len m (s0, s1) k
        clear hs
        go_wp2_with fail
        refine (HG.out _).mono ?_
        rintro e w3 ⟨rfl, hb3⟩
        have HB3 : Hid (Below W0.heap.size W0 w3) := Lib.hid (below_then (HI.out.1.alloc HI.out.1.size _) (by have := HI.out.1.size; simp; omega) hb3)
        have HR3 : Hid (Kd.R k30 30 w3 W0.heap.size (fun _ => True) u7 (m30 (metK m (s0, s1) k))) := Lib.hid (Kd.R_below (Kd.R_alloc HI.out.2.1 _) hb3)
        clear hb3 hs0 hs1 x0 x1 HG
        have HGG := Lib.hid (KG.out (p0, p1))
        cases hp : ok1 (p0, p1)
        · rw [hp] at HGG
          have HV2 : Hid (V = metK m (s0, s1) k) := Lib.hid (by rw [HV.out]; exact hstop hp)
          clear hp hstop hall
          go_wp2_with fail
          refine (HGG.out _).mono ?_
          rintro e w4 ⟨rfl, hb4⟩
          have HB4 : Hid (Below W0.heap.size W0 w4) := Lib.hid (below_then (HB3.out.alloc HB3.out.size _) (by have := HB3.out.size; simp; omega) hb4)
          have HR4 : Hid (Kd.R k30 30 w4 W0.heap.size (fun _ => True) u7 (m30 V)) := Lib.hid (by rw [HV2.out]; exact Kd.R_below (Kd.R_alloc HR3.out _) hb4)
          clear hb4 HR3 HB3 HI
          go_wp2_with fail
          exact bodyPost_ret (v := .tuple #[u7, .int .i64 0]) (by simp [results, Try.results12, go_sem]) rfl ⟨u7, rfl, Kd.R_lower HR4.out (by rw [HWs.out]; omega), HW.out.trans HB4.out⟩
        · rw [hp] at HGG
          have HA : Hid (AllOk m (s0, s1) (k + 1)) := Lib.hid (hall hp)
          clear hp hstop hall
          go_wp2_with fail
          refine (HGG.out _).mono ?_
          rintro e w4 ⟨rfl, hb4⟩
          have HB4 : Hid (Below W0.heap.size W0 w4) := Lib.hid (below_then (HB3.out.alloc HB3.out.size _) (by have := HB3.out.size; simp; omega) hb4)
          have HR4 : Hid (Kd.R k30 30 w4 W0.heap.size (fun _ => True) u7 (m30 (metK m (s0, s1) k))) := Lib.hid (Kd.R_below (Kd.R_alloc HR3.out _) hb4)
          have d0 := pw_cell_below hb4 (a := ⟨w3.heap.size, 0, none⟩) (v := .int .i64 p0) (by simp [go_sem])
          have d1 := pw_cell_below hb4 (a := ⟨w3.heap.size, 1, none⟩) (v := .int .i64 p1) (by simp [go_sem])
          clear hb4 HR3 HB3 HI
          go_wp2_with (at_builtin; refine app30 (w0 := W0) W0.heap.size rfl _ _ rfl u7 (metK m (s0, s1) k) (p0, p1) rfl rfl ?aO ?aB ?aS ?aL ?_; (case aO => exact HR4.out); (case aB => exact HB4.out); (case aS => exact HB4.out.size); (case aL => omega); intro v1 w6 ho hb hg; rw [← HK.out] at ho; have HO := Lib.hid ho; have HB := Lib.hid hb; clear ho hb hg)
          exact ⟨⟨k + 1, by congr 1, by omega, Lib.hid ⟨HB.out, HO.out, HA.out⟩⟩, by simp [intOf]; omega⟩
      · have hkl : k = m.length := by omega
        have hfin : Hid (Kd.R k30 30 wo W0.heap.size (fun _ => True) u7 (m30 V) ∧ Below W0.heap.size W0 wo) := Lib.hid ⟨by
          rw [HV.out, met_end m (s0, s1) (hkl ▸ HI.out.2.2), ← hkl]
          exact HI.out.2.1, HI.out.1⟩
        clear hkl
        go_wp2_with fail
        exact bodyPost_ret (v := .tuple #[u7, .int .i64 0]) (by simp [results, Try.results12, go_sem]) rfl ⟨u7, rfl, Kd.R_lower hfin.out.1 (by rw [HWs.out]; omega), HW.out.trans hfin.out.2⟩
  · have HV : Hid (errV E (meetL l (s0, s1)) = []) := Lib.hid (by unfold errV; rw [if_neg h0])
    have hE0 : (E != 0) = true := by simpa using h0
    generalize errV E (meetL l (s0, s1)) = V at *
    simp only [] at HM ⊢
    clear h0 hmo
    go_enter Try.func12, Try.ntmps12
    go_wp2_with fail
    refine (HM.out _ (Kd.C_below HC.out (Bel.alloc _ _))).mono ?_
    rintro e w1 ⟨rfl, hb1⟩
    go_wp2_with fail
    exact bodyPost_ret (v := .tuple #[.slice none 0 0, .int .i64 E]) (by simp [results, Try.results12, go_sem]) rfl ⟨_, rfl, by rw [HV.out]; exact Kd.R_nil _ _ _ _ _, (Bel.alloc _ _).trans hb1⟩
end Go.Proofs.Ytjgekbakommkmaa
