/- Spans: the walk of Gaps. -/
import Derived.Test.YtjgekbakommkmaaMeet
set_option linter.unusedVariables false
set_option linter.unusedSimpArgs false
namespace Go.Proofs.Ytjgekbakommkmaa
open Go.RowKit Go.Proofs.YtjgekbakommkmaaW.PrintWords Go.Proofs.YtjgekbakommkmaaW.PrintMore
open PSpansChange Pl
/-- A literal's row. -/
theorem lit30 (W : World) (base : Nat) (hbase : base ≤ W.heap.size) (l : List Sp) (inner : List Value) (hl : l.length ≤ 1000000) (hrep : Reps (Kd.M k30 W base (fun _ => False)) 2 (m30 l) inner) :
    Kd.R k30 30 (W.alloc (.cells inner.toArray 30)) base (fun _ => True) (.slice (some ⟨W.heap.size, 0, none⟩) l.length l.length) (m30 l) := by
  refine ⟨fun _ _ => trivial, inner, ?_, ?_⟩
  · have h2 := World.ownsRow_lit (base := base) (e := 30) (size := 2) W inner.toArray l.length hbase (by simp [maxLen]; omega) (by have := hrep.1; simpa using this)
    rw [m30_length]
    exact h2
  · exact hrep.imp_ (fun p c hp => Kd.M_mono k30 (fun k hk => hk.1.elim) (Kd.M_below (Kd.M_bound k30 hp) (below_alloc (Below.refl _ _) _)))
theorem lit30_1 (W : World) (base : Nat) (hbase : base ≤ W.heap.size) (s : Sp) :
    Kd.R k30 30 (W.alloc (.cells #[.int .i64 s.1, .int .i64 s.2] 30)) base (fun _ => True) (.slice (some ⟨W.heap.size, 0, none⟩) 1 1) (m30 [s]) :=
  lit30 W base hbase [s] [.int .i64 s.1, .int .i64 s.2] (by simp) (Reps.c2 (show Kd.M k30 W base (fun _ => False) (⟨s.1, s.2⟩ : S30) [.int .i64 s.1, .int .i64 s.2] from (k30_mkM _ _ _ (⟨s.1, s.2⟩ : S30))) (Reps.none _ _))
theorem lit30_2 (W : World) (base : Nat) (hbase : base ≤ W.heap.size) (s t : Sp) :
    Kd.R k30 30 (W.alloc (.cells #[.int .i64 s.1, .int .i64 s.2, .int .i64 t.1, .int .i64 t.2] 30)) base (fun _ => True) (.slice (some ⟨W.heap.size, 0, none⟩) 2 2) (m30 [s, t]) :=
  lit30 W base hbase [s, t] [.int .i64 s.1, .int .i64 s.2, .int .i64 t.1, .int .i64 t.2] (by simp) (Reps.c2 (show Kd.M k30 W base (fun _ => False) (⟨s.1, s.2⟩ : S30) [.int .i64 s.1, .int .i64 s.2] from (k30_mkM _ _ _ (⟨s.1, s.2⟩ : S30))) (Reps.c2 (show Kd.M k30 W base (fun _ => False) (⟨t.1, t.2⟩ : S30) [.int .i64 t.1, .int .i64 t.2] from (k30_mkM _ _ _ (⟨t.1, t.2⟩ : S30))) (Reps.none _ _)))
theorem opt_len (x : Sp) : (opt x).length ≤ 1 := by unfold opt; split <;> simp
theorem opt_none {x : Sp} (h : ¬ x.1 < x.2) : opt x = [] := by
  unfold opt
  rw [if_neg]
  intro h'
  exact h ((ok1_iff x).1 h').2.1
theorem cut_len0 (t : Sp) : ∀ (l : List Sp), (∀ x ∈ l, t.1 ≤ x.1) → (cutF l t).length ≤ l.length := by
  intro l
  induction l with
  | nil => intro _; simp [cutF]
  | cons x r ih =>
    intro h
    have := ih (fun y hy => h y (by simp [hy]))
    have hx := h x (by simp)
    have h1 : opt (x.1, min x.2 t.1) = [] := opt_none (by simp only []; omega)
    have h2 := opt_len (max x.1 t.2, x.2)
    unfold cutF at *
    simp only [List.flatMap_cons, List.length_append, List.length_cons, h1, List.length_nil]
    omega
theorem cut_len1 (t : Sp) (ht : t.1 < t.2) : ∀ (l : List Sp), Pl.Can l → (cutF l t).length ≤ l.length + 1 := by
  intro l
  induction l with
  | nil => intro _; simp [cutF]
  | cons x r ih =>
    intro h
    have h1 := opt_len (x.1, min x.2 t.1)
    have h2 := opt_len (max x.1 t.2, x.2)
    have hap := (List.pairwise_cons.1 h.ap).1
    by_cases hc : t.2 < x.2
    · have := cut_len0 t r (fun y hy => by have := hap y hy; omega)
      unfold cutF at *
      simp only [List.flatMap_cons, List.length_append, List.length_cons]
      omega
    · have h3 : opt (max x.1 t.2, x.2) = [] := opt_none (by simp only []; omega)
      have := ih h.tail
      unfold cutF at *
      simp only [List.flatMap_cons, List.length_append, List.length_cons, h3, List.length_nil]
      omega
/-- what is left of s behind k spans -/
def gapK (hv : List Sp) (s : Sp) (k : Nat) : List Sp := gapsF (hv.take k) s
theorem gapK_succ (hv : List Sp) (s : Sp) (k : Nat) (h : k < hv.length) : gapK hv s (k + 1) = cutF (gapK hv s k) (nth hv k) := by
  unfold gapK gapsF nth
  rw [List.take_succ_eq_append_getElem h, List.foldl_append, List.getD_eq_getElem?_getD, List.getElem?_eq_getElem h]
  rfl
theorem gapK_end (hv : List Sp) (s : Sp) : gapK hv s hv.length = gapsF hv s := by unfold gapK; rw [List.take_length]
theorem gapK_good (hv : List Sp) (s : Sp) (k : Nat) (hh : ∀ x ∈ hv, ok1 x = true) (hs : ok1 s = true) : GoodL (gapK hv s k) := (gapsF_spec (hv.take k) s (fun x hx => hh x (List.mem_of_mem_take hx)) hs).1
theorem gapK_len (hv : List Sp) (s : Sp) (hh : ∀ x ∈ hv, ok1 x = true) (hs : ok1 s = true) : ∀ k, k ≤ hv.length → (gapK hv s k).length ≤ k + 1 := by
  intro k
  induction k with
  | zero => intro _; simp [gapK, gapsF]
  | succ k ih =>
    intro hk
    rw [gapK_succ hv s k (by omega)]
    have h1 := ih (by omega)
    have h2 := cut_len1 (nth hv k) ((ok1_iff _).1 (hh _ (nth_mem (by omega)))).2.1 (gapK hv s k) (gapK_good hv s k hh hs).can
    omega
theorem meetL_ok (l : List Sp) (s : Sp) : ∀ x ∈ meetL l s, ok1 x = true := by
  intro x hx
  unfold meetL meetF at hx
  have : ∀ (m : List Sp), x ∈ m.takeWhile ok1 → ok1 x = true := by
    intro m
    induction m with
    | nil => intro h; simp at h
    | cons a r ih =>
      intro h
      rw [List.takeWhile_cons] at h
      split at h
      · rename_i ha
        rcases List.mem_cons.1 h with rfl | h
        · exact ha
        · exact ih h
      · simp at h
  exact this _ hx
theorem meetL_len (l : List Sp) (s : Sp) : (meetL l s).length ≤ l.length := by
  unfold meetL meetF Has0
  refine Nat.le_trans (List.takeWhile_sublist _).length_le ?_
  rw [List.length_map]
  exact List.length_filter_le _ _
theorem may_zero {l : List Sp} {s : Sp} (h : GoodL l) (hs : ok1 s = true) : mayE l s = 0 := by
  unfold mayE
  rw [if_pos ((gl_iff l).2 h), if_pos hs]
/-- The cut of what may be cut. -/
theorem cutG (l : List Sp) (s : Sp) (hl : GoodL l) (hs : ok1 s = true) (hlen : l.length ≤ 1000000) (A : Option Addr) (c : Nat) (hc : l.length ≤ c) (w : World) (hC : Kd.C k30 w A l.length (m30 l)) :
    Calls Try.prog 11 #[.slice A l.length c, .agg #[.int .i64 s.1, .int .i64 s.2]] w fun e w' => ∃ v, e = .returned (.tuple #[v, .int .i64 0]) ∧ Kd.R k30 30 w' w.heap.size (fun _ => True) v (m30 (cutF l s)) ∧ Bel w w' := by
  have := cutB A c l s hlen hc w hC
  rw [may_zero hl hs] at this
  exact this
set_option maxHeartbeats 8000000 in
set_option maxRecDepth 100000 in
theorem gapsB (A : Option Addr) (c : Nat) (l : List Sp) (s : Sp) (hlen : l.length ≤ 900000) (hc : l.length ≤ c) (w : World) (hC : Kd.C k30 w A l.length (m30 l)) :
    Calls Try.prog 13 #[.slice A l.length c, .agg #[.int .i64 s.1, .int .i64 s.2]] w fun e w' => ∃ v, e = .returned (.tuple #[v, .int .i64 (mayE l s)]) ∧ Kd.R k30 30 w' w.heap.size (fun _ => True) v (m30 (errV (mayE l s) (gapsF (meetL l s) s))) ∧ Bel w w' := by
  have HM := Lib.hid (fun w => meetB12 A c l s (by omega) hc w)
  have hmo := @may_ok l s
  have hok := meetL_ok l s
  have hml := meetL_len l s
  obtain ⟨s0, s1⟩ := s
  have HC := Lib.hid hC
  have KC := Lib.hid cutG
  clear hC
  obtain ⟨E, hE⟩ : ∃ E, E = mayE l (s0, s1) := ⟨_, rfl⟩
  rw [← hE] at HM hmo ⊢
  clear hE
  by_cases h0 : E = 0
  · subst h0
    obtain ⟨hgl, hso⟩ := hmo rfl
    have HM : Hid (∀ w, Kd.C k30 w A l.length (m30 l) → Calls Try.prog 12 #[.slice A l.length c, .agg #[.int .i64 s0, .int .i64 s1]] w fun e w' => ∃ v, e = .returned (.tuple #[v, .int .i64 0]) ∧ Kd.R k30 30 w' w.heap.size (fun _ => True) v (m30 (meetL l (s0, s1))) ∧ Bel w w') := HM
    have HV : Hid (errV 0 (gapsF (meetL l (s0, s1)) (s0, s1)) = gapsF (meetL l (s0, s1)) (s0, s1)) := Lib.hid (by unfold errV; rw [if_pos rfl])
    generalize errV 0 (gapsF (meetL l (s0, s1)) (s0, s1)) = V at *
    generalize meetL l (s0, s1) = m at *
    have HG := Lib.hid (gapK_good m (s0, s1) · hok hso)
    have HL := Lib.hid (gapK_len m (s0, s1) hok hso)
    have HO := Lib.hid hok
    clear hmo hgl hso hok
    go_enter Try.func13, Try.ntmps13
    go_wp2_with fail
    refine calls_gen (fun W => Bel w W ∧ W.heap.size = w.heap.size + 1 ∧ W.heap[w.heap.size]? = some (.cells #[.int .i64 s0, .int .i64 s1] 30 (0, 0))) ⟨Bel.alloc _ _, by simp, heap_alloc_new _ _⟩ ?_
    rintro W0 ⟨hW, hWs, hWb⟩
    refine (HM.out W0 (Kd.C_below HC.out hW)).mono ?_
    rintro e w1 ⟨v, rfl, hr1, hb1⟩
    obtain ⟨Am, cm, rfl, hcm, hCm⟩ := Kd.R_reads hr1
    rw [m30_length] at hcm hCm
    have hs0 := pw_cell_below hb1 (a := ⟨w.heap.size, 0, none⟩) (v := .int .i64 s0) (blk_cell hWb 0)
    have hs1 := pw_cell_below hb1 (a := ⟨w.heap.size, 1, none⟩) (v := .int .i64 s1) (blk_cell hWb 1)
    have HW := Lib.hid hW
    have HWs := Lib.hid hWs
    have HB1 := Lib.hid hb1
    have HC1 := Lib.hid hCm
    have HR0 := Lib.hid (lit30_1 w1 W0.heap.size hb1.size (s0, s1))
    have hsz1 := hb1.size
    clear hW hWs hWb hb1 hr1 hCm
    simp only [m30_length]
    go_wp2_with fail
    refine wp_gen (fun W => Below W0.heap.size W0 W ∧ Below w1.heap.size w1 W ∧ Kd.R k30 30 W W0.heap.size (fun _ => True) (.slice (some ⟨w1.heap.size, 0, none⟩) 1 1) (m30 [(s0, s1)])) ⟨Below.alloc HB1.out hsz1 _, (Below.refl _ _).alloc (Nat.le_refl _) _, HR0.out⟩ ?_
    rintro W1 ⟨hB, hB1, hR⟩
    have HB := Lib.hid hB
    have HBB := Lib.hid hB1
    have HR := Lib.hid hR
    clear hB hB1 hR HR0 hs0 hs1
    go_loopw [8, 24] (fun v8 v24 wr => ∃ (k : Nat), v24 = .int .i64 k ∧ k ≤ m.length ∧ Hid (Below W0.heap.size W0 wr ∧ Below w1.heap.size w1 wr ∧ Kd.R k30 30 wr W0.heap.size (fun _ => True) v8 (m30 (gapK m (s0, s1) k)))) (fun _ v24 _ => m.length - (intOf v24).toNat)
    case atStart => exact ⟨0, rfl, by omega, Lib.hid ⟨HB.out, HBB.out, HR.out⟩⟩
    case round =>
      obtain ⟨wo, rfl⟩ : ∃ wo : World, wo = wr := ⟨_, rfl⟩
      obtain ⟨k, rfl, hk, HI⟩ := hrel
      by_cases hlt : k < m.length
      · obtain ⟨ad, rfl, x0, x1⟩ := at30 (Kd.C_below HC1.out HI.out.2.1) k hlt
        have HK := Lib.hid (gapK_succ m (s0, s1) k hlt)
        have hgk := HL.out k (by omega)
        obtain ⟨Ag, cg, rfl, hcg, hCg⟩ := Kd.R_reads HI.out.2.2
        rw [m30_length] at hcg hCg
        have HCT := Lib.hid (fun w h => KC.out (gapK m (s0, s1) k) (nth m k) (HG.out k) (HO.out _ (nth_mem hlt)) (by omega) Ag cg hcg w h)
        have HCG := Lib.hid hCg
        clear hCg
        rw [m30_length]
        generalize nth m k = t at *
        obtain ⟨t0, t1⟩ := t
        simp only [] at x0 x1 HK HCT
        go_wp2_with fail
        refine (HCT.out _ (Kd.C_below HCG.out (Bel.alloc _ _))).mono ?_
        rintro e w3 ⟨v3, rfl, hr3, hb3⟩
        rw [← HK.out] at hr3
        have hsz := HI.out.1.size
        have hsz2 := HI.out.2.1.size
        have hfin : Hid (Below W0.heap.size W0 w3 ∧ Below w1.heap.size w1 w3 ∧ Kd.R k30 30 w3 W0.heap.size (fun _ => True) v3 (m30 (gapK m (s0, s1) (k + 1)))) := Lib.hid ⟨below_then (HI.out.1.alloc hsz _) (by simp; omega) hb3, below_then (HI.out.2.1.alloc hsz2 _) (by simp; omega) hb3, Kd.R_lower hr3 (by simp; omega)⟩
        clear hr3 hb3 x0 x1 HCT
        go_wp2_with fail
        exact ⟨⟨k + 1, by congr 1, by omega, hfin⟩, by simp [intOf]; omega⟩
      · have hkl : k = m.length := by omega
        have hfin : Hid (Kd.R k30 30 wo W0.heap.size (fun _ => True) u8 (m30 V) ∧ Below W0.heap.size W0 wo) := Lib.hid ⟨by
          rw [HV.out, ← gapK_end, ← hkl]
          exact HI.out.2.2, HI.out.1⟩
        clear hkl
        go_wp2_with fail
        exact bodyPost_ret (v := .tuple #[u8, .int .i64 0]) (by simp [results, Try.results13, go_sem]) rfl ⟨u8, rfl, Kd.R_lower hfin.out.1 (by rw [HWs.out]; omega), HW.out.trans hfin.out.2⟩
  · have HV : Hid (errV E (gapsF (meetL l (s0, s1)) (s0, s1)) = []) := Lib.hid (by unfold errV; rw [if_neg h0])
    have hE0 : (E != 0) = true := by simpa using h0
    generalize errV E (gapsF (meetL l (s0, s1)) (s0, s1)) = V at *
    generalize errV E (meetL l (s0, s1)) = M at *
    simp only [] at HM ⊢
    clear h0 hmo hok hml
    go_enter Try.func13, Try.ntmps13
    go_wp2_with fail
    refine (HM.out _ (Kd.C_below HC.out (Bel.alloc _ _))).mono ?_
    rintro e w1 ⟨v, rfl, hr1, hb1⟩
    clear hr1
    go_wp2_with fail
    exact bodyPost_ret (v := .tuple #[.slice none 0 0, .int .i64 E]) (by simp [results, Try.results13, go_sem]) rfl ⟨_, rfl, by rw [HV.out]; exact Kd.R_nil _ _ _ _ _, (Bel.alloc _ _).trans hb1⟩
end Go.Proofs.Ytjgekbakommkmaa
