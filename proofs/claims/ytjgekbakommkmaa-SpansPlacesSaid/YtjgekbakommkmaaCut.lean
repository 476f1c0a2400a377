/- Spans: the walks of Cut and Meet. -/
import Derived.Test.YtjgekbakommkmaaBase
import Derived.Deep.QuietTactic
import Derived.BigQuiet
set_option linter.unusedVariables false
set_option linter.unusedSimpArgs false
namespace Go.Proofs.Ytjgekbakommkmaa
open Go.RowKit Go.Proofs.YtjgekbakommkmaaW.PrintWords Go.Proofs.YtjgekbakommkmaaW.PrintMore
open PSpansChange Pl
theorem ix60 (a b c d : Int) (w : World) : (Instr.index 60 (.agg #[.int .i64 a, .int .i64 b, .int .i64 c, .int .i64 d]) (.int .i64 0)).run Try.prog w = .ok (.agg #[.int .i64 a, .int .i64 b]) w := by kernel_rfl
theorem ix61 (a b c d : Int) (w : World) : (Instr.index 60 (.agg #[.int .i64 a, .int .i64 b, .int .i64 c, .int .i64 d]) (.int .i64 1)).run Try.prog w = .ok (.agg #[.int .i64 c, .int .i64 d]) w := by kernel_rfl
theorem may_ok {l : List Sp} {s : Sp} (h : mayE l s = 0) : GoodL l ∧ ok1 s = true := by
  unfold mayE at h
  by_cases h1 : gl l = true
  · rw [if_pos h1] at h
    by_cases h2 : ok1 s = true
    · exact ⟨(gl_iff l).1 h1, h2⟩
    · rw [if_neg h2] at h; cases h
  · rw [if_neg h1] at h; cases h
theorem cut_len (l : List Sp) (s : Sp) : (cutF l s).length ≤ 2 * l.length := by
  unfold cutF
  induction l with
  | nil => simp
  | cons t r ih =>
    have h1 : ∀ x : Sp, (opt x).length ≤ 1 := fun x => by unfold opt; split <;> simp
    have := h1 (t.1, min t.2 s.1)
    have := h1 (max t.1 s.2, t.2)
    simp only [List.flatMap_cons, List.length_append, List.length_cons]
    omega
/-- what has been told after k spans and j pieces -/
def cutK (l : List Sp) (s : Sp) (k : Nat) : List Sp := cutF (l.take k) s
theorem cutK_succ (l : List Sp) (s : Sp) (k : Nat) (h : k < l.length) : cutK l s (k + 1) = cutK l s k ++ opt ((nth l k).1, min (nth l k).2 s.1) ++ opt (max (nth l k).1 s.2, (nth l k).2) := by
  unfold cutK cutF nth
  rw [List.take_succ_eq_append_getElem h, List.flatMap_append, List.getD_eq_getElem?_getD, List.getElem?_eq_getElem h]
  simp [List.append_assoc]
def part (l : List Sp) (s : Sp) (k : Nat) (t0 t1 : Int) (j : Nat) : List Sp := cutK l s k ++ (if 0 < j then opt (t0, min t1 s.1) else []) ++ (if 1 < j then opt (max t0 s.2, t1) else [])
theorem part_zero (l : List Sp) (s : Sp) (k : Nat) (t0 t1 : Int) : part l s k t0 t1 0 = cutK l s k := by simp [part]
theorem part_one (l : List Sp) (s : Sp) (k : Nat) (t0 t1 : Int) : part l s k t0 t1 (0 + 1) = part l s k t0 t1 0 ++ opt (t0, min t1 s.1) := by simp [part]
theorem part_two (l : List Sp) (s : Sp) (k : Nat) (t0 t1 : Int) : part l s k t0 t1 (1 + 1) = part l s k t0 t1 1 ++ opt (max t0 s.2, t1) := by simp [part]
theorem part_all (l : List Sp) (s : Sp) (k : Nat) (t0 t1 : Int) : part l s k t0 t1 2 = cutK l s k ++ opt (t0, min t1 s.1) ++ opt (max t0 s.2, t1) := by simp [part]
theorem part_len (l : List Sp) (s : Sp) (k : Nat) (t0 t1 : Int) (j : Nat) : (part l s k t0 t1 j).length ≤ 2 * l.length + 2 := by
  have h1 : ∀ x : Sp, (opt x).length ≤ 1 := fun x => by unfold opt; split <;> simp
  have h2 := cut_len (l.take k) s
  have h3 := h1 (t0, min t1 s.1)
  have h4 := h1 (max t0 s.2, t1)
  have h5 : (l.take k).length ≤ l.length := by simp; omega
  unfold part cutK
  simp only [List.length_append]
  have h6 : (if 0 < j then opt (t0, min t1 s.1) else []).length ≤ 1 := by split <;> simp [h3]
  have h7 : (if 1 < j then opt (max t0 s.2, t1) else []).length ≤ 1 := by split <;> simp [h4]
  omega
/-- The rest of an error: what is told where the list or the span may not be. -/
def errV (E : Int) (l : List Sp) : List Sp := if E = 0 then l else []
set_option maxHeartbeats 8000000 in
set_option maxRecDepth 100000 in
theorem cutB (A : Option Addr) (c : Nat) (l : List Sp) (s : Sp) (hlen : l.length ≤ 1000000) (hc : l.length ≤ c) (w : World) (hC : Kd.C k30 w A l.length (m30 l)) :
    Calls Try.prog 11 #[.slice A l.length c, .agg #[.int .i64 s.1, .int .i64 s.2]] w fun e w' => ∃ v, e = .returned (.tuple #[v, .int .i64 (mayE l s)]) ∧ Kd.R k30 30 w' w.heap.size (fun _ => True) v (m30 (errV (mayE l s) (cutF l s))) ∧ Bel w w' := by
  obtain ⟨s0, s1⟩ := s
  have HM := Lib.hid (fun wx h => mayB A c l (s0, s1) hlen hc wx h)
  have HC := Lib.hid hC
  have KG := Lib.hid sgoodB
  clear hC
  obtain ⟨E, hE⟩ : ∃ E, E = mayE l (s0, s1) := ⟨_, rfl⟩
  rw [← hE] at HM ⊢
  have HE := Lib.hid hE
  clear hE
  by_cases h0 : E = 0
  · have HV : Hid (errV E (cutF l (s0, s1)) = cutK l (s0, s1) l.length) := Lib.hid (by unfold errV cutK; rw [if_pos h0, List.take_length])
    subst h0
    generalize errV 0 (cutF l (s0, s1)) = V at *
    simp only [] at HM ⊢
    go_enter Try.func11, Try.ntmps11
    go_wp2_with fail
    refine calls_gen (fun W => Bel w W ∧ W.heap.size = w.heap.size + 1 ∧ W.heap[w.heap.size]? = some (.cells #[.int .i64 s0, .int .i64 s1] 30 (0, 0))) ⟨Bel.alloc _ _, by simp, heap_alloc_new _ _⟩ ?_
    rintro W0 ⟨hW, hWs, hWb⟩
    refine (HM.out W0 (Kd.C_below HC.out hW)).mono ?_
    rintro e w1 ⟨rfl, hb1⟩
    have HW := Lib.hid hW
    have HWs := Lib.hid hWs
    have HWb := Lib.hid hWb
    clear hW hWs hWb
    go_wp2_with fail
    go_loopw [7, 20] (fun v7 v20 wr => ∃ (k : Nat), v20 = .int .i64 k ∧ k ≤ l.length ∧ Hid (Below W0.heap.size W0 wr ∧ Kd.R k30 30 wr W0.heap.size (fun _ => True) v7 (m30 (cutK l (s0, s1) k)))) (fun _ v20 _ => l.length - (intOf v20).toNat)
    case atStart => exact ⟨0, rfl, by omega, Lib.hid ⟨hb1, Kd.R_nil _ _ _ _ _⟩⟩
    case round =>
      obtain ⟨wo, rfl⟩ : ∃ wo : World, wo = wr := ⟨_, rfl⟩
      obtain ⟨k, rfl, hk, HI⟩ := hrel
      clear hb1
      by_cases hlt : k < l.length
      · obtain ⟨ad, rfl, x0, x1⟩ := at30 (Kd.C_below HC.out (HW.out.trans HI.out.1)) k hlt
        have hs := fun o => blk_cell ((Below.heap_alloc wo o _ (by have := HI.out.1.size; have := HWs.out; omega)).trans ((HI.out.1.block _ (by have := HWs.out; omega)).trans HWb.out))
        have hs0 := fun o => hs o 0
        have hs1 := fun o => hs o 1
        have HK := Lib.hid (cutK_succ l (s0, s1) k hlt)
        generalize nth l k = t at *
        obtain ⟨t0, t1⟩ := t
        simp only [] at x0 x1 HK
        have i0 := ix60 t0 (min t1 s0) (max t0 s1) t1
        have i1 := ix61 t0 (min t1 s0) (max t0 s1) t1
        clear hs
        go_wp2_with fail
        clear x0 x1 hs0 hs1
        go_loopw [7, 41] (fun v7 v41 wr => ∃ (j : Nat), v41 = .int .i64 j ∧ j ≤ 2 ∧ Hid (Below W0.heap.size W0 wr ∧ Kd.R k30 30 wr W0.heap.size (fun _ => True) v7 (m30 (part l (s0, s1) k t0 t1 j)))) (fun _ v41 _ => 2 - (intOf v41).toNat)
        case atStart => exact ⟨0, rfl, by omega, Lib.hid ⟨HI.out.1.alloc HI.out.1.size _, by rw [part_zero]; exact Kd.R_alloc HI.out.2 _⟩⟩
        case round =>
          obtain ⟨wj, rfl⟩ : ∃ wj : World, wj = wr := ⟨_, rfl⟩
          obtain ⟨j, rfl, hj, HJ⟩ := hrel
          clear HI
          by_cases hlt2 : j < 2
          · have hsz := HJ.out.1.size
            have hpl := part_len l (s0, s1) k t0 t1 j
            have key : ∃ p : Sp, (∀ w, (Instr.index 60 (.agg #[.int .i64 t0, .int .i64 (min t1 s0), .int .i64 (max t0 s1), .int .i64 t1]) (.int .i64 (j : Int))).run Try.prog w = .ok (.agg #[.int .i64 p.1, .int .i64 p.2]) w) ∧ part l (s0, s1) k t0 t1 (j + 1) = part l (s0, s1) k t0 t1 j ++ opt p := by
              rcases (by omega : j = 0 ∨ j = 1) with rfl | rfl
              · exact ⟨(t0, min t1 s0), i0, part_one l (s0, s1) k t0 t1⟩
              · exact ⟨(max t0 s1, t1), i1, part_two l (s0, s1) k t0 t1⟩
            obtain ⟨p, hx, hpart⟩ := key
            have HP := Lib.hid hpart
            have HG := Lib.hid (KG.out p)
            clear i0 i1 hpart
            obtain ⟨p0, p1⟩ := p
            cases hp : ok1 (p0, p1)
            · rw [hp] at HG
              have HN : Hid (part l (s0, s1) k t0 t1 (j + 1) = part l (s0, s1) k t0 t1 j) := Lib.hid (by rw [HP.out]; unfold opt; rw [hp]; simp)
              clear hp HP
              go_wp2_with fail
              refine (HG.out _).mono ?_
              rintro e w5 ⟨rfl, hb5⟩
              have hfin : Hid (Below W0.heap.size W0 w5 ∧ Kd.R k30 30 w5 W0.heap.size (fun _ => True) u7 (m30 (part l (s0, s1) k t0 t1 (j + 1)))) := Lib.hid ⟨below_then (HJ.out.1.alloc HJ.out.1.size _) (by simp; omega) hb5, by
                have h1 := Kd.R_below (Kd.R_alloc HJ.out.2 _) hb5
                rw [HN.out]
                exact h1⟩
              clear HG hb5 hx
              go_wp2_with fail
              exact ⟨⟨j + 1, by congr 1, by omega, hfin⟩, by simp [intOf]; omega⟩
            · rw [hp] at HG
              have HN : Hid (part l (s0, s1) k t0 t1 (j + 1) = part l (s0, s1) k t0 t1 j ++ [(p0, p1)]) := Lib.hid (by rw [HP.out]; unfold opt; rw [hp]; simp)
              clear hp HP
              go_wp2_with fail
              refine (HG.out _).mono ?_
              rintro e w5 ⟨rfl, hb5⟩
              have HR5 : Hid (Kd.R k30 30 w5 W0.heap.size (fun _ => True) u7 (m30 (part l (s0, s1) k t0 t1 j))) := Lib.hid (Kd.R_below (Kd.R_alloc HJ.out.2 _) hb5)
              have HB5 : Hid (Below W0.heap.size W0 w5) := Lib.hid (below_then (HJ.out.1.alloc HJ.out.1.size _) (by simp; omega) hb5)
              have d0 := pw_cell_below hb5 (a := ⟨wj.heap.size, 0, none⟩) (v := .int .i64 p0) (by simp [go_sem])
              have d1 := pw_cell_below hb5 (a := ⟨wj.heap.size, 1, none⟩) (v := .int .i64 p1) (by simp [go_sem])
              clear HG hb5 hx
              go_wp2_with (at_builtin; refine app30 (w0 := W0) W0.heap.size rfl _ _ rfl u7 (part l (s0, s1) k t0 t1 j) (p0, p1) rfl rfl ?aO ?aB ?aS ?aL ?_; (case aO => exact HR5.out); (case aB => exact HB5.out); (case aS => exact HB5.out.size); (case aL => omega); intro v1 w6 ho hb hg; rw [← HN.out] at ho; have HO := Lib.hid ho; have HB := Lib.hid hb; clear ho hb hg)
              exact ⟨⟨j + 1, by congr 1, by omega, Lib.hid ⟨HB.out, HO.out⟩⟩, by simp [intOf]; omega⟩
          · have hj2 : j = 2 := by omega
            have hfin : Hid (Below W0.heap.size W0 wj ∧ Kd.R k30 30 wj W0.heap.size (fun _ => True) u7 (m30 (cutK l (s0, s1) (k + 1)))) := Lib.hid ⟨HJ.out.1, by
              have h1 := HJ.out.2
              rw [hj2, part_all l (s0, s1) k t0 t1, ← HK.out] at h1
              exact h1⟩
            clear hj2
            go_wp2_with fail
            exact ⟨⟨k + 1, by congr 1, by omega, hfin⟩, by simp [intOf]; omega⟩
      · have hkl : k = l.length := by omega
        have hfin : Hid (Kd.R k30 30 wo W0.heap.size (fun _ => True) u7 (m30 V) ∧ Below W0.heap.size W0 wo) := Lib.hid ⟨by
          rw [HV.out, ← hkl]
          exact HI.out.2, HI.out.1⟩
        clear hkl
        go_wp2_with fail
        exact bodyPost_ret (v := .tuple #[u7, .int .i64 0]) (by simp [results, Try.results11, go_sem]) rfl ⟨u7, rfl, Kd.R_lower hfin.out.1 (by rw [HWs.out]; omega), HW.out.trans hfin.out.2⟩
  · have HV : Hid (errV E (cutF l (s0, s1)) = []) := Lib.hid (by unfold errV; rw [if_neg h0])
    have hE0 : (E != 0) = true := by simpa using h0
    generalize errV E (cutF l (s0, s1)) = V at *
    simp only [] at HM ⊢
    clear h0
    go_enter Try.func11, Try.ntmps11
    go_wp2_with fail
    refine (HM.out _ (Kd.C_below HC.out (Bel.alloc _ _))).mono ?_
    rintro e w1 ⟨rfl, hb1⟩
    go_wp2_with fail
    exact bodyPost_ret (v := .tuple #[.slice none 0 0, .int .i64 E]) (by simp [results, Try.results11, go_sem]) rfl ⟨_, rfl, by rw [HV.out]; exact Kd.R_nil _ _ _ _ _, (Bel.alloc _ _).trans hb1⟩
end Go.Proofs.Ytjgekbakommkmaa
