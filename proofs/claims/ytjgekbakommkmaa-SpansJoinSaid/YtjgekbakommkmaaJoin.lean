/- Spans: the walks of Clone and Join. -/
import Derived.Test.YtjgekbakommkmaaOrder
import Derived.Lib.SliceRun
set_option linter.unusedVariables false
set_option linter.unusedSimpArgs false
namespace Go.Proofs.Ytjgekbakommkmaa
open Go.RowKit Go.Proofs.YtjgekbakommkmaaW.PrintWords Go.Proofs.YtjgekbakommkmaaW.PrintMore
open PSpansChange Pl
set_option maxHeartbeats 8000000 in
set_option maxRecDepth 100000 in
theorem cloneB (A : Option Addr) (c : Nat) (l : List Sp) (hlen : l.length ≤ 1000000) (hc : l.length ≤ c) (w : World) (hC : Kd.C k30 w A l.length (m30 l)) :
    Calls Try.prog 34 #[.slice A l.length c] w fun e w' => ∃ v, e = .returned v ∧ Kd.R k30 30 w' w.heap.size (fun _ => True) v (m30 l) ∧ Bel w w' := by
  cases A with
  | none =>
    have hl : l = [] := by
      cases l with
      | nil => rfl
      | cons a l => obtain ⟨ad, h, _⟩ := hC.2.2 (by simp); simp at h
    subst hl
    clear hC
    have hnil := fun w => Lib.run_eql_slice_nil (P := Try.prog) w 26 30 none 0 c 0 0 Try.underlying26
    go_enter Try.func34, Try.ntmps34
    go_wp2_with fail
    go_ret
    exact ⟨_, rfl, Kd.R_nil _ _ _ _ _, Bel.refl _⟩
  | some ad =>
    have HC := Lib.hid hC
    have HR := Lib.hid (lit30 w w.heap.size (Nat.le_refl _) [] [] (by simp) (Reps.none _ _))
    clear hC
    go_enter Try.func34, Try.ntmps34
    have hnil' : ∀ w, (binOp .eql 26 (.slice (some ad) l.length c) (.slice none 0 0)).run Try.prog w = .ok (.bool false) w := fun w => Lib.run_eql_slice_nil (P := Try.prog) w 26 30 (some ad) l.length c 0 0 Try.underlying26
    go_wp2_with (at_builtin; refine app30s (w0 := w) w.heap.size rfl _ _ rfl (.slice (some ⟨w.heap.size, 0, none⟩) 0 0) [] l (some ad) l.length c rfl rfl rfl ?aO ?aC ?aB ?aS ?aL ?_; (case aO => exact HR.out); (case aC => exact Kd.C_below HC.out (Bel.alloc _ _)); (case aB => exact Bel.alloc _ _); (case aS => exact (Bel.alloc w _).size); (case aL => simp; omega); intro v1 w6 ho hb; have HO := Lib.hid ho; have HB := Lib.hid hb; clear ho hb)
    go_ret
    exact ⟨_, rfl, by simpa using HO.out, HB.out⟩
theorem addR (l : List Sp) (s : Sp) (hl : GoodL l) (hs : ok1 s = true) (hlen : l.length ≤ 1000000) (A : Option Addr) (c : Nat) (hc : l.length ≤ c) (w : World) (hC : Kd.C k30 w A l.length (m30 l)) :
    Calls Try.prog 10 #[.slice A l.length c, .agg #[.int .i64 s.1, .int .i64 s.2]] w fun e w' => ∃ v, e = .returned (.tuple #[v, .int .i64 0]) ∧ Kd.R k30 30 w' w.heap.size (fun _ => True) v (m30 (addF l s)) ∧ Bel w w' := by
  have := addB A c l s hlen hc w hC
  rw [may_zero hl hs] at this
  exact this
noncomputable def joinE (l m : List Sp) : Int := if gl l = true then (if gl m = true then 0 else 4) else 4
theorem join_step (l m : List Sp) (k : Nat) (h : k < m.length) : joinF l (m.take (k + 1)) = addF (joinF l (m.take k)) (nth m k) := by
  unfold joinF; rw [take_succ m k h, List.foldl_append]; rfl
set_option maxHeartbeats 8000000 in
set_option maxRecDepth 100000 in
theorem joinB (A : Option Addr) (c : Nat) (l : List Sp) (A' : Option Addr) (c' : Nat) (m : List Sp) (hlen : l.length ≤ 900) (hlen' : m.length ≤ 900) (hc : l.length ≤ c) (hc' : m.length ≤ c') (w : World) (hC : Kd.C k30 w A l.length (m30 l)) (hC' : Kd.C k30 w A' m.length (m30 m)) :
    Calls Try.prog 26 #[.slice A l.length c, .slice A' m.length c'] w fun e w' => ∃ v, e = .returned (.tuple #[v, .int .i64 (joinE l m)]) ∧ Kd.R k30 30 w' w.heap.size (fun _ => True) v (m30 (errV (joinE l m) (joinF l m))) ∧ Bel w w' := by
  have KG := Lib.hid (fun w h => lgoodB A c l (by omega) hc w h)
  have KM := Lib.hid (fun w h => lgoodB A' c' m (by omega) hc' w h)
  have HC := Lib.hid hC
  have HC' := Lib.hid hC'
  clear hC hC'
  unfold joinE errV
  cases hg : gl l
  · rw [hg] at KG
    clear KM
    simp only [Bool.false_eq_true, if_false]
    go_enter Try.func26, Try.ntmps26
    go_wp2_with fail
    refine (KG.out _ HC.out).mono ?_
    rintro e w1 ⟨rfl, hb1⟩
    go_wp2_with fail
    exact bodyPost_ret (v := .tuple #[.slice none 0 0, .int .i64 4]) (by simp [results, Try.results26, go_sem]) rfl ⟨_, rfl, Kd.R_nil _ _ _ _ _, hb1⟩
  · rw [hg] at KG
    cases hm : gl m
    · rw [hm] at KM
      simp only [Bool.false_eq_true, if_false, if_true]
      go_enter Try.func26, Try.ntmps26
      go_wp2_with fail
      refine (KG.out _ HC.out).mono ?_
      rintro e w1 ⟨rfl, hb1⟩
      go_wp2_with fail
      refine (KM.out _ (Kd.C_below HC'.out hb1)).mono ?_
      rintro e w2 ⟨rfl, hb2⟩
      go_wp2_with fail
      exact bodyPost_ret (v := .tuple #[.slice none 0 0, .int .i64 4]) (by simp [results, Try.results26, go_sem]) rfl ⟨_, rfl, Kd.R_nil _ _ _ _ _, hb1.trans hb2⟩
    · rw [hm] at KM
      simp only [if_true]
      have hgl := (gl_iff l).1 hg
      have hgm := (gl_iff m).1 hm
      have HS := Lib.hid (fun k => joinF_spec (m.take k) l hgl (fun s hs => hgm.ok s (List.mem_of_mem_take hs)))
      have HT := Lib.hid (fun k h => join_step l m k h)
      have HE : Hid (joinF l (m.take m.length) = joinF l m) := Lib.hid (by rw [List.take_length])
      have HO := Lib.hid hgm.ok
      have KN := Lib.hid (fun w h => cloneB A c l (by omega) hc w h)
      have KA := Lib.hid addR
      clear hgl hgm hg hm
      generalize joinF l m = J at *
      go_enter Try.func26, Try.ntmps26
      go_wp2_with fail
      refine (KG.out _ HC.out).mono ?_
      rintro e w1 ⟨rfl, hb1⟩
      have HB1 := Lib.hid hb1
      clear hb1
      go_wp2_with fail
      refine (KM.out _ (Kd.C_below HC'.out HB1.out)).mono ?_
      rintro e w2 ⟨rfl, hb2⟩
      have HB2 := Lib.hid (HB1.out.trans hb2)
      clear hb2 HB1
      go_wp2_with fail
      refine (KN.out _ (Kd.C_below HC.out HB2.out)).mono ?_
      rintro e w3 ⟨v3, rfl, hr3, hb3⟩
      have HB3 := Lib.hid (HB2.out.trans hb3)
      have HR3 := Lib.hid (Kd.R_lower hr3 HB2.out.size)
      clear hr3 hb3 HB2
      go_wp2_with fail
      go_loopw [6, 21] (fun v6 v21 wr => ∃ (k : Nat), v21 = .int .i64 k ∧ k ≤ m.length ∧ Hid (Bel w wr ∧ Kd.R k30 30 wr w.heap.size (fun _ => True) v6 (m30 (joinF l (m.take k))))) (fun _ v21 _ => m.length - (intOf v21).toNat)
      case atStart => exact ⟨0, rfl, by omega, Lib.hid ⟨HB3.out, HR3.out⟩⟩
      case round =>
        obtain ⟨wo, rfl⟩ : ∃ wo : World, wo = wr := ⟨_, rfl⟩
        obtain ⟨k, rfl, hk, HI⟩ := hrel
        by_cases hlt : k < m.length
        · obtain ⟨ad, rfl, x0, x1⟩ := at30 (Kd.C_below HC'.out HI.out.1) k hlt
          have HK := Lib.hid (HT.out k hlt)
          obtain ⟨hs1, _, hs3⟩ := HS.out k
          have hto := HO.out _ (nth_mem hlt)
          have hl9 : (joinF l (m.take k)).length ≤ 1800 := by have : (m.take k).length ≤ m.length := by simp; omega
                                                              omega
          generalize joinF l (m.take k) = Jk at *
          obtain ⟨Aj, cj, rfl, hcj, hCj⟩ := cells30 HI.out.2
          have KA2 := Lib.hid (fun w h => KA.out Jk (nth m k) hs1 hto (by omega) Aj cj hcj w h)
          generalize nth m k = t at *
          obtain ⟨t0, t1⟩ := t
          simp only [] at x0 x1 HK KA2
          have HCj := Lib.hid hCj
          have HBo := Lib.hid HI.out.1
          clear hCj hs1 hs3 hto HI
          go_wp2_with fail
          refine (KA2.out _ (Kd.C_below HCj.out (Bel.alloc _ _))).mono ?_
          rintro e w5 ⟨v5, rfl, hr5, hb5⟩
          have hsz := HBo.out.size
          have hfin : Hid (Bel w w5 ∧ Kd.R k30 30 w5 w.heap.size (fun _ => True) v5 (m30 (joinF l (m.take (k + 1))))) := Lib.hid ⟨below_then ((show Below _ w wo from HBo.out).alloc hsz _) (by simp; omega) hb5, by rw [HK.out]; exact Kd.R_lower hr5 (by simp; omega)⟩
          clear hr5 hb5 HBo HCj KA2 x0 x1
          go_wp2_with fail
          exact ⟨⟨k + 1, by congr 1, by omega, hfin⟩, by simp [intOf]; omega⟩
        · have hkl : k = m.length := by omega
          subst hkl
          have hR := HI.out.2
          rw [HE.out] at hR
          have HF := Lib.hid (And.intro hR HI.out.1)
          clear HI hR HS HT HE
          go_wp2_with fail
          exact bodyPost_ret (v := .tuple #[u6, .int .i64 0]) (by simp [results, Try.results26, go_sem]) rfl ⟨u6, rfl, HF.out.1, HF.out.2⟩
end Go.Proofs.Ytjgekbakommkmaa
