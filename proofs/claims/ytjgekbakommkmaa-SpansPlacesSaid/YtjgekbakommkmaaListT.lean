/- Spans: the walk of lists, whole. -/
import Derived.Test.YtjgekbakommkmaaLists
set_option linter.unusedVariables false
set_option linter.unusedSimpArgs false
namespace Go.Proofs.Ytjgekbakommkmaa
open Go.RowKit Go.Proofs.YtjgekbakommkmaaW.PrintWords Go.Proofs.YtjgekbakommkmaaW.PrintMore
open PSpansChange Pl
theorem heap2 (wo : World) (o o' : Obj) : ((wo.alloc o).alloc o').heap[wo.heap.size + 1]? = some o' := by
  have h := heap_alloc_new (wo.alloc o) o'
  rwa [show (wo.alloc o).heap.size = wo.heap.size + 1 by simp] at h
set_option maxHeartbeats 2000000 in
set_option maxRecDepth 100000 in
theorem listsT (A : Option Addr) (c : Nat) (l : List Sp) (hc : l.length ≤ c) (w : World) (hC : Kd.C k30 w A l.length (m30 l)) :
    Calls Try.prog 9 #[.slice A l.length c, .bool true] w fun e w' => ∃ v v', e = .returned (.tuple #[v, v']) ∧ Kd.R k30 30 w' w.heap.size (fun _ => True) v (m30 (listF (l.take 40) true)) ∧ Kd.R k31 31 w' w.heap.size (fun _ => True) v' (m31 (listF (l.take 40) true)) ∧ Bel w w' := by
  have hsl := sl22 A c l.length hc
  have HC0 : Hid (Kd.C k30 w A (l.take 40).length (m30 (l.take 40))) := Lib.hid (by
    have h := Kd.C_take (m := min 40 l.length) (show Kd.C k30 w A (m30 l).length (m30 l) by rw [m30_length]; exact hC) (by rw [m30_length]; omega)
    have e : (m30 l).take (min 40 l.length) = m30 (l.take 40) := by
      unfold m30
      rw [List.map_take, List.take_eq_take_iff]
      simp
    rw [e, m30_length] at h
    exact h)
  have hq : (l.take 40).length = min 40 l.length := by simp
  generalize l.take 40 = q at *
  rw [← hq] at hsl
  have hq40 : q.length ≤ 40 := by omega
  have HT := Lib.hid (fun k h => listF_step q k h true)
  have HE : Hid (listF (q.take q.length) true = listF q true) := Lib.hid (by rw [List.take_length])
  have H0 : Hid (m31 (listF (q.take 0) true) = []) := Lib.hid (by simp [listF, m31])
  have HG := Lib.hid (fun k => listF_good (q.take k))
  have HL := Lib.hid (fun k => Nat.le_trans (listF_len (q.take k) true) (by simp; omega : (q.take k).length ≤ q.length))
  have hbl := listF_len q true
  clear hC hq
  generalize listF q true = b at *
  go_enter Try.func9, Try.ntmps9
  go_wp2_with fail
  go_loopw [6, 19] (fun v6 v19 wr => ∃ (k : Nat), v19 = .int .i64 k ∧ k ≤ q.length ∧ Hid (Bel w wr ∧ Kd.R k31 31 wr w.heap.size (fun _ => True) v6 (m31 (listF (q.take k) true)))) (fun _ v19 _ => q.length - (intOf v19).toNat)
  case atStart => exact ⟨0, rfl, by omega, Lib.hid ⟨Bel.refl _, by rw [H0.out]; exact Kd.R_nil _ _ _ _ _⟩⟩
  case round =>
    obtain ⟨wo, rfl⟩ : ∃ wo : World, wo = wr := ⟨_, rfl⟩
    obtain ⟨k, rfl, hk, HI⟩ := hrel
    by_cases hlt : k < q.length
    · obtain ⟨ad, rfl, x0, x1⟩ := at30 (Kd.C_below HC0.out HI.out.1) k hlt
      have HK : Hid (listF (q.take (k + 1)) true = putF (listF (q.take k) true) (nth q k)) := Lib.hid ((HT.out k hlt).trans (by simp))
      have hll := HL.out k
      have hgd := HG.out k
      generalize listF (q.take k) true = bk at *
      obtain ⟨Ab, cb, rfl, hcb, hCb⟩ := cells31 HI.out.2
      generalize nth q k = t at *
      obtain ⟨t0, t1⟩ := t
      simp only [] at x0 x1 HK
      have HCb := Lib.hid hCb
      have HR := Lib.hid (fun o o' => Kd.R_alloc (Kd.R_alloc HI.out.2 o) o')
      have HB := Lib.hid (fun o o' => ((show Below _ w wo from HI.out.1).alloc HI.out.1.size o).alloc (show w.heap.size ≤ (wo.alloc o).heap.size by simp; have := HI.out.1.size; omega) o')
      have HW := Lib.hid (fun o o' => (show Bel wo ((wo.alloc o).alloc o') from (Bel.alloc wo o).trans (Bel.alloc _ o')))
      have K1 := Lib.hid (fun w => oneB (t0, t1) w)
      clear hCb
      go_wp2_with fail
      refine calls_gen (fun W => Below w.heap.size w W ∧ Bel wo W ∧ Kd.R k31 31 W w.heap.size (fun _ => True) (.slice Ab bk.length cb) (m31 bk) ∧ W.heap[wo.heap.size + 1]? = some (.cells #[.int .i64 t0, .int .i64 t1] 31 (0, 0))) ⟨HB.out _ _, HW.out _ _, HR.out _ _, heap2 _ _ _⟩ ?_
      rintro W1 ⟨hB1, hW1, hR1, hbx⟩
      refine (K1.out W1).mono ?_
      rintro e w2 ⟨rfl, hb2⟩
      have c0 := pw_cell_below hb2 (a := ⟨wo.heap.size + 1, 0, none⟩) (v := .int .i64 t0) (blk_cell hbx 0)
      have c1 := pw_cell_below hb2 (a := ⟨wo.heap.size + 1, 1, none⟩) (v := .int .i64 t1) (blk_cell hbx 1)
      have HB2 := Lib.hid (below_then hB1 hB1.size hb2)
      have HR2 := Lib.hid (Kd.R_below hR1 hb2)
      have HC2 := Lib.hid (Kd.C_below (Kd.C_below HCb.out hW1) hb2)
      clear hB1 hW1 hR1 hbx hb2 HB HR HW HI HCb x0 x1
      cases hok : ok1 (t0, t1)
      · have HN : Hid (listF (q.take (k + 1)) true = bk) := Lib.hid (by rw [HK.out]; unfold putF; rw [hok]; simp)
        clear HK
        go_wp2_with fail
        exact ⟨⟨k + 1, by congr 1, by omega, Lib.hid ⟨HB2.out, by rw [HN.out]; exact HR2.out⟩⟩, by simp [intOf]; omega⟩
      · have HN : Hid (listF (q.take (k + 1)) true = addF bk (t0, t1)) := Lib.hid (by rw [HK.out]; unfold putF; rw [hok]; simp)
        have hev := change_ev hgd hok (by omega) 0
        have HBo : Hid (∀ w, Kd.C k31 w Ab bk.length (m31 bk) → ∀ A', Kd.C k31 w A' 1 (m31 [(t0, t1)]) → Calls Try.prog 27 #[.slice Ab bk.length cb, .slice A' 1 1, .int .i64 0] w fun e w' => ∃ v, e = .returned v ∧ Kd.R k31 31 w' w.heap.size (fun _ => True) v (m31 (addF bk (t0, t1))) ∧ Bel w w') :=
          Lib.hid (fun w h A' h' => bothB Ab cb bk A' 1 [(t0, t1)] (addF bk (t0, t1)) 0 hcb (by simp) w h h' hev)
        clear HK hev
        go_wp2_with fail
        refine (HBo.out _ (Kd.C_below HC2.out (Bel.alloc _ _)) _ (lit31_1 w2 (t0, t1))).mono ?_
        rintro e w3 ⟨v3, rfl, hr3, hb3⟩
        have hsz := HB2.out.size
        have hfin : Hid (Bel w w3 ∧ Kd.R k31 31 w3 w.heap.size (fun _ => True) v3 (m31 (listF (q.take (k + 1)) true))) := Lib.hid ⟨below_then (HB2.out.alloc hsz _) (by simp; omega) hb3, by rw [HN.out]; exact Kd.R_lower hr3 (by simp; omega)⟩
        clear hr3 hb3 HBo HB2 HR2 HC2 c0 c1
        go_wp2_with fail
        exact ⟨⟨k + 1, by congr 1, by omega, hfin⟩, by simp [intOf]; omega⟩
    · have hkl : k = q.length := by omega
      subst hkl
      have hR : Kd.R k31 31 wo w.heap.size (fun _ => True) u6 (m31 b) := by rw [← HE.out]; exact HI.out.2
      have HB := Lib.hid HI.out.1
      clear HI HT HE H0 HL
      obtain ⟨A', c', rfl, hc', hC'⟩ := cells31 hR
      have HR := Lib.hid hR
      have HC' := Lib.hid hC'
      have HT2 := Lib.hid (fun k h => take_succ b k h)
      have HE2 : Hid (b.take b.length = b) := Lib.hid List.take_length
      have hbs : Hid (w.heap.size ≤ wo.heap.size) := Lib.hid HB.out.size
      clear hR hC'
      go_wp2_with fail
      go_loopw [10, 39] (fun v10 v39 wr => ∃ (k : Nat), v39 = .int .i64 k ∧ k ≤ b.length ∧ Hid (Bel wo wr ∧ Kd.R k30 30 wr wo.heap.size (fun _ => True) v10 (m30 (b.take k)))) (fun _ v39 _ => b.length - (intOf v39).toNat)
      case atStart => exact ⟨0, rfl, by omega, Lib.hid ⟨Bel.refl _, by rw [List.take_zero]; exact Kd.R_nil _ _ _ _ _⟩⟩
      case round =>
        obtain ⟨wp, rfl⟩ : ∃ wp : World, wp = wr := ⟨_, rfl⟩
        obtain ⟨k, rfl, hk, HI⟩ := hrel
        by_cases hlt2 : k < b.length
        · obtain ⟨ad, rfl, x0, x1⟩ := at31 (Kd.C_below HC'.out HI.out.1) k hlt2
          have HK := Lib.hid (HT2.out k hlt2)
          have hll : (b.take k).length ≤ 40 := by simp; omega
          generalize nth b k = t at *
          obtain ⟨t0, t1⟩ := t
          simp only [] at x0 x1 HK
          have HR2 := Lib.hid (fun o => Kd.R_alloc HI.out.2 o)
          have HB2 := Lib.hid (fun o => (show Below _ wo wp from HI.out.1).alloc HI.out.1.size o)
          go_wp2_with (at_builtin; refine app30n (w0 := wo) wo.heap.size rfl _ _ rfl u10 (b.take k) (t0, t1) rfl rfl (by simp) ?aO ?aB ?aS ?aL ?_; (case aO => exact HR2.out _); (case aB => exact HB2.out _); (case aS => exact (HB2.out _).size); (case aL => omega); intro v1 w6 ho hb hg; rw [← HK.out] at ho; have HO := Lib.hid ho; have HB3 := Lib.hid hb; clear ho hb hg)
          exact ⟨⟨k + 1, by congr 1, by omega, Lib.hid ⟨HB3.out, HO.out⟩⟩, by simp [intOf]; omega⟩
        · have hkl : k = b.length := by omega
          subst hkl
          have hR1 : Kd.R k30 30 wp w.heap.size (fun _ => True) u10 (m30 b) := Kd.R_lower (by have := HI.out.2; rwa [HE2.out] at this) hbs.out
          have hR2 := Kd.R_below HR.out HI.out.1
          have hB4 := HB.out.trans HI.out.1
          have HF := Lib.hid (And.intro hR1 (And.intro hR2 hB4))
          clear HI hR1 hR2 hB4 HC' HT2
          go_wp2_with fail
          exact bodyPost_ret (v := .tuple #[u10, .slice A' b.length c']) (by simp [results, Try.results9, go_sem]) rfl ⟨_, _, rfl, HF.out.1, HF.out.2.1, HF.out.2.2⟩
end Go.Proofs.Ytjgekbakommkmaa
