/- Spans: the walk of Has. -/
import Derived.Test.YtjgekbakommkmaaOrder
set_option linter.unusedVariables false
set_option linter.unusedSimpArgs false
namespace Go.Proofs.Ytjgekbakommkmaa
open Go.RowKit Go.Proofs.YtjgekbakommkmaaW.PrintWords Go.Proofs.YtjgekbakommkmaaW.PrintMore
open PSpansChange Pl
theorem hasP_iff {l : List Sp} {v : Int} {i : Nat} (hg : GoodL l) (h : FindAt (m30 l) v i) : (i < l.length ∧ (nth l i).1 ≤ v) ↔ hasB l v = true := by
  obtain ⟨h1, h2, h3⟩ := h
  rw [hasB_iff]
  have up := fun (a b : Nat) (hab : a < b) (hb : b < l.length) => List.pairwise_iff_getElem.1 hg.ap a b (by omega) hb hab
  constructor
  · rintro ⟨h4, h5⟩
    have h6 := h3 i (Nat.le_refl _) (by rw [m30_length]; exact h4)
    rw [rd30 _ _ (by omega)] at h6
    exact ⟨_, nth_mem h4, h5, by simpa using h6⟩
  · rintro ⟨t, ht, h4, h5⟩
    obtain ⟨j, hj, rfl⟩ := List.getElem_of_mem ht
    have ej : l[j] = nth l j := by unfold nth; rw [List.getD_eq_getElem?_getD, List.getElem?_eq_getElem hj]; rfl
    have hij : i ≤ j := by
      by_cases h6 : i ≤ j
      · exact h6
      · have := h2 j (by omega)
        rw [rd30 _ _ (by omega)] at this
        simp only [Int.toNat_natCast] at this
        rw [ej] at h5
        omega
    refine ⟨by omega, ?_⟩
    by_cases h6 : i = j
    · subst h6; rw [ej] at h4; exact h4
    · have h7 := up i j (by omega) hj
      have ei : l[i]'(by omega) = nth l i := by unfold nth; rw [List.getD_eq_getElem?_getD, List.getElem?_eq_getElem (show i < l.length by omega)]; rfl
      have h8 := ((ok1_iff _).1 (hg.ok _ (nth_mem (l := l) (i := i) (by omega)))).2.1
      rw [ei] at h7
      omega
theorem hasB_out {l : List Sp} (hg : GoodL l) {v : Int} (h : v < 0 ∨ 1099511627776 ≤ v) : hasB l v = false := by
  rw [has_dec]
  rintro ⟨t, ht, h1, h2⟩
  have := (ok1_iff t).1 (hg.ok t ht)
  omega
set_option maxHeartbeats 8000000 in
set_option maxRecDepth 100000 in
theorem phasB (A : Option Addr) (c : Nat) (l : List Sp) (v : Int) (hlen : l.length ≤ 1000000) (hc : l.length ≤ c) (w : World) (hC : Kd.C k30 w A l.length (m30 l)) :
    Calls Try.prog 19 #[.slice A l.length c, .int .i64 v] w fun e w' => e = .returned (.bool (gl l && hasB l v)) ∧ Bel w w' := by
  have KG := Lib.hid (fun w h => lgoodB A c l hlen hc w h)
  have HC := Lib.hid hC
  clear hC
  cases hg : gl l
  · rw [hg] at KG
    simp only [Bool.false_and]
    go_enter Try.func19, Try.ntmps19
    go_wp2_with fail
    refine (KG.out _ HC.out).mono ?_
    rintro e w1 ⟨rfl, hb1⟩
    go_wp2_with fail
    go_ret
    exact ⟨rfl, hb1⟩
  · have hgl := (gl_iff l).1 hg
    rw [hg] at KG
    simp only [Bool.true_and]
    by_cases h0 : v < 0
    · rw [hasB_out hgl (.inl h0)]
      have hd : decide (v < 0) = true := by simpa using h0
      go_enter Try.func19, Try.ntmps19
      go_wp2_with fail
      refine (KG.out _ HC.out).mono ?_
      rintro e w1 ⟨rfl, hb1⟩
      go_wp2_with fail
      go_ret
      exact ⟨rfl, hb1⟩
    · have hd : decide (v < 0) = false := by simpa using h0
      by_cases h1 : 1099511627776 ≤ v
      · rw [hasB_out hgl (.inr h1)]
        have hd1 : decide (1099511627776 ≤ v) = true := by simpa using h1
        have hd2 : decide (v ≥ 1099511627776) = true := by simpa using h1
        go_enter Try.func19, Try.ntmps19
        go_wp2_with fail
        refine (KG.out _ HC.out).mono ?_
        rintro e w1 ⟨rfl, hb1⟩
        go_wp2_with fail
        go_ret
        exact ⟨rfl, hb1⟩
      · have hd1 : decide (1099511627776 ≤ v) = false := by simpa using h1
        have hd2 : decide (v ≥ 1099511627776) = false := by simpa using h1
        have KF := Lib.hid (fun w h => findB A c (m30 l) v (by omega) (by omega) (rise_of hgl) (by rw [m30_length]; exact hlen) w h)
        have KH := Lib.hid (fun i h => hasP_iff (v := v) (i := i) hgl h)
        have hfl : ∀ i, FindAt (m30 l) v i → i ≤ l.length := fun i h => by have := h.1; rwa [m30_length] at this
        simp only [m30_length] at KF
        clear hgl hg
        generalize hasB l v = r at *
        go_enter Try.func19, Try.ntmps19
        go_wp2_with fail
        refine (KG.out _ HC.out).mono ?_
        rintro e w1 ⟨rfl, hb1⟩
        have HB1 := Lib.hid hb1
        clear hb1
        go_wp2_with fail
        refine (KF.out _ (Kd.C_below HC.out HB1.out)).mono ?_
        rintro e w2 ⟨i, rfl, hfi, hb2⟩
        have hk := KH.out i hfi
        have hil := hfl i hfi
        have HB2 := Lib.hid (HB1.out.trans hb2)
        clear hfi hb2 HB1 hfl KH
        by_cases hlt : i < l.length
        · obtain ⟨ad, rfl, y0, y1⟩ := at30 (Kd.C_below HC.out HB2.out) i hlt
          have hlt' : decide ((i : Int) < (l.length : Int)) = true := by simp; omega
          have hr : r = decide ((nth l i).1 ≤ v) := by
            cases hd : decide ((nth l i).1 ≤ v)
            · cases hr : r
              · rfl
              · have := (hk.2 hr).2; simp at hd; omega
            · exact (hk.1 ⟨hlt, by simpa using hd⟩)
          generalize (nth l i).1 = t0 at *
          generalize (nth l i).2 = t1 at *
          clear hk
          subst hr
          go_wp2_with fail
          go_ret
          exact ⟨rfl, HB2.out⟩
        · have hlt' : decide ((i : Int) < (l.length : Int)) = false := by simp; omega
          have hr : r = false := by
            cases hr : r
            · rfl
            · exact absurd (hk.2 hr).1 hlt
          clear hk
          subst hr
          go_wp2_with fail
          go_ret
          exact ⟨rfl, HB2.out⟩
end Go.Proofs.Ytjgekbakommkmaa
