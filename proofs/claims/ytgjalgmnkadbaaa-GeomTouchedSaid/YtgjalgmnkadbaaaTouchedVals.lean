/- Geometry: the stripes that blocks touch: the program's and the reference's have the same values. -/
import Derived.Test.YtgjalgmnkadbaaaCols
import Derived.Test.YtgjalgmnkadbaaaTouchedB
set_option linter.unusedVariables false
set_option linter.unusedSimpArgs false
namespace Go.Proofs.Ytgjalgmnkadbaaa
open Go.RowKit Go.Proofs.YtgjalgmnkadbaaaW.PrintWords Go.Proofs.YtgjalgmnkadbaaaW.PrintMore
open PGeomTouched
theorem gd_f3 (m s : Int) : PGeomTouched.geom_Geometry_Good.f m s = some (gd m s) := gd_f m s
theorem gd_f4 (m s : Int) : PGeomTouched.trunnionref09_Good.f m s = some (gd m s) := gd_f m s
theorem dat_f3 (m s : Int) (hg : gd m s = true) : PGeomTouched.geom_Geometry_Data.f m s = some (m - 2) := by
  have hgi := (gd_iff m s).1 hg
  simp only [PGeomTouched.geom_Geometry_Data.f]
  rw [gd_f3, Option.bind_some, if_pos hg, w64 (by omega) (by omega)]
theorem mul_bd (m s : Int) (h : 4 ≤ m ∧ m ≤ 32 ∧ 1 ≤ s ∧ s ≤ 64) : 0 ≤ (m - 2) * s ∧ (m - 2) * s ≤ 1920 := by
  refine ⟨Int.mul_nonneg (by omega) (by omega), ?_⟩
  exact Int.le_trans (Int.mul_le_mul (show m - 2 ≤ 30 by omega) (show s ≤ 64 by omega) (by omega) (by omega)) (by omega)
theorem blk_f3 (m s : Int) (hg : gd m s = true) : PGeomTouched.geom_Geometry_Blocks.f m s = some (blk m s) := by
  have hgi := (gd_iff m s).1 hg
  have hb := mul_bd m s hgi
  simp only [PGeomTouched.geom_Geometry_Blocks.f]
  rw [dat_f3 m s hg, Option.bind_some]
  have : mx 0 (mn s 64) = s := by unfold mx mn; split <;> split <;> omega
  rw [this, w64 (by omega) (by omega)]
  unfold blk
  rw [if_pos hg]
theorem blk_f4 (m s : Int) (hg : gd m s = true) : PGeomTouched.trunnionref09_Blocks.f m s = some (blk m s) := by
  have hgi := (gd_iff m s).1 hg
  have hb := mul_bd m s hgi
  simp only [PGeomTouched.trunnionref09_Blocks.f]
  rw [gd_f4, Option.bind_some, if_pos hg, w64 (x := m - 2) (by omega) (by omega), w64 (by omega) (by omega)]
  unfold blk
  rw [if_pos hg]
def tchL (a n : Nat) : List Int := (List.range n).map fun (i : Nat) => ((a + i : Nat) : Int)
def cntT (F b d : Nat) : Nat := if b = F then 0 else (b - 1) / d + 1 - F / d
theorem tchL_len (a n : Nat) : (tchL a n).length = n := by simp [tchL]
theorem tchL_succ (a n : Nat) : tchL a n ++ [((a + n : Nat) : Int)] = tchL a (n + 1) := by simp [tchL, List.range_succ]
theorem rd_tchL (a n : Nat) (i : Nat) (h : i < n) : rd (tchL a n) (i : Int) = ((a + i : Nat) : Int) := by
  unfold rd tchL
  rw [List.getD_eq_getElem?_getD, List.getElem?_map, Int.toNat_natCast, List.getElem?_range h]
  rfl
theorem div_step (b d : Nat) (hd : 0 < d) (hb : 0 < b) : (b - 1) / d ≤ b / d ∧ b / d ≤ (b - 1) / d + 1 := by
  refine ⟨Nat.div_le_div_right (by omega), ?_⟩
  rw [← Nat.add_div_right _ hd]
  exact Nat.div_le_div_right (by omega)
theorem t_l0 (m s : Int) (F C d : Nat) (hd : (d : Int) = m - 2) (hg : gd m s = true) (hFC : F + C ≤ 2000) : ∀ (r k b : Nat), F ≤ b → b + r = F + C → r < k →
    geom_Geometry_Touched.l0 k F C (tchL (F / d) (cntT F b d)) b m s = some (tchL (F / d) (cntT F (F + C) d), 0) := by
  have hgi := (gd_iff m s).1 hg
  have hd0 : 0 < d := by omega
  intro r
  induction r with
  | zero =>
    intro k b h0 h1 hk
    obtain ⟨k, rfl⟩ : ∃ q, k = q + 1 := ⟨k - 1, by omega⟩
    simp only [geom_Geometry_Touched.l0]
    rw [w64 (x := (F : Int) + C) (by omega) (by omega), if_neg (by omega), show b = F + C by omega]
  | succ r ih =>
    intro k b h0 h1 hk
    obtain ⟨k, rfl⟩ : ∃ q, k = q + 1 := ⟨k - 1, by omega⟩
    have ih' := ih k (b + 1) (by omega) (by omega) (by omega)
    have hq : b / d ≤ b := Nat.div_le_self _ _
    have hF : F / d ≤ b / d := Nat.div_le_div_right h0
    have htd : Int.tdiv (b : Int) (m - 2) = ((b / d : Nat) : Int) := by rw [← hd]; exact (Int.ofNat_tdiv b d).symm
    have hc1 : cntT F (b + 1) d = b / d + 1 - F / d := by unfold cntT; rw [if_neg (by omega)]; rfl
    have hs : 0 < b → (b - 1) / d ≤ b / d ∧ b / d ≤ (b - 1) / d + 1 := div_step b d hd0
    have hF2 : F < b → F / d ≤ (b - 1) / d := fun h => Nat.div_le_div_right (by omega)
    have hl : (b - 1) / d ≤ b - 1 := Nat.div_le_self _ _
    have hc2 : b ≠ F → cntT F b d = (b - 1) / d + 1 - F / d := fun h => if_neg h
    have hbF' : b = F → b / d = F / d := fun h => by rw [h]
    generalize b / d = Q at *
    generalize F / d = A at *
    generalize (b - 1) / d = P at *
    simp only [geom_Geometry_Touched.l0]
    rw [w64 (x := (F : Int) + C) (by omega) (by omega), if_pos (by omega), dat_f3 m s hg, Option.bind_some, if_neg (by omega), tchL_len, htd, w64 (x := (Q : Int)) (by omega) (by omega), w64 (x := (b : Int) + 1) (by omega) (by omega)]
    by_cases hbF : b = F
    · have hc : cntT F b d = 0 := by unfold cntT; rw [if_pos hbF]
      rw [hc, if_pos (by omega), if_pos (by omega)]
      have hQ := hbF' hbF
      have e : tchL A 0 ++ [(Q : Int)] = tchL A (cntT F (b + 1) d) := by
        rw [hc1, hQ, show A + 1 - A = 0 + 1 by omega, ← tchL_succ]
        rfl
      rw [e]
      exact ih'
    · have hc := hc2 hbF
      have hs := hs (by omega)
      have hF2 := hF2 (by omega)
      generalize hn : cntT F b d = n at *
      rw [if_neg (by omega), w64 (x := (n : Int) - 1) (by omega) (by omega), if_pos (by omega), if_pos (by omega), show (n : Int) - 1 = ((n - 1 : Nat) : Int) by omega, rd_tchL _ _ _ (by omega)]
      by_cases he : P = Q
      · rw [if_pos (by omega), show n = cntT F (b + 1) d by omega]
        exact ih'
      · rw [if_neg (by omega), if_pos (by omega)]
        have e : tchL A n ++ [(Q : Int)] = tchL A (cntT F (b + 1) d) := by
          rw [hc1, show Q + 1 - A = n + 1 by omega, ← tchL_succ, show A + n = Q by omega]
        rw [e]
        exact ih'
def cR (F C d t : Nat) : Nat := if C = 0 then 0 else min t ((F + C - 1) / d + 1) - F / d
theorem rt_l0 (m s : Int) (F C d S : Nat) (hd : (d : Int) = m - 2) (hS : (S : Int) = s) (hg : gd m s = true) (hFC : F + C ≤ d * S) : ∀ (r k t : Nat), t + r = S → r < k →
    trunnionref09_Touched.l0 k F C (tchL (F / d) (cR F C d t)) t m s = some (tchL (F / d) (cntT F (F + C) d), 0) := by
  have hgi := (gd_iff m s).1 hg
  have hd0 : 0 < d := by omega
  have hdS : d * S ≤ 30 * 64 := Nat.mul_le_mul (by omega) (by omega)
  intro r
  induction r with
  | zero =>
    intro k t h1 hk
    obtain ⟨k, rfl⟩ : ∃ q, k = q + 1 := ⟨k - 1, by omega⟩
    simp only [trunnionref09_Touched.l0]
    rw [if_neg (by omega)]
    have : cR F C d t = cntT F (F + C) d := by
      unfold cR cntT
      by_cases hC : C = 0
      · rw [if_pos hC, if_pos (by omega)]
      · rw [if_neg hC, if_neg (by omega)]
        have : (F + C - 1) / d < S := Nat.div_lt_of_lt_mul (by omega)
        omega
    rw [this]
  | succ r ih =>
    intro k t h1 hk
    obtain ⟨k, rfl⟩ : ∃ q, k = q + 1 := ⟨k - 1, by omega⟩
    have ih' := ih k (t + 1) (by omega) (by omega)
    have htd : t * d ≤ 64 * 30 := Nat.mul_le_mul (by omega) (by omega)
    have hm1 : (t : Int) * (m - 2) = ((t * d : Nat) : Int) := by rw [← hd]; simp
    have i1 : t ≤ (F + C - 1) / d ↔ t * d ≤ F + C - 1 := Nat.le_div_iff_mul_le hd0
    have i2 : F / d < t + 1 ↔ F < (t + 1) * d := Nat.div_lt_iff_lt_mul hd0
    have hs1 : (t + 1) * d = t * d + d := Nat.succ_mul _ _
    rw [hs1] at i2
    have hq : (F + C - 1) / d ≤ F + C - 1 := Nat.div_le_self _ _
    have hF2 : F / d ≤ (F + C - 1) / d ∨ C = 0 := by
      by_cases hC : C = 0
      · exact .inr hC
      · exact .inl (Nat.div_le_div_right (by omega))
    simp only [trunnionref09_Touched.l0]
    rw [w64 (x := (F : Int) + C) (by omega) (by omega), w64 (x := m - 2) (by omega) (by omega), hm1, w64 (x := ((t * d : Nat) : Int)) (by omega) (by omega), w64 (x := ((t * d : Nat) : Int) + m) (by omega) (by omega), w64 (x := ((t * d : Nat) : Int) + m - 2) (by omega) (by omega), w64 (x := (t : Int) + 1) (by omega) (by omega), tchL_len, if_pos (by omega)]
    by_cases hC : C = 0
    · have e0 : cR F C d t = cR F C d (t + 1) := by unfold cR; rw [if_pos hC, if_pos hC]
      rw [if_neg (by omega), e0]
      exact ih'
    · have u0 : cR F C d t = min t ((F + C - 1) / d + 1) - F / d := if_neg hC
      have u1 : cR F C d (t + 1) = min (t + 1) ((F + C - 1) / d + 1) - F / d := if_neg hC
      generalize F / d = A at *
      generalize (F + C - 1) / d = B at *
      rw [if_pos (by omega)]
      by_cases h2 : t * d < F + C
      · rw [if_pos (by omega)]
        by_cases h3 : F < t * d + d
        · rw [if_pos (by omega), if_pos (by omega)]
          have e : tchL A (cR F C d t) ++ [(t : Int)] = tchL A (cR F C d (t + 1)) := by
            rw [show cR F C d (t + 1) = cR F C d t + 1 by omega, ← tchL_succ, show A + cR F C d t = t by omega]
          rw [e]
          exact ih'
        · rw [if_neg (by omega), show cR F C d t = cR F C d (t + 1) by omega]
          exact ih'
      · rw [if_neg (by omega), show cR F C d t = cR F C d (t + 1) by omega]
        exact ih'
def tE (m s a c : Int) : Int := if gd m s = true then (if c < 0 ∨ a < 0 ∨ a > blk m s ∨ c > blk m s - a then 3 else 0) else 4
def tV (m s a c : Int) : List Int := if tE m s a c = 0 then tchL (a.toNat / (m - 2).toNat) (cntT a.toNat (a.toNat + c.toNat) (m - 2).toNat) else []
theorem tE_good {m s : Int} (a c : Int) (hg : gd m s = true) : tE m s a c = if c < 0 ∨ a < 0 ∨ a > blk m s ∨ c > blk m s - a then 3 else 0 := if_pos hg
theorem tV_bad {m s a c : Int} (h : tE m s a c ≠ 0) : tV m s a c = [] := if_neg h
theorem touched_f (m s a c : Int) : geom_Geometry_Touched.f 3000 m s a c = some (tV m s a c, tE m s a c) := by
  simp only [geom_Geometry_Touched.f]
  rw [gd_f3, Option.bind_some]
  by_cases hg : gd m s = true
  · have hgi := (gd_iff m s).1 hg
    have hb := mul_bd m s hgi
    have hB : blk m s = (m - 2) * s := by unfold blk; rw [if_pos hg]
    have hE := tE_good a c hg
    rw [if_pos hg]
    by_cases h1 : c < 0
    · rw [if_pos (by omega)] at hE
      rw [if_pos h1, hE, tV_bad (by omega)]
    · rw [if_neg h1]
      by_cases h2 : a < 0
      · rw [if_pos (by omega)] at hE
        rw [if_pos h2, hE, tV_bad (by omega)]
      · rw [if_neg h2, blk_f3 m s hg, Option.bind_some]
        by_cases h3 : a > blk m s
        · rw [if_pos (by omega)] at hE
          rw [if_pos h3, hE, tV_bad (by omega)]
        · rw [if_neg h3, Option.bind_some, w64 (by omega) (by omega)]
          by_cases h4 : c > blk m s - a
          · rw [if_pos (by omega)] at hE
            rw [if_pos h4, hE, tV_bad (by omega)]
          · rw [if_neg (by omega)] at hE
            rw [if_neg h4, hE]
            unfold tV
            rw [if_pos hE]
            have := t_l0 m s a.toNat c.toNat (m - 2).toNat (by omega) hg (by omega) c.toNat 3000 a.toNat (by omega) (by omega) (by omega)
            rw [show cntT a.toNat a.toNat (m - 2).toNat = 0 from if_pos rfl, show ((a.toNat : Nat) : Int) = a by omega, show ((c.toNat : Nat) : Int) = c by omega] at this
            exact this
  · have hE : tE m s a c = 4 := if_neg hg
    rw [if_neg hg, hE, tV_bad (by omega)]
theorem rtouched_f (m s a c : Int) : trunnionref09_Touched.f 3000 m s a c = some (tV m s a c, tE m s a c) := by
  simp only [trunnionref09_Touched.f]
  rw [gd_f4, Option.bind_some]
  by_cases hg : gd m s = true
  · have hgi := (gd_iff m s).1 hg
    have hb := mul_bd m s hgi
    have hB : blk m s = (m - 2) * s := by unfold blk; rw [if_pos hg]
    have hE := tE_good a c hg
    rw [if_pos hg, blk_f4 m s hg, Option.bind_some]
    by_cases h2 : a < 0
    · rw [if_pos (by omega)] at hE
      rw [if_pos h2, hE, tV_bad (by omega)]
      simp only [trunnionref09_Touched.j0, if_true]
    · rw [if_neg h2]
      by_cases h3 : a > blk m s
      · rw [if_pos (by omega)] at hE
        rw [if_pos h3, hE, tV_bad (by omega)]
        simp only [trunnionref09_Touched.j0, if_true]
      · rw [if_neg h3]
        by_cases h1 : c < 0
        · rw [if_pos (by omega)] at hE
          rw [if_pos h1, hE, tV_bad (by omega)]
          simp only [trunnionref09_Touched.j0, if_true]
        · rw [if_neg h1, w64 (x := blk m s - a) (by omega) (by omega)]
          simp only [trunnionref09_Touched.j0]
          by_cases h4 : c > blk m s - a
          · rw [if_pos (by omega)] at hE
            rw [if_pos (by simpa using h4), hE, tV_bad (by omega)]
          · rw [if_neg (by omega)] at hE
            rw [if_neg (by simpa using h4), hE]
            unfold tV
            rw [if_pos hE]
            have hmul : (((m - 2).toNat * s.toNat : Nat) : Int) = (m - 2) * s := by
              rw [Int.natCast_mul, Int.toNat_of_nonneg (by omega), Int.toNat_of_nonneg (by omega)]
            have := rt_l0 m s a.toNat c.toNat (m - 2).toNat s.toNat (by omega) (by omega) hg (by omega) s.toNat 2999 0 (by omega) (by omega)
            rw [show cR a.toNat c.toNat (m - 2).toNat 0 = 0 by unfold cR; rw [Nat.zero_min, Nat.zero_sub]; split <;> rfl, show ((a.toNat : Nat) : Int) = a by omega, show ((c.toNat : Nat) : Int) = c by omega] at this
            exact this
  · have hE : tE m s a c = 4 := if_neg hg
    rw [if_neg hg, hE, tV_bad (by omega)]
theorem tV_len (m s a c : Int) : (tV m s a c).length ≤ 9000 := by
  unfold tV
  split
  · rename_i h
    unfold tE at h
    by_cases hg : gd m s = true
    · have hgi := (gd_iff m s).1 hg
      have hb := mul_bd m s hgi
      have hB : blk m s = (m - 2) * s := by unfold blk; rw [if_pos hg]
      rw [if_pos hg] at h
      have hn : ¬ (c < 0 ∨ a < 0 ∨ a > blk m s ∨ c > blk m s - a) := by
        intro hh
        rw [if_pos hh] at h
        omega
      rw [tchL_len]
      unfold cntT
      have hd : (a.toNat + c.toNat - 1) / (m - 2).toNat ≤ a.toNat + c.toNat - 1 := Nat.div_le_self _ _
      generalize (a.toNat + c.toNat - 1) / (m - 2).toNat = X at *
      generalize a.toNat / (m - 2).toNat = Y at *
      split <;> omega
    · rw [if_neg hg] at h
      omega
  · simp
theorem touchedB (m s a c : Int) (w : World) : Calls Try.prog 29 #[.agg #[.int .i64 m, .int .i64 s], .int .i64 a, .int .i64 c] w fun e w' => ∃ A k, e = .returned (.tuple #[.slice A (tV m s a c).length k, .int .i64 (tE m s a c)]) ∧ (tV m s a c).length ≤ k ∧ Kd.C (Kd.int .i64) w' A (tV m s a c).length (tV m s a c) ∧ Bel w w' := by
  refine (geom_Geometry_Touched.calls 3000 m s a c _ _ w (touched_f m s a c)).mono ?_
  rintro e w' ⟨v, rfl, hR, hb⟩
  obtain ⟨A, c, rfl, hl, hC⟩ := Kd.R_reads hR
  exact ⟨A, c, rfl, hl, hC, hb⟩
theorem rtouchedB (m s a c : Int) (w : World) : Calls Try.prog 30 #[.agg #[.int .i64 m, .int .i64 s], .int .i64 a, .int .i64 c] w fun e w' => ∃ A k, e = .returned (.tuple #[.slice A (tV m s a c).length k, .int .i64 (tE m s a c)]) ∧ (tV m s a c).length ≤ k ∧ Kd.C (Kd.int .i64) w' A (tV m s a c).length (tV m s a c) ∧ Bel w w' := by
  refine (trunnionref09_Touched.calls 3000 m s a c _ _ w (rtouched_f m s a c)).mono ?_
  rintro e w' ⟨v, rfl, hR, hb⟩
  obtain ⟨A, c, rfl, hl, hC⟩ := Kd.R_reads hR
  exact ⟨A, c, rfl, hl, hC, hb⟩
end Go.Proofs.Ytgjalgmnkadbaaa
