/- Geometry: the program's and the reference's functions have the same values: contracts for every input. -/
import Derived.Test.YtgjalgmnkadbaaaRow
set_option linter.unusedVariables false
set_option linter.unusedSimpArgs false
namespace Go.Proofs.Ytgjalgmnkadbaaa
open Go.RowKit Go.Proofs.YtgjalgmnkadbaaaW.PrintWords Go.Proofs.YtgjalgmnkadbaaaW.PrintMore
theorem w64 {x : Int} (h0 : -9223372036854775808 ≤ x) (h1 : x < 9223372036854775808) : wrap64 x = x := by unfold wrap64; omega
def fE (m s b : Int) : Int := wit1 m s b (blk m s)
def fT (m s b : Int) : Int := if fE m s b = 0 then b / dat m s else 0
def fC (m s b : Int) : Int := if fE m s b = 0 then b % dat m s else 0
theorem wit1_zero {m s a b : Int} (h : wit1 m s a b = 0) : gd m s = true ∧ 0 ≤ a ∧ a < b := by
  unfold wit1 at h
  by_cases hg : gd m s = true
  · rw [if_pos hg] at h
    by_cases hc : 0 ≤ a ∧ a < b
    · exact ⟨hg, hc⟩
    · rw [if_neg hc] at h; omega
  · rw [if_neg hg] at h; omega
theorem wit2_zero {m s a b c d : Int} (h : wit2 m s a b c d = 0) : gd m s = true ∧ 0 ≤ a ∧ a < b ∧ 0 ≤ c ∧ c < d := by
  unfold wit2 at h
  by_cases hg : gd m s = true
  · rw [if_pos hg] at h
    by_cases hc : 0 ≤ a ∧ a < b ∧ 0 ≤ c ∧ c < d
    · exact ⟨hg, hc⟩
    · rw [if_neg hc] at h; omega
  · rw [if_neg hg] at h; omega
theorem findB (m s b : Int) (w : World) : Calls Try.prog 25 #[.agg #[.int .i64 m, .int .i64 s], .int .i64 b] w fun e w' => e = .returned (.tuple #[.int .i64 (fT m s b), .int .i64 (fC m s b), .int .i64 (fE m s b)]) ∧ Bel w w' := by
  by_cases h : fE m s b = 0
  · have hz := wit1_zero h
    unfold fT fC
    rw [if_pos h, if_pos h, h]
    exact find_ok m s b w hz.1 hz.2.1 hz.2.2
  · unfold fT fC
    rw [if_neg h, if_neg h]
    exact find_err m s b w _ rfl h
theorem rfind_l0 (m s b : Int) (hg : gd m s = true) (h0 : 0 ≤ b) (h1 : b < (m - 2) * s) : ∀ (d k : Nat) (t c : Int), 0 ≤ t → t < s → 0 ≤ c → c ≤ m - 2 → (b - (t * (m - 2) + c)) * 2 + (s - t) * 2 = d → t * (m - 2) + c ≤ b → d < k →
    PGeomFinds.trunnionref09_Find.l1 k b (t * (m - 2) + c) t c m s = some (b / (m - 2), b % (m - 2), 0) := by
  have hgi := (gd_iff m s).1 hg
  intro d
  induction d using Nat.strongRecOn with
  | _ d ih =>
    intro k t c ht0 ht1 hc0 hc1 hd hle hk
    obtain ⟨k, rfl⟩ : ∃ j, k = j + 1 := ⟨k - 1, by omega⟩
    have hb2 : (m - 2) * s ≤ 30 * 64 := Int.mul_le_mul (by omega) (by omega) (by omega) (by omega)
    have e1 : wrap64 (m - 2) = m - 2 := w64 (by omega) (by omega)
    have hn0 : 0 ≤ t * (m - 2) := Int.mul_nonneg ht0 (by omega)
    have hx : (t + 1) * (m - 2) = t * (m - 2) + (m - 2) := by rw [Int.add_mul]; omega
    simp only [PGeomFinds.trunnionref09_Find.l1]
    rw [e1]
    by_cases hlt : c < m - 2
    · rw [if_pos hlt]
      by_cases heq : t * (m - 2) + c = b
      · rw [if_pos heq]
        have hq : b / (m - 2) = t := by
          rw [← heq, Int.add_comm, Int.add_mul_ediv_right _ _ (by omega), Int.ediv_eq_zero_of_lt hc0 hlt]
          omega
        have hr : b % (m - 2) = c := by
          rw [← heq, Int.add_comm, Int.add_mul_emod_self_right, Int.emod_eq_of_lt hc0 hlt]
        rw [hq, hr]
      · rw [if_neg heq]
        have e2 : wrap64 (t * (m - 2) + c + 1) = t * (m - 2) + (c + 1) := by rw [w64 (by omega) (by omega)]; omega
        have e3 : wrap64 (c + 1) = c + 1 := w64 (by omega) (by omega)
        rw [e2, e3]
        exact ih (d - 2) (by omega) k t (c + 1) ht0 ht1 (by omega) (by omega) (by omega) (by omega) (by omega)
    · rw [if_neg hlt]
      have hcm : c = m - 2 := by omega
      rw [hcm] at hd hle ⊢
      have hlt2 : t + 1 < s := by
        have h4 : (t + 1) * (m - 2) < s * (m - 2) := by rw [hx, Int.mul_comm s]; omega
        exact Int.lt_of_mul_lt_mul_right h4 (by omega)
      have e4 : wrap64 (t + 1) = t + 1 := w64 (by omega) (by omega)
      obtain ⟨k, rfl⟩ : ∃ j, k = j + 1 := ⟨k - 1, by omega⟩
      rw [e4]
      simp only [PGeomFinds.trunnionref09_Find.l0]
      rw [if_pos hlt2, show t * (m - 2) + (m - 2) = (t + 1) * (m - 2) + 0 by omega]
      have hd1 : (b - ((t + 1) * (m - 2) + 0)) * 2 + (s - (t + 1)) * 2 = ((d - 2 : Nat) : Int) := by
        rw [hx]; omega
      exact ih (d - 2) (by omega) k (t + 1) 0 (by omega) hlt2 (by omega) (by omega) hd1 (by rw [hx]; omega) (by omega)
theorem rfind_out (m s b : Int) (hg : gd m s = true) (hb : b < 0 ∨ (m - 2) * s ≤ b) : ∀ (d k : Nat) (t c : Int), 0 ≤ t → t < s → 0 ≤ c → c ≤ m - 2 → ((m - 2) * s - (t * (m - 2) + c)) * 2 + (s - t) * 2 = d → d + 2 < k →
    PGeomFinds.trunnionref09_Find.l1 k b (t * (m - 2) + c) t c m s = some (0, 0, 3) := by
  have hgi := (gd_iff m s).1 hg
  intro d
  induction d using Nat.strongRecOn with
  | _ d ih =>
    intro k t c ht0 ht1 hc0 hc1 hd hk
    obtain ⟨k, rfl⟩ : ∃ j, k = j + 1 := ⟨k - 1, by omega⟩
    have hb2 : (m - 2) * s ≤ 30 * 64 := Int.mul_le_mul (by omega) (by omega) (by omega) (by omega)
    have e1 : wrap64 (m - 2) = m - 2 := w64 (by omega) (by omega)
    have hn0 : 0 ≤ t * (m - 2) := Int.mul_nonneg ht0 (by omega)
    have hx : (t + 1) * (m - 2) = t * (m - 2) + (m - 2) := by rw [Int.add_mul]; omega
    have hle : (t + 1) * (m - 2) ≤ (m - 2) * s := by rw [Int.mul_comm (m - 2)]; exact Int.mul_le_mul_of_nonneg_right (by omega) (by omega)
    simp only [PGeomFinds.trunnionref09_Find.l1]
    rw [e1]
    by_cases hlt : c < m - 2
    · rw [if_pos hlt, if_neg (by omega)]
      have e2 : wrap64 (t * (m - 2) + c + 1) = t * (m - 2) + (c + 1) := by rw [w64 (by omega) (by omega)]; omega
      have e3 : wrap64 (c + 1) = c + 1 := w64 (by omega) (by omega)
      rw [e2, e3]
      exact ih (d - 2) (by omega) k t (c + 1) ht0 ht1 (by omega) (by omega) (by omega) (by omega)
    · rw [if_neg hlt]
      have hcm : c = m - 2 := by omega
      rw [hcm] at hd ⊢
      have e4 : wrap64 (t + 1) = t + 1 := w64 (by omega) (by omega)
      obtain ⟨k, rfl⟩ : ∃ j, k = j + 1 := ⟨k - 1, by omega⟩
      rw [e4]
      simp only [PGeomFinds.trunnionref09_Find.l0]
      by_cases hlt2 : t + 1 < s
      · rw [if_pos hlt2, show t * (m - 2) + (m - 2) = (t + 1) * (m - 2) + 0 by omega]
        have hd1 : ((m - 2) * s - ((t + 1) * (m - 2) + 0)) * 2 + (s - (t + 1)) * 2 = ((d - 2 : Nat) : Int) := by
          rw [hx]; omega
        exact ih (d - 2) (by omega) k (t + 1) 0 (by omega) hlt2 (by omega) (by omega) hd1 (by omega)
      · rw [if_neg hlt2]
theorem rfind_f (m s b : Int) : PGeomFinds.trunnionref09_Find.f 9000 m s b = some (fT m s b, fC m s b, fE m s b) := by
  have hgf : PGeomFinds.trunnionref09_Good.f m s = some (gd m s) := gd_f m s
  simp only [PGeomFinds.trunnionref09_Find.f]
  rw [hgf, Option.bind_some]
  by_cases hg : gd m s = true
  · have hgi := (gd_iff m s).1 hg
    have hb2 : (m - 2) * s ≤ 30 * 64 := Int.mul_le_mul (by omega) (by omega) (by omega) (by omega)
    have hb3 : 0 ≤ (m - 2) * s := Int.mul_nonneg (by omega) (by omega)
    have hbl : blk m s = (m - 2) * s := by unfold blk; rw [if_pos hg]
    have hda : dat m s = m - 2 := by unfold dat; rw [if_pos hg]
    rw [if_pos hg]
    simp only [PGeomFinds.trunnionref09_Find.l0]
    rw [if_pos (by omega), show (0 : Int) = 0 * (m - 2) + 0 by omega]
    by_cases hin : 0 ≤ b ∧ b < (m - 2) * s
    · have he : fE m s b = 0 := by unfold fE wit1; rw [if_pos hg, hbl, if_pos hin]
      unfold fT fC
      rw [he, if_pos rfl, if_pos rfl, hda]
      have := rfind_l0 m s b hg hin.1 hin.2 ((b * 2 + s * 2).toNat) 8999 0 0 (by omega) (by omega) (by omega) (by omega) (by omega) (by omega) (by omega)
      simpa using this
    · have he : fE m s b = 3 := by unfold fE wit1; rw [if_pos hg, hbl, if_neg hin]
      unfold fT fC
      rw [he, if_neg (by omega), if_neg (by omega)]
      have := rfind_out m s b hg (by omega) ((((m - 2) * s) * 2 + s * 2).toNat) 8999 0 0 (by omega) (by omega) (by omega) (by omega) (by omega) (by omega)
      simpa using this
  · have he : fE m s b = 4 := by unfold fE wit1; rw [if_neg hg]
    unfold fT fC
    rw [he, if_neg hg]
    rfl
theorem rfindB (m s b : Int) (w : World) : Calls Try.prog 26 #[.agg #[.int .i64 m, .int .i64 s], .int .i64 b] w fun e w' => e = .returned (.tuple #[.int .i64 (fT m s b), .int .i64 (fC m s b), .int .i64 (fE m s b)]) ∧ Bel w w' :=
  PGeomFinds.trunnionref09_Find.calls 9000 m s b _ _ _ w (rfind_f m s b)
def bE (m s t c : Int) : Int := wit2 m s t s c (dat m s)
def bV (m s t c : Int) : Int := if bE m s t c = 0 then t * dat m s + c else 0
theorem blockB (m s t c : Int) (w : World) : Calls Try.prog 27 #[.agg #[.int .i64 m, .int .i64 s], .int .i64 t, .int .i64 c] w fun e w' => e = .returned (.tuple #[.int .i64 (bV m s t c), .int .i64 (bE m s t c)]) ∧ Bel w w' := by
  by_cases h : bE m s t c = 0
  · have hz := wit2_zero h
    unfold bV
    rw [if_pos h, h]
    exact block_ok m s t c w hz.1 hz.2.1 hz.2.2.1 hz.2.2.2.1 hz.2.2.2.2
  · unfold bV
    rw [if_neg h]
    exact block_err m s t c w _ rfl h
theorem rblockB (m s t c : Int) (w : World) : Calls Try.prog 28 #[.agg #[.int .i64 m, .int .i64 s], .int .i64 t, .int .i64 c] w fun e w' => e = .returned (.tuple #[.int .i64 (bV m s t c), .int .i64 (bE m s t c)]) ∧ Bel w w' := by
  refine PGeomFinds.trunnionref09_Block.calls m s t c _ _ w ?_
  have hgf : PGeomFinds.trunnionref09_Good.f m s = some (gd m s) := gd_f m s
  simp only [PGeomFinds.trunnionref09_Block.f]
  rw [hgf, Option.bind_some]
  by_cases hg : gd m s = true
  · have hgi := (gd_iff m s).1 hg
    have hda : dat m s = m - 2 := by unfold dat; rw [if_pos hg]
    have e1 : wrap64 (m - 2) = m - 2 := w64 (by omega) (by omega)
    rw [if_pos hg, e1]
    have hE : bE m s t c = if 0 ≤ t ∧ t < s ∧ 0 ≤ c ∧ c < m - 2 then 0 else 3 := by unfold bE wit2; rw [if_pos hg, hda]
    unfold bV
    rw [hda]
    by_cases q1 : t < 0
    · rw [if_pos q1, hE, if_neg (by omega : ¬ (0 ≤ t ∧ t < s ∧ 0 ≤ c ∧ c < m - 2)), if_neg (by omega)]
    · rw [if_neg q1]
      by_cases q2 : t ≥ s
      · rw [if_pos q2, hE, if_neg (by omega : ¬ (0 ≤ t ∧ t < s ∧ 0 ≤ c ∧ c < m - 2)), if_neg (by omega)]
      · rw [if_neg q2]
        by_cases q3 : c < 0
        · rw [if_pos q3, hE, if_neg (by omega : ¬ (0 ≤ t ∧ t < s ∧ 0 ≤ c ∧ c < m - 2)), if_neg (by omega)]
        · rw [if_neg q3]
          by_cases q4 : c ≥ m - 2
          · rw [if_pos q4, hE, if_neg (by omega : ¬ (0 ≤ t ∧ t < s ∧ 0 ≤ c ∧ c < m - 2)), if_neg (by omega)]
          · rw [if_neg q4, hE, if_pos (by omega : 0 ≤ t ∧ t < s ∧ 0 ≤ c ∧ c < m - 2), if_pos rfl]
            have h5 : t * (m - 2) ≤ 64 * 30 := Int.mul_le_mul (by omega) (by omega) (by omega) (by omega)
            have h6 : 0 ≤ t * (m - 2) := Int.mul_nonneg (by omega) (by omega)
            rw [w64 (x := t * (m - 2)) (by omega) (by omega), w64 (by omega) (by omega)]
  · have he : bE m s t c = 4 := by unfold bE wit2; rw [if_neg hg]
    unfold bV
    rw [he, if_neg hg]
    rfl
end Go.Proofs.Ytgjalgmnkadbaaa
