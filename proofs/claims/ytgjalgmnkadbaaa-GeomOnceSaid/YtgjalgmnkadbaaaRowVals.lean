/- Geometry: rows: the program's and the reference's have the same values. -/
import Derived.Test.YtgjalgmnkadbaaaVals
set_option linter.unusedVariables false
set_option linter.unusedSimpArgs false
namespace Go.Proofs.Ytgjalgmnkadbaaa
open Go.RowKit Go.Proofs.YtgjalgmnkadbaaaW.PrintWords Go.Proofs.YtgjalgmnkadbaaaW.PrintMore
open PGeomRows
theorem gd_f2 (m s : Int) : trunnionref09_Good.f m s = some (gd m s) := gd_f m s
theorem next_f (m s x : Int) (hm : 4 ≤ m ∧ m ≤ 32) (h0 : 0 ≤ x) (h1 : x < m) : trunnionref09_next.f m s x = some ((x + 1) % m) := by
  unfold trunnionref09_next.f
  rw [w64 (x := m - 1) (by omega) (by omega)]
  by_cases h : x = m - 1
  · rw [if_pos h, h, show m - 1 + 1 = m by omega, Int.emod_self]
  · rw [if_neg h, w64 (by omega) (by omega), Int.emod_eq_of_lt (by omega) (by omega)]
theorem p_succ (m t : Int) (hm : 0 < m) (ht : 0 ≤ t) : pP m (t + 1) = if pP m t - 1 < 0 then m - 1 else pP m t - 1 := by
  unfold pP
  have h1 := Int.emod_nonneg t (show m ≠ 0 by omega)
  have h2 := Int.emod_lt_of_pos t hm
  by_cases h : t % m = m - 1
  · have : (t + 1) % m = 0 := by
      rw [Int.add_emod, h]
      by_cases h1 : m = 1
      · subst h1; simp
      · rw [Int.emod_eq_of_lt (by omega : (0 : Int) ≤ 1) (by omega), show m - 1 + 1 = m by omega, Int.emod_self]
    rw [this, h, if_pos (by omega)]
    omega
  · have : (t + 1) % m = t % m + 1 := by
      rw [Int.add_emod, Int.emod_eq_of_lt (a := 1) (by omega) (by omega), Int.emod_eq_of_lt (by omega) (by omega)]
    rw [this, if_neg (by omega)]
    omega
theorem p_bd (m t : Int) (hm : 0 < m) : 0 ≤ pP m t ∧ pP m t < m := by
  unfold pP
  have h1 := Int.emod_nonneg t (show m ≠ 0 by omega)
  have h2 := Int.emod_lt_of_pos t hm
  omega
/-- The data columns' members. -/
def datL (m p : Int) (j : Nat) : List Int := (List.range j).map fun (c : Nat) => (p + c + 2) % m
theorem rrow_l1 (m s p : Int) (hm : 4 ≤ m ∧ m ≤ 32) (h0 : 0 ≤ p) (h1 : p < m) : ∀ (d k j : Nat), (j : Int) + d = m - 2 → d < k →
    trunnionref09_Row.l1 k p ((p + 1) % m) ((p + 1 + j) % m) (datL m p j) j m s = some (datL m p (m - 2).toNat ++ [p] ++ [(p + 1) % m], 0) := by
  intro d
  induction d with
  | zero =>
    intro k j hj hk
    obtain ⟨k, rfl⟩ : ∃ q, k = q + 1 := ⟨k - 1, by omega⟩
    have hl : (datL m p j).length = j := by simp [datL]
    simp only [trunnionref09_Row.l1]
    rw [w64 (x := m - 2) (by omega) (by omega), if_neg (by omega), if_pos (by omega), Option.bind_some, if_pos (by simp; omega), show (m - 2).toNat = j by omega]
  | succ d ih =>
    intro k j hj hk
    obtain ⟨k, rfl⟩ : ∃ q, k = q + 1 := ⟨k - 1, by omega⟩
    have hl : (datL m p j).length = j := by simp [datL]
    have b1 := Int.emod_nonneg (p + 1 + j) (show m ≠ 0 by omega)
    have b2 := Int.emod_lt_of_pos (p + 1 + j) (show 0 < m by omega)
    simp only [trunnionref09_Row.l1]
    rw [w64 (x := m - 2) (by omega) (by omega), if_pos (by omega), next_f m s _ hm b1 b2, Option.bind_some, if_pos (by omega), w64 (x := (j : Int) + 1) (by omega) (by omega)]
    have e1 : ((p + 1 + (j : Int)) % m + 1) % m = (p + 1 + ((j + 1 : Nat) : Int)) % m := by
      rw [Int.emod_add_emod]; congr 1; omega
    have e2 : datL m p j ++ [(p + 1 + ((j + 1 : Nat) : Int)) % m] = datL m p (j + 1) := by
      unfold datL
      rw [List.range_succ, List.map_append, List.map_singleton]
      congr 3
      omega
    rw [e1, e2]
    exact ih k (j + 1) (by omega) (by omega)
theorem rrow_l0 (m s t : Int) (hm : 4 ≤ m ∧ m ≤ 32) (ht : t ≤ 64) : ∀ (d k : Nat) (i : Int), 0 ≤ i → i + d = t → d + 40 < k →
    trunnionref09_Row.l0 k t (pP m i) i m s = some (datL m (pP m t) (m - 2).toNat ++ [pP m t] ++ [(pP m t + 1) % m], 0) := by
  intro d
  induction d with
  | zero =>
    intro k i h0 hi hk
    obtain ⟨k, rfl⟩ : ∃ q, k = q + 1 := ⟨k - 1, by omega⟩
    have hb := p_bd m i (by omega)
    have e : i = t := by omega
    subst e
    simp only [trunnionref09_Row.l0]
    rw [if_neg (by omega), next_f m s _ hm hb.1 hb.2, Option.bind_some]
    have := rrow_l1 m s (pP m i) hm hb.1 hb.2 (m - 2).toNat k 0 (by omega) (by omega)
    simpa [datL] using this
  | succ d ih =>
    intro k i h0 hi hk
    obtain ⟨k, rfl⟩ : ∃ q, k = q + 1 := ⟨k - 1, by omega⟩
    have hb := p_bd m i (by omega)
    have hs := p_succ m i (by omega) h0
    simp only [trunnionref09_Row.l0]
    rw [if_pos (by omega), w64 (x := pP m i - 1) (by omega) (by omega), w64 (x := m - 1) (by omega) (by omega), w64 (x := i + 1) (by omega) (by omega)]
    have := ih k (i + 1) (by omega) (by omega) (by omega)
    by_cases hn : pP m i - 1 < 0
    · rw [if_pos hn]
      rw [if_pos hn] at hs
      rwa [hs] at this
    · rw [if_neg hn]
      rw [if_neg hn] at hs
      rwa [hs] at this
theorem rowL_eq (m t : Int) (hm : 4 ≤ m ∧ m ≤ 32) : datL m (pP m t) (m - 2).toNat ++ [pP m t] ++ [(pP m t + 1) % m] = rowL m t m.toNat := by
  have hb := p_bd m t (by omega)
  obtain ⟨n, hn⟩ : ∃ n : Nat, m = n + 2 := ⟨(m - 2).toNat, by omega⟩
  subst hn
  have e1 : ((n : Int) + 2 - 2).toNat = n := by omega
  have e2 : ((n : Int) + 2).toNat = n + 1 + 1 := by omega
  rw [e1, e2]
  unfold rowL
  rw [List.range_succ, List.range_succ, List.map_append, List.map_append, List.map_singleton, List.map_singleton]
  congr 1
  · congr 1
    · unfold datL
      apply List.map_congr_left
      intro c hc
      have hc := List.mem_range.1 hc
      unfold mem1 tuR
      rw [Int.emod_eq_of_lt (a := (c : Int) + 2) (by omega) (by omega)]
      congr 1
      omega
    · unfold mem1 tuR
      rw [Int.emod_self, Int.add_zero, Int.emod_eq_of_lt hb.1 hb.2]
  · unfold mem1 tuR
    have : (((n + 1 : Nat) : Int) + 2) % ((n : Int) + 2) = 1 := by
      rw [show (((n + 1 : Nat) : Int) + 2) = 1 + ((n : Int) + 2) by omega, Int.add_emod_right, Int.emod_eq_of_lt (by omega) (by omega)]
    rw [this]
def rE (m s t : Int) : Int := wit1 m s t s
def rV (m s t : Int) : List Int := if rE m s t = 0 then rowL m t m.toNat else []
theorem rrow_f (m s t : Int) : trunnionref09_Row.f 200 m s t = some (rV m s t, rE m s t) := by
  simp only [trunnionref09_Row.f]
  rw [gd_f2, Option.bind_some]
  by_cases hg : gd m s = true
  · have hgi := (gd_iff m s).1 hg
    rw [if_pos hg]
    have hE : rE m s t = if 0 ≤ t ∧ t < s then 0 else 3 := by unfold rE wit1; rw [if_pos hg]
    unfold rV
    by_cases h0 : t < 0
    · rw [if_pos h0, hE, if_neg (by omega : ¬ (0 ≤ t ∧ t < s)), if_neg (by omega)]
      rfl
    · rw [if_neg h0]
      simp only [trunnionref09_Row.j0]
      by_cases h1 : t ≥ s
      · rw [if_pos (by simpa using h1), hE, if_neg (by omega : ¬ (0 ≤ t ∧ t < s)), if_neg (by omega)]
      · rw [if_neg (by simpa using h1), hE, if_pos (by omega : 0 ≤ t ∧ t < s), if_pos rfl, w64 (x := m - 1) (by omega) (by omega)]
        have := rrow_l0 m s t (by omega) (by omega) t.toNat 199 0 (by omega) (by omega) (by omega)
        rw [rowL_eq m t (by omega)] at this
        rw [show pP m 0 = m - 1 by unfold pP; simp] at this
        exact this
  · have hE : rE m s t = 4 := by unfold rE wit1; rw [if_neg hg]
    unfold rV
    rw [hE, if_neg hg, if_neg (by omega)]
end Go.Proofs.Ytgjalgmnkadbaaa
