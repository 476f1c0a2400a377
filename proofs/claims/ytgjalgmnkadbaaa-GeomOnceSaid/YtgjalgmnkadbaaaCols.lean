/- Geometry: members and columns: contracts for every input. -/
import Derived.Test.YtgjalgmnkadbaaaRowVals
import Derived.Test.YtgjalgmnkadbaaaPGeomRowsx2
set_option linter.unusedVariables false
set_option linter.unusedSimpArgs false
namespace Go.Proofs.Ytgjalgmnkadbaaa
open Go.RowKit Go.Proofs.YtgjalgmnkadbaaaW.PrintWords Go.Proofs.YtgjalgmnkadbaaaW.PrintMore
open PGeomRows
def mE (m s t c : Int) : Int := wit2 m s t s c m
def mV (m s t c : Int) : Int := if mE m s t c = 0 then mem1 m t c else 0
def col1 (m t x : Int) : Int := ((x - pP m t + m) % m + m - 2) % m
def cV (m s t c : Int) : Int := if mE m s t c = 0 then col1 m t c else 0
theorem md (x m : Int) (h0 : 0 ≤ x) (h1 : x < 2 * m) : x % m = if x < m then x else x - m := by
  by_cases h : x < m
  · rw [if_pos h, Int.emod_eq_of_lt h0 h]
  · rw [if_neg h, show x = (x - m) + m by omega, Int.add_emod_right, Int.emod_eq_of_lt (by omega) (by omega)]
    omega
theorem mem1_bd (m t c : Int) (hm : 0 < m) : 0 ≤ mem1 m t c ∧ mem1 m t c < m := ⟨Int.emod_nonneg _ (by omega), Int.emod_lt_of_pos _ hm⟩
theorem col1_bd (m t c : Int) (hm : 0 < m) : 0 ≤ col1 m t c ∧ col1 m t c < m := ⟨Int.emod_nonneg _ (by omega), Int.emod_lt_of_pos _ hm⟩
theorem mdd (x m : Int) (h0 : 0 ≤ x) (h1 : x < 2 * m) : 0 ≤ x % m ∧ x % m < m ∧ (x % m = x ∨ x % m = x - m) := by
  have := md x m h0 h1
  rw [this]
  split <;> omega
theorem col_mem (m t a : Int) (hm : 4 ≤ m) (h0 : 0 ≤ a) (h1 : a < m) : col1 m t (mem1 m t a) = a := by
  have hb := p_bd m t (by omega)
  unfold col1 mem1 tuR
  generalize pP m t = p at *
  have hA := mdd (a + 2) m (by omega) (by omega)
  generalize (a + 2) % m = A at *
  have hB := mdd (p + A) m (by omega) (by omega)
  generalize (p + A) % m = B at *
  have hC := mdd (B - p + m) m (by omega) (by omega)
  generalize (B - p + m) % m = C at *
  have hD := mdd (C + m - 2) m (by omega) (by omega)
  generalize (C + m - 2) % m = D at *
  omega
theorem mem_col (m t x : Int) (hm : 4 ≤ m) (h0 : 0 ≤ x) (h1 : x < m) : mem1 m t (col1 m t x) = x := by
  have hb := p_bd m t (by omega)
  unfold col1 mem1 tuR
  generalize pP m t = p at *
  have hC := mdd (x - p + m) m (by omega) (by omega)
  generalize (x - p + m) % m = C at *
  have hD := mdd (C + m - 2) m (by omega) (by omega)
  generalize (C + m - 2) % m = D at *
  have hA := mdd (D + 2) m (by omega) (by omega)
  generalize (D + 2) % m = A at *
  have hB := mdd (p + A) m (by omega) (by omega)
  generalize (p + A) % m = B at *
  omega
theorem rd_row (m t : Int) (i : Int) (h0 : 0 ≤ i) (h1 : i < m) : rd (rowL m t m.toNat) i = mem1 m t i := by
  unfold rd rowL
  rw [List.getD_eq_getElem?_getD, List.getElem?_map, List.getElem?_range (by omega)]
  simp only [Option.map_some, Option.getD_some]
  congr 1
  omega
theorem mE_split (m s t c : Int) : mE m s t c = if rE m s t = 0 then (if 0 ≤ c ∧ c < m then 0 else 3) else rE m s t := by
  unfold mE rE wit2 wit1
  by_cases hg : gd m s = true
  · simp only [hg, if_true]
    by_cases h1 : 0 ≤ t ∧ t < s
    · simp only [h1, and_self, true_and, if_true]
    · rw [if_neg (by omega), if_neg h1]
      simp
  · simp only [hg]
    simp
theorem rE_zero {m s t : Int} (h : rE m s t = 0) : gd m s = true ∧ 0 ≤ t ∧ t < s := wit1_zero h
theorem rmem_f (m s t c : Int) : trunnionref09_Member.f 200 m s t c = some (mV m s t c, mE m s t c) := by
  simp only [trunnionref09_Member.f]
  rw [rrow_f, Option.bind_some]
  have hs := mE_split m s t c
  unfold mV
  by_cases h : rE m s t = 0
  · have hz := rE_zero h
    have hgi := (gd_iff m s).1 hz.1
    have hv : rV m s t = rowL m t m.toNat := if_pos h
    have hl : ((rowL m t m.toNat).length : Int) = m := by simp [rowL]; omega
    rw [if_pos h] at hs
    simp only [h, if_true, hv]
    rw [hl]
    by_cases h1 : c < 0
    · rw [if_pos h1, hs, if_neg (by omega : ¬ (0 ≤ c ∧ c < m)), if_neg (by omega)]
    · rw [if_neg h1]
      by_cases h2 : c ≥ m
      · rw [if_pos h2, hs, if_neg (by omega : ¬ (0 ≤ c ∧ c < m)), if_neg (by omega)]
      · rw [if_neg h2, hs, if_pos (by omega : 0 ≤ c ∧ c < m), if_pos rfl, if_pos (by omega), if_pos (by omega), rd_row m t c (by omega) (by omega)]
  · rw [if_neg h] at hs
    rw [hs]
    simp only [if_neg h]
theorem rcol_l0 (m t c : Int) (hm : 4 ≤ m ∧ m ≤ 32) (h0 : 0 ≤ c) (h1 : c < m) : ∀ (d k : Nat) (i : Int), 0 ≤ i → i + d = col1 m t c → d < k → trunnionref09_Column.l0 k c (rowL m t m.toNat) i = some (col1 m t c, 0) := by
  have hl : ((rowL m t m.toNat).length : Int) = m := by simp [rowL]; omega
  have hc := col1_bd m t c (by omega)
  intro d
  induction d with
  | zero =>
    intro k i hi0 hi hk
    obtain ⟨k, rfl⟩ : ∃ q, k = q + 1 := ⟨k - 1, by omega⟩
    have e : i = col1 m t c := by omega
    simp only [trunnionref09_Column.l0]
    rw [hl, if_pos (by omega), if_pos hi0, rd_row m t i hi0 (by omega), e, mem_col m t c (by omega) h0 h1, if_pos rfl]
  | succ d ih =>
    intro k i hi0 hi hk
    obtain ⟨k, rfl⟩ : ∃ q, k = q + 1 := ⟨k - 1, by omega⟩
    simp only [trunnionref09_Column.l0]
    rw [hl, if_pos (by omega), if_pos hi0, rd_row m t i hi0 (by omega), if_neg ?_, w64 (by omega) (by omega)]
    · exact ih k (i + 1) (by omega) (by omega) (by omega)
    · intro he
      have := col_mem m t i (by omega) hi0 (by omega)
      rw [he] at this
      omega
theorem rcol_out (m t c : Int) (hm : 4 ≤ m ∧ m ≤ 32) (h0 : c < 0 ∨ m ≤ c) : ∀ (d k : Nat) (i : Int), 0 ≤ i → i + d = m → d < k → trunnionref09_Column.l0 k c (rowL m t m.toNat) i = some (0, 3) := by
  have hl : ((rowL m t m.toNat).length : Int) = m := by simp [rowL]; omega
  intro d
  induction d with
  | zero =>
    intro k i hi0 hi hk
    obtain ⟨k, rfl⟩ : ∃ q, k = q + 1 := ⟨k - 1, by omega⟩
    simp only [trunnionref09_Column.l0]
    rw [hl, if_neg (by omega)]
  | succ d ih =>
    intro k i hi0 hi hk
    obtain ⟨k, rfl⟩ : ∃ q, k = q + 1 := ⟨k - 1, by omega⟩
    have hb := mem1_bd m t i (by omega)
    simp only [trunnionref09_Column.l0]
    rw [hl, if_pos (by omega), if_pos hi0, rd_row m t i hi0 (by omega), if_neg (by omega), w64 (by omega) (by omega)]
    exact ih k (i + 1) (by omega) (by omega) (by omega)
theorem rcol_f (m s t c : Int) : trunnionref09_Column.f 200 m s t c = some (cV m s t c, mE m s t c) := by
  simp only [trunnionref09_Column.f]
  rw [rrow_f, Option.bind_some]
  have hs := mE_split m s t c
  unfold cV
  by_cases h : rE m s t = 0
  · have hz := rE_zero h
    have hgi := (gd_iff m s).1 hz.1
    have hv : rV m s t = rowL m t m.toNat := if_pos h
    rw [if_pos h] at hs
    simp only [h, if_true, hv]
    have hc := col1_bd m t c (by omega)
    by_cases h1 : 0 ≤ c ∧ c < m
    · rw [hs, if_pos h1, if_pos rfl]
      exact rcol_l0 m t c (by omega) h1.1 h1.2 (col1 m t c).toNat 200 0 (by omega) (by omega) (by omega)
    · rw [hs, if_neg h1, if_neg (by omega)]
      exact rcol_out m t c (by omega) (by omega) m.toNat 200 0 (by omega) (by omega) (by omega)
  · rw [if_neg h] at hs
    rw [hs]
    simp only [if_neg h]
theorem memberB (m s t c : Int) (w : World) : Calls Try.prog 11 #[.agg #[.int .i64 m, .int .i64 s], .int .i64 t, .int .i64 c] w fun e w' => e = .returned (.tuple #[.int .i64 (mV m s t c), .int .i64 (mE m s t c)]) ∧ Bel w w' := by
  by_cases h : mE m s t c = 0
  · have hz := wit2_zero h
    unfold mV
    rw [if_pos h, h]
    exact member_ok m s t c w hz.1 hz.2.1 hz.2.2.1 hz.2.2.2.1 hz.2.2.2.2
  · unfold mV
    rw [if_neg h]
    exact member_err m s t c w _ rfl h
theorem columnB (m s t c : Int) (w : World) : Calls Try.prog 19 #[.agg #[.int .i64 m, .int .i64 s], .int .i64 t, .int .i64 c] w fun e w' => e = .returned (.tuple #[.int .i64 (cV m s t c), .int .i64 (mE m s t c)]) ∧ Bel w w' := by
  by_cases h : mE m s t c = 0
  · have hz := wit2_zero h
    unfold cV
    rw [if_pos h, h]
    exact column_ok m s t c w hz.1 hz.2.1 hz.2.2.1 hz.2.2.2.1 hz.2.2.2.2
  · unfold cV
    rw [if_neg h]
    exact column_err m s t c w _ rfl h
theorem rmemberB (m s t c : Int) (w : World) : Calls Try.prog 18 #[.agg #[.int .i64 m, .int .i64 s], .int .i64 t, .int .i64 c] w fun e w' => e = .returned (.tuple #[.int .i64 (mV m s t c), .int .i64 (mE m s t c)]) ∧ Bel w w' :=
  trunnionref09_Member.calls 200 m s t c _ _ w (rmem_f m s t c)
theorem rcolumnB (m s t c : Int) (w : World) : Calls Try.prog 20 #[.agg #[.int .i64 m, .int .i64 s], .int .i64 t, .int .i64 c] w fun e w' => e = .returned (.tuple #[.int .i64 (cV m s t c), .int .i64 (mE m s t c)]) ∧ Bel w w' :=
  trunnionref09_Column.calls 200 m s t c _ _ w (rcol_f m s t c)
def sV (m s t : Int) : Int := if rE m s t = 0 then 100 + t else 0
theorem sectorB (m s t : Int) (w : World) : Calls Try.prog 23 #[.agg #[.int .i64 m, .int .i64 s], .int .i64 t] w fun e w' => e = .returned (.tuple #[.int .i64 (sV m s t), .int .i64 (rE m s t)]) ∧ Bel w w' := by
  by_cases h : rE m s t = 0
  · have hz := rE_zero h
    unfold sV
    rw [if_pos h, h]
    exact sector_ok m s t w hz.1 hz.2.1 hz.2.2
  · unfold sV
    rw [if_neg h]
    exact sector_err m s t w _ rfl h
/-- Row, for every input: what its slice reads as. -/
theorem rowB (m s t : Int) (w : World) : Calls Try.prog 21 #[.agg #[.int .i64 m, .int .i64 s], .int .i64 t] w fun e w' => ∃ A c, e = .returned (.tuple #[.slice A (rV m s t).length c, .int .i64 (rE m s t)]) ∧ (rV m s t).length ≤ c ∧ Kd.C (Kd.int .i64) w' A (rV m s t).length (rV m s t) ∧ Bel w w' := by
  by_cases h : rE m s t = 0
  · have hz := rE_zero h
    unfold rV
    rw [if_pos h, h]
    refine (row_ok m s t w hz.1 hz.2.1 hz.2.2).mono ?_
    rintro e w' ⟨v, rfl, hR, hb⟩
    obtain ⟨A, c, rfl, hl, hC⟩ := Kd.R_reads hR
    exact ⟨A, c, rfl, hl, hC, hb⟩
  · unfold rV
    rw [if_neg h]
    refine (row_err m s t w _ rfl h).mono ?_
    rintro e w' ⟨rfl, hb⟩
    exact ⟨none, 0, rfl, Nat.le_refl _, Kd.C_nil _ _, hb⟩
theorem rrowB (m s t : Int) (w : World) : Calls Try.prog 22 #[.agg #[.int .i64 m, .int .i64 s], .int .i64 t] w fun e w' => ∃ A c, e = .returned (.tuple #[.slice A (rV m s t).length c, .int .i64 (rE m s t)]) ∧ (rV m s t).length ≤ c ∧ Kd.C (Kd.int .i64) w' A (rV m s t).length (rV m s t) ∧ Bel w w' := by
  refine (trunnionref09_Row.calls 200 m s t _ _ w (rrow_f m s t)).mono ?_
  rintro e w' ⟨v, rfl, hR, hb⟩
  obtain ⟨A, c, rfl, hl, hC⟩ := Kd.R_reads hR
  exact ⟨A, c, rfl, hl, hC, hb⟩
theorem equal_l0 (l : List Int) (hl : l.length ≤ 9000) : ∀ (d k : Nat) (i : Int), 0 ≤ i → i + d = l.length → d < k → trunnionlaw09_equal.l0 k l l (l.length : Int) i = some true := by
  intro d
  induction d with
  | zero =>
    intro k i h0 hi hk
    obtain ⟨k, rfl⟩ : ∃ q, k = q + 1 := ⟨k - 1, by omega⟩
    simp only [trunnionlaw09_equal.l0]
    rw [if_neg (by omega)]
  | succ d ih =>
    intro k i h0 hi hk
    obtain ⟨k, rfl⟩ : ∃ q, k = q + 1 := ⟨k - 1, by omega⟩
    simp only [trunnionlaw09_equal.l0]
    rw [if_pos (by omega), if_pos h0, if_pos (by omega), if_pos (by omega), if_pos trivial, w64 (by omega) (by omega)]
    exact ih k (i + 1) (by omega) (by omega) (by omega)
theorem equalB (l : List Int) (hl : l.length ≤ 9000) (w : World) (A1 A2 : Option Addr) (c1 c2 : Nat) (h1 : l.length ≤ c1) (h2 : l.length ≤ c2) (hC1 : Kd.C (Kd.int .i64) w A1 l.length l) (hC2 : Kd.C (Kd.int .i64) w A2 l.length l) : Calls Try.prog 24 #[.slice A1 l.length c1, .slice A2 l.length c2] w fun e w' => e = .returned (.bool true) ∧ Bel w w' :=
  (trunnionlaw09_equal.calls 9001 A1 c1 l A2 c2 l true w hC1 h1 hC2 h2 (by
    simp only [trunnionlaw09_equal.f]
    rw [if_pos trivial]
    exact equal_l0 l hl l.length 9001 0 (by omega) (by omega) (by omega))).mono fun _ _ h => ⟨h.1, h.2.below⟩
theorem rV_len (m s t : Int) : (rV m s t).length ≤ 9000 := by
  unfold rV
  split
  · rename_i h
    have := (gd_iff m s).1 (rE_zero h).1
    simp [rowL]
    omega
  · simp
end Go.Proofs.Ytgjalgmnkadbaaa
