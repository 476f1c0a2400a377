/- Spans: the pieces of a span, in plain Lean. -/
import Derived.Test.YtjgekbakommkmaaWakes
set_option linter.unusedVariables false
set_option linter.unusedSimpArgs false
namespace Go.Proofs.Ytjgekbakommkmaa
open Go.RowKit Go.Proofs.YtjgekbakommkmaaW.PrintWords Go.Proofs.YtjgekbakommkmaaW.PrintMore
open PSpansChange Pl
/-- The k-th border. -/
def bord (s : Sp) (part : Int) (k : Nat) : Int := if k = 0 then s.1 else min s.2 ((s.1 / part + k) * part)
def pieces (s : Sp) (part : Int) (n : Nat) : List Sp := (List.range n).map fun k => (bord s part k, bord s part (k + 1))
theorem pieces_len (s : Sp) (part : Int) (n : Nat) : (pieces s part n).length = n := by simp [pieces]
theorem pieces_succ (s : Sp) (part : Int) (n : Nat) : pieces s part (n + 1) = pieces s part n ++ [(bord s part n, bord s part (n + 1))] := by simp [pieces, List.range_succ]
def cnt (s : Sp) (part : Int) : Int := (s.2 - 1) / part - s.1 / part
/-- What a round knows: the border lies in the part q. -/
theorem bord_in {s : Sp} {part : Int} (hs : ok1 s = true) (hp : 1 ≤ part) {k : Nat} (hk : (k : Int) ≤ cnt s part) :
    bord s part k < s.2 ∧ 0 ≤ bord s part k ∧ bord s part k / part = s.1 / part + k ∧ (s.1 / part + k) * part ≤ bord s part k ∧ bord s part k < (s.1 / part + k + 1) * part := by
  obtain ⟨h0, h1, h2⟩ := (ok1_iff s).1 hs
  unfold cnt at hk
  have e1 := Int.mul_ediv_add_emod s.1 part
  have e2 := Int.emod_nonneg s.1 (show part ≠ 0 by omega)
  have e3 := Int.emod_lt_of_pos s.1 (show 0 < part by omega)
  have f1 := Int.mul_ediv_add_emod (s.2 - 1) part
  have f2 := Int.emod_nonneg (s.2 - 1) (show part ≠ 0 by omega)
  have q0 := Int.ediv_nonneg h0 (show 0 ≤ part by omega)
  by_cases hk0 : k = 0
  · subst hk0
    have eb : bord s part 0 = s.1 := by simp [bord]
    rw [eb]
    have g1 : (s.1 / part + ((0 : Nat) : Int)) * part = part * (s.1 / part) := by rw [Int.natCast_zero, Int.add_zero, Int.mul_comm]
    have g2 : (s.1 / part + ((0 : Nat) : Int) + 1) * part = part * (s.1 / part) + part := by rw [Int.natCast_zero, Int.add_zero, Int.add_mul, Int.one_mul, Int.mul_comm]
    rw [g1, g2]
    exact ⟨h1, h0, by simp, by omega, by omega⟩
  · have hm : (s.1 / part + k) * part ≤ s.2 - 1 := by
      have h5 : (s.1 / part + k) ≤ (s.2 - 1) / part := by omega
      have h6 := Int.mul_le_mul_of_nonneg_right h5 (show 0 ≤ part by omega)
      have h7 : (s.2 - 1) / part * part = part * ((s.2 - 1) / part) := Int.mul_comm _ _
      omega
    have eb : bord s part k = (s.1 / part + k) * part := by unfold bord; rw [if_neg hk0]; omega
    have g2 : (s.1 / part + k + 1) * part = (s.1 / part + k) * part + part := by rw [Int.add_mul, Int.one_mul]
    have g3 : 0 ≤ (s.1 / part + k) * part := Int.mul_nonneg (by omega) (by omega)
    rw [eb, g2]
    exact ⟨by omega, g3, Int.mul_ediv_cancel _ (by omega), Int.le_refl _, by omega⟩
theorem bord_next (s : Sp) (part : Int) (k : Nat) : bord s part (k + 1) = min s.2 ((s.1 / part + k + 1) * part) := by
  unfold bord
  rw [if_neg (by omega)]
  congr 2
  omega
theorem bord_end {s : Sp} {part : Int} (hs : ok1 s = true) (hp : 1 ≤ part) {k : Nat} (hk : (k : Int) = cnt s part + 1) : bord s part k = s.2 := by
  obtain ⟨h0, h1, h2⟩ := (ok1_iff s).1 hs
  have f1 := Int.mul_ediv_add_emod (s.2 - 1) part
  have f3 := Int.emod_lt_of_pos (s.2 - 1) (show 0 < part by omega)
  have hc : 0 ≤ cnt s part := by unfold cnt; have := Int.ediv_le_ediv (show 0 < part by omega) (show s.1 ≤ s.2 - 1 by omega); omega
  unfold bord
  rw [if_neg (by omega)]
  have h5 : s.1 / part + k = (s.2 - 1) / part + 1 := by unfold cnt at hk; omega
  rw [h5, Int.add_mul, Int.one_mul, Int.mul_comm]
  omega
theorem cnt_nonneg {s : Sp} {part : Int} (hs : ok1 s = true) (hp : 1 ≤ part) : 0 ≤ cnt s part := by
  obtain ⟨h0, h1, h2⟩ := (ok1_iff s).1 hs
  unfold cnt
  have := Int.ediv_le_ediv (show 0 < part by omega) (show s.1 ≤ s.2 - 1 by omega)
  omega
def splE (s : Sp) (part : Int) : Int := if ok1 s = true ∧ 1 ≤ part then (if 65536 ≤ cnt s part then 3 else 0) else 2
def splV (s : Sp) (part : Int) : List Sp := if ok1 s = true ∧ 1 ≤ part ∧ cnt s part < 65536 then pieces s part (cnt s part + 1).toNat else []
end Go.Proofs.Ytjgekbakommkmaa
