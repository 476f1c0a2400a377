/- Spans: the document's Split gives the pieces. -/
import Derived.Test.YtjgekbakommkmaaSplP
import Derived.Test.YtjgekbakommkmaaSplR
set_option linter.unusedVariables false
set_option linter.unusedSimpArgs false
namespace Go.Proofs.Ytjgekbakommkmaa
open Go.RowKit Go.Proofs.YtjgekbakommkmaaW.PrintWords Go.Proofs.YtjgekbakommkmaaW.PrintMore
open PSpansChange Pl
theorem m31_append (l m : List Sp) : m31 (l ++ m) = m31 l ++ m31 m := by simp [m31]
theorem ref_l0 (s : Sp) (part : Int) (hs : ok1 s = true) (hp : 1 ≤ part) (hpm : part ≤ 9223372036854775807) (hN : cnt s part < 65536) : ∀ (d fuel k : Nat), (k : Int) + d = cnt s part + 1 → d < fuel →
    trunnionref08_Split.l0 fuel part (m31 (pieces s part k)) (bord s part k) s.1 s.2 = some (m31 (pieces s part (cnt s part + 1).toNat), 0) := by
  obtain ⟨h0, h1, h2⟩ := (ok1_iff s).1 hs
  intro d
  induction d with
  | zero =>
    intro fuel k hk hf
    obtain ⟨fuel, rfl⟩ : ∃ q, fuel = q + 1 := ⟨fuel - 1, by omega⟩
    have hb := bord_end (k := k) hs hp (by omega)
    simp only [trunnionref08_Split.l0]
    rw [if_neg (by rw [hb]; omega), show (cnt s part + 1).toNat = k by omega]
  | succ d ih =>
    intro fuel k hk hf
    obtain ⟨fuel, rfl⟩ : ∃ q, fuel = q + 1 := ⟨fuel - 1, by omega⟩
    obtain ⟨c1, c2, c3, c4, c5⟩ := bord_in (k := k) hs hp (by omega)
    have hnx := bord_next s part k
    have hih := ih fuel (k + 1) (by omega) (by omega)
    rw [pieces_succ, m31_append] at hih
    have hl : (m31 (pieces s part k)).length = k := by rw [m31_length, pieces_len]
    generalize bord s part k = b at *
    generalize bord s part (k + 1) = nx at *
    generalize s.1 / part + (k : Int) = q at *
    have ht : Int.tmod b part = b % part := Int.tmod_eq_emod_of_nonneg c2
    have hm := Int.mul_ediv_add_emod b part
    have hm0 := Int.emod_nonneg b (show part ≠ 0 by omega)
    rw [c3, Int.mul_comm] at hm
    have he : (q + 1) * part = q * part + part := by rw [Int.add_mul, Int.one_mul]
    simp only [trunnionref08_Split.l0]
    rw [if_pos c1, if_neg (show ¬ part = 0 by omega), ht, w64 (x := part - b % part) (by omega) (by omega), w64 (x := s.2 - b) (by omega) (by omega), hl]
    have hk3 : k < 8796093022208 := by omega
    by_cases h5 : part - b % part > s.2 - b
    · have e1 : b + (s.2 - b) = nx := by omega
      rw [if_pos h5, if_pos hk3, w64 (x := b + (s.2 - b)) (by omega) (by omega), e1]
      exact hih
    · have e1 : b + (part - b % part) = nx := by omega
      rw [if_neg h5, if_pos hk3, w64 (x := b + (part - b % part)) (by omega) (by omega), e1]
      exact hih
theorem ref_one (s : Sp) : trunnionref08_One.f s.1 s.2 = some (ok1 s) := by
  unfold trunnionref08_One.f ok1
  by_cases h1 : 0 ≤ s.1 <;> by_cases h2 : s.1 < s.2 <;> simp [h1, h2]
theorem ref_f (s : Sp) (part : Int) (hpm : part ≤ 9223372036854775807) : trunnionref08_Split.f 65540 s.1 s.2 part = some (m31 (splV s part), splE s part) := by
  unfold trunnionref08_Split.f
  rw [ref_one, Option.bind_some]
  by_cases hs : ok1 s = true
  · rw [if_pos hs]
    simp only [trunnionref08_Split.j0]
    by_cases hp : 1 ≤ part
    · obtain ⟨h0, h1, h2⟩ := (ok1_iff s).1 hs
      have hc0 := cnt_nonneg hs hp
      have q0 := Int.ediv_nonneg h0 (show 0 ≤ part by omega)
      have q2 : (s.2 - 1) / part ≤ s.2 - 1 := Int.ediv_le_self _ (by omega)
      have hcd : (s.2 - 1) / part - s.1 / part = cnt s part := rfl
      rw [if_neg (by simp; omega), if_neg (show ¬ part = 0 by omega), w64 (x := s.2 - 1) (by omega) (by omega), Int.tdiv_eq_ediv_of_nonneg (show 0 ≤ s.2 - 1 by omega), Int.tdiv_eq_ediv_of_nonneg h0,
        w64 (x := (s.2 - 1) / part) (by omega) (by omega), w64 (x := s.1 / part) (by omega) (by omega), hcd, w64 (x := cnt s part) (by omega) (by omega)]
      by_cases hN : 65536 ≤ cnt s part
      · rw [if_pos (by omega)]
        have e1 : splE s part = 3 := by unfold splE; rw [if_pos ⟨hs, hp⟩, if_pos hN]
        have e2 : splV s part = [] := by unfold splV; rw [if_neg (fun h => absurd h.2.2 (by omega))]
        rw [e1, e2]
        rfl
      · rw [if_neg (by omega)]
        have e1 : splE s part = 0 := by unfold splE; rw [if_pos ⟨hs, hp⟩, if_neg hN]
        have e2 : splV s part = pieces s part (cnt s part + 1).toNat := by unfold splV; rw [if_pos ⟨hs, hp, by omega⟩]
        rw [e1, e2]
        have := ref_l0 s part hs hp hpm (by omega) (cnt s part + 1).toNat 65539 0 (by omega) (by omega)
        simpa [pieces, m31, bord] using this
    · rw [if_pos (by simp; omega)]
      have e1 : splE s part = 2 := by unfold splE; rw [if_neg (fun h => hp h.2)]
      have e2 : splV s part = [] := by unfold splV; rw [if_neg (fun h => hp h.2.1)]
      rw [e1, e2]
      rfl
  · rw [if_neg hs]
    simp only [trunnionref08_Split.j0]
    have e1 : splE s part = 2 := by unfold splE; rw [if_neg (fun h => hs h.1)]
    have e2 : splV s part = [] := by unfold splV; rw [if_neg (fun h => hs h.1)]
    rw [e1, e2]
    rfl
theorem refSplitB (s : Sp) (part : Int) (hpm : part ≤ 9223372036854775807) (w : World) :
    Calls Try.prog 29 #[.agg #[.int .i64 s.1, .int .i64 s.2], .int .i64 part] w fun e w' => ∃ v, e = .returned (.tuple #[v, .int .i64 (splE s part)]) ∧ Kd.R k31 31 w' w.heap.size (fun _ => True) v (m31 (splV s part)) ∧ Bel w w' :=
  trunnionref08_Split.calls 65540 s.1 s.2 part (m31 (splV s part)) (splE s part) w (ref_f s part hpm)
end Go.Proofs.Ytjgekbakommkmaa
