/- Ahead: the reference's New and Note come to the same. -/
import Derived.Test.YtfbibiiiepgdaaaDoorNew
set_option linter.unusedVariables false
set_option linter.unusedSimpArgs false
namespace Go.Proofs.YtfbibiiiepgdaaaDoor
open Go.RowKit Go.Proofs.YtfbibiiiepgdaaaDoorW.PrintWords Go.Proofs.YtfbibiiiepgdaaaDoorW.PrintMore
open PAheadPlays
def cl (R x : Int) : Int := (x + R - 1) / R * R
theorem cl_zero {R x : Int} (hR : 1 ≤ R) (h : x % R = 0) : cl R x = x := by
  unfold cl
  obtain ⟨q, rfl⟩ := Int.dvd_of_emod_eq_zero h
  have : R * q + R - 1 = (R - 1) + R * q := by omega
  rw [this, Int.add_mul_ediv_left _ _ (by omega), Int.ediv_eq_zero_of_lt (by omega) (by omega), Int.zero_add, Int.mul_comm]
theorem cl_step {R x : Int} (hR : 1 ≤ R) (h : x % R ≠ 0) : cl R x = cl R (x + 1) := by
  unfold cl
  have e := Int.mul_ediv_add_emod x R
  have m0 := Int.emod_nonneg x (show R ≠ 0 by omega)
  have m1 := Int.emod_lt_of_pos x (show 0 < R by omega)
  generalize x / R = q at *
  generalize x % R = m at *
  have e1 : x + R - 1 = (m - 1) + R * (q + 1) := by rw [Int.mul_add, Int.mul_one]; omega
  have e2 : x + 1 + R - 1 = m + R * (q + 1) := by rw [Int.mul_add, Int.mul_one]; omega
  rw [e1, e2, Int.add_mul_ediv_left _ _ (by omega), Int.add_mul_ediv_left _ _ (by omega), Int.ediv_eq_zero_of_lt (by omega) (by omega), Int.ediv_eq_zero_of_lt (by omega) (by omega)]
theorem cl_bd {R x : Int} (hR : 1 ≤ R) : x ≤ cl R x ∧ cl R x ≤ x + R - 1 := by
  unfold cl
  have h1 := Int.ediv_mul_le (x + R - 1) (b := R) (by omega)
  have h2 := Int.lt_ediv_add_one_mul_self (x + R - 1) (b := R) (by omega)
  rw [Int.add_mul, Int.one_mul] at h2
  omega
def outF (B R M nx r1 w2 en f t : Int) : Int × Int × Bool × Int × Int × Int × Int × Int × Int × Int := if f < t then (f, t, true, B, R, M, nx, r1, w2, t) else (0, 0, false, B, R, M, nx, r1, w2, en)
theorem rl0 {B R M nx r1 w2 en f : Int} (hR : 1 ≤ R) : ∀ (d k : Nat) (x : Int), x + d = cl R x → d < k → 0 ≤ x → cl R x ≤ 2199023255552 →
    trunnionref22_Note.l0 k f x B R M nx r1 w2 en = some (outF B R M nx r1 w2 en f (min B (cl R x))) := by
  intro d
  induction d with
  | zero =>
    intro k x hx hk h0 h1
    obtain ⟨k, rfl⟩ : ∃ q, k = q + 1 := ⟨k - 1, by omega⟩
    have hz : x % R = 0 := by
      by_cases h : x % R = 0
      · exact h
      · have := cl_step hR h
        have := (cl_bd (R := R) (x := x + 1) hR).1
        omega
    simp only [trunnionref22_Note.l0]
    rw [if_neg (by omega), if_pos (by rw [Int.tmod_eq_emod_of_nonneg h0]; exact hz), show cl R x = x by omega]
    unfold outF
    by_cases h2 : x > B
    · rw [if_pos h2, show min B x = B by omega]
      by_cases h3 : B ≤ f
      · rw [if_pos h3, if_neg (by omega)]
      · rw [if_neg h3, if_pos (by omega)]
    · rw [if_neg h2, show min B x = x by omega]
      by_cases h3 : x ≤ f
      · rw [if_pos h3, if_neg (by omega)]
      · rw [if_neg h3, if_pos (by omega)]
  | succ d ih =>
    intro k x hx hk h0 h1
    obtain ⟨k, rfl⟩ : ∃ q, k = q + 1 := ⟨k - 1, by omega⟩
    have hz : x % R ≠ 0 := by
      intro h
      have := cl_zero hR h
      omega
    have hc := cl_step hR hz
    have hb := (cl_bd (R := R) (x := x) hR).2
    simp only [trunnionref22_Note.l0]
    rw [if_neg (by omega), if_neg (by rw [Int.tmod_eq_emod_of_nonneg h0]; exact hz), w64 (by omega) (by omega), hc]
    exact ih k (x + 1) (by omega) (by omega) (by omega) (by omega)
theorem rnote_f {B R M nx run win en : Int} (hv : Valid B R M nx run win en) (b : Int) : trunnionref22_Note.f 100 B R M nx run win en b = some ((noteF B R M nx run win en b).1.1, (noteF B R M nx run win en b).1.2.1, (noteF B R M nx run win en b).1.2.2, B, R, M, (noteF B R M nx run win en b).2.1, (noteF B R M nx run win en b).2.2.1, (noteF B R M nx run win en b).2.2.2.1, (noteF B R M nx run win en b).2.2.2.2) := by
  obtain ⟨b1, b2, r1, r2, m1, m2, n1, n2, u1, u2, w1, w2, e1, e2⟩ := hv
  unfold trunnionref22_Note.f noteF
  by_cases h0 : b < 0
  · rw [if_pos h0, if_pos (.inl h0)]
    simp only [trunnionref22_Note.j0, if_true]
  · rw [if_neg h0]
    by_cases h1 : B ≤ b
    · rw [if_pos (.inr h1), show decide (b ≥ B) = true by simpa using h1]
      simp only [trunnionref22_Note.j0, if_true]
    · rw [if_neg (by omega), show decide (b ≥ B) = false by simp; omega]
      simp only [trunnionref22_Note.j0, Bool.false_eq_true, if_false]
      rw [w64 (x := run + 1) (by omega) (by omega), w64 (x := b + 1) (by omega) (by omega)]
      have hr : 1 ≤ (if b = nx then run + 1 else 1) ∧ (if b = nx then run + 1 else 1) ≤ b + 1 + 1 := by split <;> omega
      have hw : 0 ≤ (if b = nx then win else 0) ∧ (if b = nx then win else 0) ≤ 64 := by split <;> omega
      have he : 0 ≤ (if b = nx then en else b + 1) ∧ (if b = nx then en else b + 1) ≤ B := by split <;> omega
      have hj : (if b = nx then trunnionref22_Note.j1 99 b B R M nx (run + 1) win en else trunnionref22_Note.j1 99 b B R M nx 1 0 (b + 1)) = trunnionref22_Note.j1 99 b B R M nx (if b = nx then run + 1 else 1) (if b = nx then win else 0) (if b = nx then en else b + 1) := by split <;> rfl
      rw [hj]
      generalize (if b = nx then run + 1 else 1) = x at *
      generalize (if b = nx then win else 0) = y at *
      generalize (if b = nx then en else b + 1) = z at *
      simp only [trunnionref22_Note.j1]
      rw [w64 (x := b + 1) (by omega) (by omega), Int.tdiv_eq_ediv_of_nonneg (by omega), w64 (x := y / 2) (by omega) (by omega), w64 (x := b + 1 + y / 2) (by omega) (by omega), w64 (x := 2 * y) (by omega) (by omega)]
      by_cases h2 : x < 2
      · rw [if_pos h2, if_pos h2]
      · rw [if_neg h2, if_neg h2]
        by_cases h3 : z - (b + 1) > y / 2
        · rw [if_pos h3, if_pos (by omega)]
        · rw [if_neg h3, if_neg (by omega)]
          have hj2 : (if 2 * y = 0 then trunnionref22_Note.j2 98 2 B R M (b + 1) x y z else trunnionref22_Note.j2 98 (2 * y) B R M (b + 1) x y z) = trunnionref22_Note.j3 97 (if y = 0 then min 2 M else min (2 * y) M) B R M (b + 1) x y z := by
            simp only [trunnionref22_Note.j2]
            by_cases hy : y = 0
            · rw [if_pos (by omega), if_pos hy]
              by_cases hm : 2 > M
              · rw [if_pos hm, show min 2 M = M by omega]
              · rw [if_neg hm, show min 2 M = 2 by omega]
            · rw [if_neg (by omega), if_neg hy]
              by_cases hm : 2 * y > M
              · rw [if_pos hm, show min (2 * y) M = M by omega]
              · rw [if_neg hm, show min (2 * y) M = 2 * y by omega]
          rw [hj2]
          have hv2 : 0 ≤ (if y = 0 then min 2 M else min (2 * y) M) ∧ (if y = 0 then min 2 M else min (2 * y) M) ≤ 64 := by split <;> omega
          generalize (if y = 0 then min 2 M else min (2 * y) M) = v at *
          have hj3 : trunnionref22_Note.j3 97 v B R M (b + 1) x y z = trunnionref22_Note.l0 95 (max z (b + 1)) (b + 1 + v) B R M (b + 1) x v z := by
            simp only [trunnionref22_Note.j3, trunnionref22_Note.j4]
            rw [w64 (x := b + 1 + v) (by omega) (by omega)]
            by_cases hz : z < b + 1
            · rw [if_pos hz, show max z (b + 1) = b + 1 by omega]
            · rw [if_neg hz, show max z (b + 1) = z by omega]
          have hb := cl_bd (R := R) (x := b + 1 + v) r1
          rw [hj3, rl0 r1 (cl R (b + 1 + v) - (b + 1 + v)).toNat 95 (b + 1 + v) (by omega) (by omega) (by omega) (by omega)]
          unfold outF cl
          split <;> rfl
abbrev IsR := IsS45
theorem rnoteB {B R M nx run win en : Int} (b : Int) (hv : Valid B R M nx run win en) (g : Nat) (w0 w : World) (hI : IsR w0 w g B R M nx run win en) (hB : Below w0.heap.size w0 w) :
    Calls Tryd.prog 15 #[.pointer (some ⟨g, 0, none⟩), .int .i64 b] w fun e w' => e = .returned (.tuple #[.int .i64 (noteF B R M nx run win en b).1.1, .int .i64 (noteF B R M nx run win en b).1.2.1, .bool (noteF B R M nx run win en b).1.2.2]) ∧
      IsR w0 w' g B R M (noteF B R M nx run win en b).2.1 (noteF B R M nx run win en b).2.2.1 (noteF B R M nx run win en b).2.2.2.1 (noteF B R M nx run win en b).2.2.2.2 ∧ Below w0.heap.size w0 w' ∧ KeepBut w w' g none :=
  trunnionref22_Note.calls 100 g _ _ _ _ _ _ _ b _ _ _ _ _ _ _ _ _ _ w0 w hI hB (rnote_f hv b)
set_option maxHeartbeats 2000000 in
set_option maxRecDepth 100000 in
theorem rnew_err (B R M : Int) (w : World) (h : ¬ okN B R M) : Calls Tryd.prog 12 #[.int .i64 B, .int .i64 R, .int .i64 M] w fun e w' => e = .returned (.tuple #[.pointer none, .int .i64 2]) ∧ Below w.heap.size w w' := by
  unfold okN at h
  have hc : (B < 1) ∨ (1 ≤ B ∧ 1099511627776 < B) ∨ (1 ≤ B ∧ B ≤ 1099511627776 ∧ R < 1) ∨ (1 ≤ B ∧ B ≤ 1099511627776 ∧ 1 ≤ R ∧ 32 < R) ∨ (1 ≤ B ∧ B ≤ 1099511627776 ∧ 1 ≤ R ∧ R ≤ 32 ∧ M < 1) ∨ (1 ≤ B ∧ B ≤ 1099511627776 ∧ 1 ≤ R ∧ R ≤ 32 ∧ 1 ≤ M ∧ 64 < M) := by omega
  clear h
  rcases hc with h | ⟨h1, h2⟩ | ⟨h1, h2, h3⟩ | ⟨h1, h2, h3, h4⟩ | ⟨h1, h2, h3, h4, h5⟩ | ⟨h1, h2, h3, h4, h5, h6⟩
  all_goals
    go_enter Tryd.func12, Tryd.ntmps12
    go_wp2_with fail
    go_ret2
    exact ⟨rfl, by go_grown⟩
set_option maxHeartbeats 2000000 in
set_option maxRecDepth 100000 in
theorem rnew_ok (B R M : Int) (w0 w : World) (h : okN B R M) (hB : Below w0.heap.size w0 w) : Calls Tryd.prog 12 #[.int .i64 B, .int .i64 R, .int .i64 M] w fun e w' => ∃ g, e = .returned (.tuple #[.pointer (some ⟨g, 0, none⟩), .int .i64 0]) ∧ w.heap.size ≤ g ∧ IsR w0 w' g B R M (-1) 0 0 0 ∧ Below w.heap.size w w' := by
  obtain ⟨⟨b1, b2⟩, ⟨r1, r2⟩, ⟨m1, m2⟩⟩ := h
  have HB := Lib.hid hB
  clear hB
  go_enter Tryd.func12, Tryd.ntmps12
  go_wp2_with fail
  go_ret2
  exact ⟨_, rfl, by omega, ⟨heap_at _ _ (by simp), by have := HB.out.size; omega⟩, by go_grown⟩
end Go.Proofs.YtfbibiiiepgdaaaDoor
