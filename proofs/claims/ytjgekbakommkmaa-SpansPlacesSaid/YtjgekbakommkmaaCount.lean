/- Spans: how many places: counted one by one. -/
import Derived.Test.YtjgekbakommkmaaRef
set_option linter.unusedVariables false
set_option linter.unusedSimpArgs false
namespace Go.Proofs.Ytjgekbakommkmaa
open Go.RowKit Go.Proofs.YtjgekbakommkmaaW.PrintWords Go.Proofs.YtjgekbakommkmaaW.PrintMore
open PSpansChange Pl
def cntB (p : Nat → Bool) : Nat → Nat
  | 0 => 0
  | n + 1 => cntB p n + (if p n = true then 1 else 0)
theorem cntB_add (p q r : Nat → Bool) (h : ∀ v, p v = (q v || r v)) (d : ∀ v, ¬ (q v = true ∧ r v = true)) : ∀ n, cntB p n = cntB q n + cntB r n := by
  intro n
  induction n with
  | zero => rfl
  | succ n ih =>
    have h1 := h n
    have h2 := d n
    simp only [cntB]
    rw [ih, h1]
    cases hq : q n <;> cases hr : r n <;> simp [hq, hr] at h2 ⊢ <;> omega
theorem cntB_int (a b : Nat) : ∀ n, cntB (fun v => decide (a ≤ v) && decide (v < b)) n = min n b - min n a := by
  intro n
  induction n with
  | zero => simp [cntB]
  | succ n ih =>
    simp only [cntB]
    rw [ih]
    by_cases h1 : a ≤ n <;> by_cases h2 : n < b <;> simp [h1, h2] <;> omega
theorem cntB_none : ∀ n, cntB (fun _ => false) n = 0 := by
  intro n
  induction n with
  | zero => rfl
  | succ n ih => simp [cntB, ih]
theorem cntB_congr (p q : Nat → Bool) (h : ∀ v, p v = q v) (n : Nat) : cntB p n = cntB q n := by rw [show p = q from funext h]
theorem tot_cnt : ∀ (l : List Sp), GoodL l → tot l = (cntB (fun v => hasB l (v : Int)) 1099511627776 : Nat) := by
  intro l
  induction l with
  | nil => intro _; rw [show (fun v : Nat => hasB [] (v : Int)) = fun _ => false from rfl, cntB_none]; rfl
  | cons s l ih =>
    intro h
    have hs := (ok1_iff s).1 (h.ok s (by simp))
    have hap := (List.pairwise_cons.1 h.ap).1
    have e : tot (s :: l) = (s.2 - s.1) + tot l := by simp [tot]
    rw [e, ih h.tail]
    have h1 := cntB_add (fun v => hasB (s :: l) (v : Int)) (fun v => decide (s.1.toNat ≤ v) && decide (v < s.2.toNat)) (fun v => hasB l (v : Int)) (fun v => by
      have e1 : decide (s.1.toNat ≤ v) = decide (s.1 ≤ (v : Int)) := decide_eq_decide.2 (by omega)
      have e2 : decide (v < s.2.toNat) = decide ((v : Int) < s.2) := decide_eq_decide.2 (by omega)
      rw [e1, e2]; rfl) (fun v => by
      rintro ⟨h1, h2⟩
      obtain ⟨t, ht, h3, h4⟩ := (hasB_iff l (v : Int)).1 h2
      have := hap t ht
      simp at h1
      omega) 1099511627776
    rw [h1, cntB_int]
    have e1 : min 1099511627776 s.2.toNat = s.2.toNat := by omega
    have e2 : min 1099511627776 s.1.toNat = s.1.toNat := by omega
    rw [e1, e2]
    omega
/-- Places of a list that is made of two without a place in common. -/
theorem tot_add {m l1 l2 : List Sp} (hm : GoodL m) (h1 : GoodL l1) (h2 : GoodL l2) (h : ∀ v, hasB m v = (hasB l1 v || hasB l2 v)) (d : ∀ v, ¬ (hasB l1 v = true ∧ hasB l2 v = true)) : tot m = tot l1 + tot l2 := by
  rw [tot_cnt m hm, tot_cnt l1 h1, tot_cnt l2 h2, cntB_add (fun v => hasB m (v : Int)) (fun v => hasB l1 (v : Int)) (fun v => hasB l2 (v : Int)) (fun v => h v) (fun v => d v)]
  omega
theorem good_one {x : Sp} (h : ok1 x = true) : GoodL [x] := ⟨by simp [h], by simp⟩
/-- The three sums of the law. -/
theorem tot_law {a : List Sp} {x : Sp} (ha : GoodL a) (hx : ok1 x = true) :
    tot (addF a x) = tot (cutF a x) + (x.2 - x.1) ∧ tot (meetL a x) + tot (gapsF (meetL a x) x) = x.2 - x.1 ∧ tot (cutF a x) + tot (meetL a x) = tot a := by
  obtain ⟨b1, b2, _⟩ := addF_spec a x ha hx
  obtain ⟨c1, c2, _⟩ := cutF_spec a x ha hx
  obtain ⟨d1, d2⟩ := meetL_spec ha hx
  obtain ⟨h1, h2⟩ := gapsF_spec (meetL a x) x (meetL_ok a x) hx
  have ex : tot [x] = x.2 - x.1 := by simp [tot]
  have eb : ∀ v, hasB (addF a x) v = (hasB a v || hasB [x] v) := fun v => by
    rw [Bool.eq_iff_iff, hasB_iff, b2, ← hasB_iff, ← hasB_one]; simp
  have ec : ∀ v, hasB (cutF a x) v = (hasB a v && !hasB [x] v) := fun v => by
    rw [Bool.eq_iff_iff, hasB_iff, c2, ← hasB_iff, ← hasB_one]; simp
  have ed : ∀ v, hasB (meetL a x) v = (hasB a v && hasB [x] v) := fun v => by
    rw [Bool.eq_iff_iff, hasB_iff, d2, ← hasB_iff, ← hasB_one]; simp
  have eh : ∀ v, hasB (gapsF (meetL a x) x) v = (hasB [x] v && !(hasB a v && hasB [x] v)) := fun v => by
    rw [Bool.eq_iff_iff, hasB_iff, h2, ← hasB_one, ← hasB_iff, ed]; cases hasB a v <;> cases hasB [x] v <;> simp
  rw [← ex]
  refine ⟨tot_add b1 c1 (good_one hx) (fun v => ?_) (fun v => ?_), (tot_add (good_one hx) d1 h1 (fun v => ?_) (fun v => ?_)).symm, (tot_add ha c1 d1 (fun v => ?_) (fun v => ?_)).symm⟩
  all_goals simp only [eb, ec, ed, eh]
  all_goals cases hasB a v <;> cases hasB [x] v <;> simp
end Go.Proofs.Ytjgekbakommkmaa
