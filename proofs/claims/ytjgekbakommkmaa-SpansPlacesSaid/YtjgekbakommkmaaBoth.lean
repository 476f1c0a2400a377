/- Spans: the document's lists (Both), plainly: which places they have; they are those of the program. -/
import Derived.Test.YtjgekbakommkmaaBth
set_option linter.unusedVariables false
set_option linter.unusedSimpArgs false
namespace Go.Proofs.Ytjgekbakommkmaa
open Go.RowKit Go.Proofs.YtjgekbakommkmaaW.PrintWords Go.Proofs.YtjgekbakommkmaaW.PrintMore
open PSpansChange Pl
def hasB (L : List Sp) (v : Int) : Bool := L.any fun s => decide (s.1 ≤ v) && decide (v < s.2)
theorem hasB_iff (L : List Sp) (v : Int) : hasB L v = true ↔ Has L v := by
  unfold hasB Has; simp
theorem has_ev0 (L : List Sp) (hL : L.length ≤ 1000000) (v : Int) : ∀ (d i : Nat), i + d = L.length → Ev (fun k => trunnionref08_Has.l0 k (m31 L) v (i : Int)) (hasB (L.drop i) v) := by
  intro d
  induction d with
  | zero =>
    intro i hi
    rw [List.drop_eq_nil_of_le (by omega)]
    refine Ev.step (f := fun k => some false) (fun k => ?_) (Ev.now _)
    simp only [trunnionref08_Has.l0, m31_length]
    rw [if_neg (by omega)]
  | succ d ih =>
    intro i hi
    have e : hasB (L.drop i) v = (decide ((nth L i).1 ≤ v) && decide (v < (nth L i).2) || hasB (L.drop (i + 1)) v) := by
      rw [drop_nth (by omega)]; rfl
    rw [e]
    by_cases h1 : (nth L i).1 ≤ v
    · by_cases h2 : v < (nth L i).2
      · refine Ev.step (f := fun k => some true) (fun k => ?_) (by simp [h1, h2]; exact Ev.now _)
        simp only [trunnionref08_Has.l0, m31_length]
        rw [if_pos (by omega), if_pos (by omega), rd31 _ _ (by omega)]
        simp only [Int.toNat_natCast]
        rw [if_pos h1, if_pos h2]
      · refine Ev.step (f := fun k => trunnionref08_Has.l0 k (m31 L) v ((i + 1 : Nat) : Int)) (fun k => ?_) (by simp [h1, h2]; exact ih (i + 1) (by omega))
        simp only [trunnionref08_Has.l0, m31_length]
        rw [if_pos (by omega), if_pos (by omega), rd31 _ _ (by omega), w64 (x := (i : Int) + 1) (by omega) (by omega)]
        simp only [Int.toNat_natCast]
        rw [if_pos h1, if_neg h2]
        rfl
    · refine Ev.step (f := fun k => trunnionref08_Has.l0 k (m31 L) v ((i + 1 : Nat) : Int)) (fun k => ?_) (by simp [h1]; exact ih (i + 1) (by omega))
      simp only [trunnionref08_Has.l0, m31_length]
      rw [if_pos (by omega), if_pos (by omega), rd31 _ _ (by omega), w64 (x := (i : Int) + 1) (by omega) (by omega)]
      simp only [Int.toNat_natCast]
      rw [if_neg h1]
      rfl
theorem has_ev (L : List Sp) (hL : L.length ≤ 1000000) (v : Int) : Ev (fun k => trunnionref08_Has.f k (m31 L) v) (hasB L v) := by
  have := has_ev0 L hL v L.length 0 (by omega)
  simpa [trunnionref08_Has.f] using this
def want (k : Int) (a b : Bool) : Bool := if k = 1 then a && !b else if k = 2 then a && b else if k = 3 then b && !a else a || b
/-- The list on its way. -/
structure BInv (E : List Int) (W : Int → Bool) (i : Nat) (out : List Sp) : Prop where
  can : Pl.Can out
  has : ∀ v, Has out v ↔ ∃ j, j < i ∧ gx E j ≤ v ∧ v < gx E (j + 1) ∧ W (gx E j) = true
  le : ∀ s ∈ out, s.2 ≤ gx E i
  len : out.length ≤ i
theorem up_gx {E : List Int} (h : E.Pairwise (fun a b => a < b)) {a b : Nat} (hab : a < b) (hb : b < E.length) : gx E a < gx E b := by
  have := List.pairwise_iff_getElem.1 h a b (by omega) hb hab
  unfold gx
  rw [List.getD_eq_getElem?_getD, List.getD_eq_getElem?_getD, List.getElem?_eq_getElem hb, List.getElem?_eq_getElem (show a < E.length by omega)]
  exact this
theorem binv_skip {E : List Int} {W : Int → Bool} {i : Nat} {out : List Sp} (h : E.Pairwise (fun a b => a < b)) (hi : i + 1 < E.length) (hW : W (gx E i) = false) (H : BInv E W i out) : BInv E W (i + 1) out := by
  refine ⟨H.can, fun v => ?_, fun s hs => ?_, by have := H.len; omega⟩
  · rw [H.has]
    constructor
    · rintro ⟨j, h1, h2⟩; exact ⟨j, by omega, h2⟩
    · rintro ⟨j, h1, h2⟩
      refine ⟨j, ?_, h2⟩
      rcases Nat.lt_succ_iff_lt_or_eq.1 h1 with h3 | rfl
      · exact h3
      · rw [hW] at h2; simp at h2
  · have := H.le s hs; have := up_gx h (a := i) (b := i + 1) (by omega) hi; omega
theorem binv_app {E : List Int} {W : Int → Bool} {i : Nat} {out : List Sp} (h : E.Pairwise (fun a b => a < b)) (hi : i + 1 < E.length) (hW : W (gx E i) = true) (H : BInv E W i out)
    (hl : ∀ s ∈ out, s.2 < gx E i) : BInv E W (i + 1) (out ++ [(gx E i, gx E (i + 1))]) := by
  have hu := up_gx h (a := i) (b := i + 1) (by omega) hi
  refine ⟨⟨fun s hs => ?_, ?_⟩, fun v => ?_, fun s hs => ?_, by have := H.len; simp; omega⟩
  · rcases List.mem_append.1 hs with hs | hs
    · exact H.can.ne s hs
    · rw [List.mem_singleton] at hs; subst hs; exact hu
  · rw [List.pairwise_append]
    refine ⟨H.can.ap, by simp, fun a ha b hb => ?_⟩
    rw [List.mem_singleton] at hb; subst hb
    exact hl a ha
  · rw [has_append, H.has, has_cons]
    unfold inS
    constructor
    · rintro (⟨j, h1, h2⟩ | (h1 | h1))
      · exact ⟨j, by omega, h2⟩
      · exact ⟨i, by omega, h1.1, h1.2, hW⟩
      · exact absurd h1 (has_nil _)
    · rintro ⟨j, h1, h2, h3, h4⟩
      rcases Nat.lt_succ_iff_lt_or_eq.1 h1 with h5 | rfl
      · exact .inl ⟨j, h5, h2, h3, h4⟩
      · exact .inr (.inl ⟨h2, h3⟩)
  · rcases List.mem_append.1 hs with hs | hs
    · have := H.le s hs; omega
    · rw [List.mem_singleton] at hs; subst hs; exact Int.le_refl _
theorem binv_last {E : List Int} {W : Int → Bool} {i : Nat} {o : List Sp} {t : Sp} (h : E.Pairwise (fun a b => a < b)) (hi : i + 1 < E.length) (hW : W (gx E i) = true) (H : BInv E W i (o ++ [t]))
    (hl : t.2 = gx E i) : BInv E W (i + 1) (o ++ [(t.1, gx E (i + 1))]) := by
  have hu := up_gx h (a := i) (b := i + 1) (by omega) hi
  have ht := H.can.ne t (by simp)
  have hp := List.pairwise_append.1 H.can.ap
  refine ⟨⟨fun s hs => ?_, ?_⟩, fun v => ?_, fun s hs => ?_, by have := H.len; simp at this ⊢; omega⟩
  · rcases List.mem_append.1 hs with hs | hs
    · exact H.can.ne s (by simp [hs])
    · rw [List.mem_singleton] at hs; subst hs; simp only []; omega
  · rw [List.pairwise_append]
    refine ⟨hp.1, by simp, fun a ha b hb => ?_⟩
    rw [List.mem_singleton] at hb; subst hb
    exact hp.2.2 a ha t (by simp)
  · have hh := H.has v
    rw [has_append, has_cons] at hh
    rw [has_append, has_cons]
    unfold inS at hh ⊢
    simp only []
    constructor
    · rintro (h1 | (h1 | h1))
      · obtain ⟨j, h2, h3⟩ := hh.1 (.inl h1); exact ⟨j, by omega, h3⟩
      · by_cases h2 : v < t.2
        · obtain ⟨j, h2, h3⟩ := hh.1 (.inr (.inl ⟨h1.1, h2⟩)); exact ⟨j, by omega, h3⟩
        · exact ⟨i, by omega, by omega, h1.2, hW⟩
      · exact absurd h1 (has_nil _)
    · rintro ⟨j, h1, h2, h3, h4⟩
      rcases Nat.lt_succ_iff_lt_or_eq.1 h1 with h5 | rfl
      · rcases hh.2 ⟨j, h5, h2, h3, h4⟩ with h6 | h6 | h6
        · exact .inl h6
        · exact .inr (.inl ⟨h6.1, by omega⟩)
        · exact absurd h6 (has_nil _)
      · exact .inr (.inl ⟨by omega, h3⟩)
  · rcases List.mem_append.1 hs with hs | hs
    · have := H.le s (by simp [hs]); omega
    · rw [List.mem_singleton] at hs; subst hs; exact Int.le_refl _
theorem nth_last (o : List Sp) (t : Sp) : nth (o ++ [t]) o.length = t := by unfold nth; simp
theorem both_j2 {E : List Int} {L M : List Sp} {kd : Int} (hE : E.length ≤ 4000) (hu : E.Pairwise (fun a b => a < b)) {W : Int → Bool} {P : List S31 → Prop} {i : Nat} (hi : i + 1 < E.length) {out : List Sp} (H : BInv E W i out)
    (next : ∀ out, BInv E W (i + 1) out → EvP (fun k => trunnionref08_Both.l0 k (m31 L) (m31 M) kd E (m31 out) ((i + 1 : Nat) : Int)) P) :
    EvP (fun k => trunnionref08_Both.j2 k (m31 L) (m31 M) kd E (m31 out) (i : Int) (W (gx E i))) P := by
  have ew : wrap64 ((i : Int) + 1) = ((i + 1 : Nat) : Int) := by rw [w64 (by omega) (by omega)]; rfl
  have hlen := H.len
  cases hW : W (gx E i)
  · refine EvP.step (fun k => ?_) (next out (binv_skip hu hi hW H))
    simp only [trunnionref08_Both.j2]
    rw [if_neg (by simp), ew]
  · rcases List.eq_nil_or_concat out with rfl | ⟨o, t, rfl⟩
    · refine EvP.step (fun k => ?_) (next _ (binv_app hu hi hW H (by simp)))
      simp only [trunnionref08_Both.j2]
      rw [if_pos trivial, ew, if_neg (by simp [m31]), if_pos (by omega), if_pos (by omega), if_pos (by omega), if_pos (by omega), if_pos (by simp [m31]), rd_gx, rd_gx]
      simp only [Int.toNat_natCast]
      rfl
    · rw [List.concat_eq_append] at H hlen ⊢
      have el : wrap64 (((m31 (o ++ [t])).length : Int) - 1) = (o.length : Int) := by
        simp only [m31_length, List.length_append, List.length_singleton] at hlen ⊢
        rw [w64 (by omega) (by omega)]; omega
      have hr : rd_T31 (m31 (o ++ [t])) (o.length : Int) = ⟨t.1, t.2⟩ := by
        rw [rd31 _ _ (by omega), Int.toNat_natCast, nth_last]
      have hlm : ((m31 (o ++ [t])).length : Int) = (o.length : Int) + 1 := by simp
      by_cases hl : t.2 = gx E i
      · refine EvP.step (fun k => ?_) (next _ (binv_last hu hi hW H hl))
        simp only [trunnionref08_Both.j2]
        rw [if_pos trivial, el, hr, ew, hlm, if_pos (by omega), if_pos (by omega), if_pos (by omega), if_pos (by omega), if_pos (by omega), rd_gx, rd_gx]
        simp only [Int.toNat_natCast]
        rw [if_pos hl, if_pos (by omega), if_pos (by omega)]
        congr 1
        simp [m31]
      · refine EvP.step (fun k => ?_) (next _ (binv_app hu hi hW H (fun s hs => ?_)))
        · simp only [trunnionref08_Both.j2]
          rw [if_pos trivial, el, hr, ew, hlm, if_pos (by omega), if_pos (by omega), if_pos (by omega), if_pos (by omega), if_pos (by omega), rd_gx, rd_gx]
          simp only [Int.toNat_natCast]
          rw [if_neg hl, if_pos (by omega), if_pos (by omega), if_pos (by simp at hlen ⊢; omega)]
          congr 1
          simp [m31]
        · rcases List.mem_append.1 hs with hs' | hs'
          · have h1 := (List.pairwise_append.1 H.can.ap).2.2 s hs' t (by simp)
            have h2 := H.can.ne t (by simp)
            have h3 := H.le t (by simp)
            omega
          · rw [List.mem_singleton] at hs'; subst hs'
            have h3 := H.le s (by simp)
            omega
theorem both_l0 {E : List Int} {L M : List Sp} {kd : Int} (hL : L.length ≤ 1000) (hM : M.length ≤ 1000) (hE : E.length ≤ 4000) (hu : E.Pairwise (fun a b => a < b)) {P : List S31 → Prop}
    (done : ∀ out, BInv E (fun v => want kd (hasB L v) (hasB M v)) (E.length - 1) out → P (m31 out)) :
    ∀ (d i : Nat) (out : List Sp), i + d = E.length - 1 → BInv E (fun v => want kd (hasB L v) (hasB M v)) i out → EvP (fun k => trunnionref08_Both.l0 k (m31 L) (m31 M) kd E (m31 out) (i : Int)) P := by
  intro d
  induction d with
  | zero =>
    intro i out hi H
    refine ⟨m31 out, Ev.step (f := fun k => some (m31 out)) (fun k => ?_) (Ev.now _), done out (by rw [show E.length - 1 = i by omega]; exact H)⟩
    simp only [trunnionref08_Both.l0]
    rw [w64 (x := (i : Int) + 1) (by omega) (by omega), if_neg (by omega)]
  | succ d ih =>
    intro i out hi H
    have h2 := both_j2 (L := L) (M := M) (kd := kd) hE hu (P := P) (by omega) H (fun out H => ih (i + 1) out (by omega) H)
    obtain ⟨r, h3, h4⟩ := h2
    refine ⟨r, ?_, h4⟩
    have j1 : ∀ b : Bool, (b = (hasB L (gx E i) || hasB M (gx E i))) → Ev (fun k => trunnionref08_Both.j1 k (m31 L) (m31 M) kd E (m31 out) (i : Int) (hasB L (gx E i)) (hasB M (gx E i)) b) r := by
      intro b hb
      refine Ev.step (fun k => ?_) h3
      simp only [trunnionref08_Both.j1, want]
      split
      · cases hasB L (gx E i) <;> simp
      · split
        · cases hasB L (gx E i) <;> simp
        · split
          · cases hasB M (gx E i) <;> simp
          · rw [hb]
    refine Ev.step (f := fun k => (trunnionref08_Has.f k (m31 L) (gx E i)).bind fun t140 => ((trunnionref08_Has.f k (m31 M) (gx E i)).bind fun t142 => (if t140 = true then (trunnionref08_Both.j1 k (m31 L) (m31 M) kd E (m31 out) (i : Int) t140 t142 true) else (trunnionref08_Both.j1 k (m31 L) (m31 M) kd E (m31 out) (i : Int) t140 t142 t142)))) (fun k => ?_) ?_
    · simp only [trunnionref08_Both.l0]
      rw [w64 (x := (i : Int) + 1) (by omega) (by omega), if_pos (by omega), if_pos (by omega), if_pos (by omega), rd_gx]
      simp only [Int.toNat_natCast]
    · refine Ev.bind (has_ev L (by omega) _) (Ev.bind (has_ev M (by omega) _) ?_)
      cases ha : hasB L (gx E i)
      · have := j1 (hasB M (gx E i)) (by rw [ha]; rfl)
        rw [ha] at this
        simpa using this
      · have := j1 true (by rw [ha]; rfl)
        rw [ha] at this
        simpa using this
/-- The document's list, whatever the lists: it rises, and has just the places that are wanted. -/
theorem both_ev (L M : List Sp) (kd : Int) (hL : L.length ≤ 900) (hM : M.length ≤ 900) :
    ∃ r, Ev (fun k => trunnionref08_Both.f k (m31 L) (m31 M) kd) (m31 r) ∧ Pl.Can r ∧ r.length ≤ 3600 ∧ ∀ v, Has r v ↔ want kd (hasB L v) (hasB M v) = true := by
  obtain ⟨E, h1, ⟨hu, hm⟩, hE⟩ := ends_ev L M hL hM
  obtain ⟨r, h2, r', rfl, h3, h4, h5⟩ := both_l0 (E := E) (L := L) (M := M) (kd := kd) (by omega) (by omega) (by omega) hu (P := fun r => ∃ r', r = m31 r' ∧ Pl.Can r' ∧ r'.length ≤ 3600 ∧ ∀ v, Has r' v ↔ ∃ j, j < E.length - 1 ∧ gx E j ≤ v ∧ v < gx E (j + 1) ∧ want kd (hasB L (gx E j)) (hasB M (gx E j)) = true)
    (fun out H => ⟨out, rfl, H.can, by have := H.len; omega, H.has⟩) (E.length - 1) 0 [] (by omega) ⟨⟨by simp, by simp⟩, fun v => ⟨fun h => absurd h (has_nil _), fun ⟨j, h, _⟩ => by omega⟩, by simp, by simp⟩
  refine ⟨r', Ev.bind h1 (by have e : m31 ([] : List Sp) = [] := rfl; simpa [e] using h2), h3, h4, fun v => ?_⟩
  -- nothing changes between an end and the next
  have same : ∀ (Q : List Sp) (hQ : ∀ x ∈ pts Q, x ∈ E) (j : Nat), j < E.length - 1 → gx E j ≤ v → v < gx E (j + 1) → hasB Q (gx E j) = hasB Q v := by
    intro Q hQ j hj h6 h7
    have step : ∀ x ∈ pts Q, x ≤ v ↔ x ≤ gx E j := by
      intro x hx
      refine ⟨fun h8 => ?_, fun h8 => by omega⟩
      obtain ⟨c, hc, rfl⟩ := (mm_iff E x).2 (hQ x hx)
      by_cases h9 : c ≤ j
      · by_cases h10 : c = j
        · rw [h10]; omega
        · have := up_gx hu (show c < j by omega) (by omega); omega
      · by_cases h10 : c = j + 1
        · rw [h10] at h8; omega
        · have := up_gx hu (show j + 1 < c by omega) hc; omega
    unfold hasB
    have cong : ∀ (f g : Sp → Bool) (Q : List Sp), (∀ s ∈ Q, f s = g s) → Q.any f = Q.any g := by
      intro f g Q
      induction Q with
      | nil => intro _; rfl
      | cons a Q ih => intro h; rw [List.any_cons, List.any_cons, h a (by simp), ih (fun s hs => h s (by simp [hs]))]
    refine cong _ _ Q fun s hs => ?_
    have p1 : s.1 ∈ pts Q := by unfold pts; rw [List.mem_flatMap]; exact ⟨s, hs, by simp⟩
    have p2 : s.2 ∈ pts Q := by unfold pts; rw [List.mem_flatMap]; exact ⟨s, hs, by simp⟩
    have e1 := step _ p1
    have e2 := step _ p2
    have d1 : decide (s.1 ≤ gx E j) = decide (s.1 ≤ v) := decide_eq_decide.2 e1.symm
    have d2 : decide (gx E j < s.2) = decide (v < s.2) := decide_eq_decide.2 (by omega)
    rw [d1, d2]
  have sL := same L (fun x hx => (hm x).2 (by simp [hx]))
  have sM := same M (fun x hx => (hm x).2 (by simp [hx]))
  rw [h5]
  constructor
  · rintro ⟨j, h6, h7, h8, h9⟩
    rwa [sL j h6 h7 h8, sM j h6 h7 h8] at h9
  · intro h6
    -- v lies in a span, so between two ends
    obtain ⟨a, b, ha, hb, hav, hvb⟩ : ∃ a b, Mm E a ∧ Mm E b ∧ a ≤ v ∧ v < b := by
      have fnd : ∀ (Q : List Sp), (∀ x ∈ pts Q, x ∈ E) → hasB Q v = true → ∃ a b, Mm E a ∧ Mm E b ∧ a ≤ v ∧ v < b := by
        intro Q hQ h7
        obtain ⟨s, hs, h8, h9⟩ := (hasB_iff Q v).1 h7
        refine ⟨s.1, s.2, (mm_iff _ _).2 (hQ _ ?_), (mm_iff _ _).2 (hQ _ ?_), h8, h9⟩
        · unfold pts; rw [List.mem_flatMap]; exact ⟨s, hs, by simp⟩
        · unfold pts; rw [List.mem_flatMap]; exact ⟨s, hs, by simp⟩
      cases hl : hasB L v
      · cases hr : hasB M v
        · rw [hl, hr] at h6; unfold want at h6; simp at h6
        · exact fnd M (fun x hx => (hm x).2 (by simp [hx])) hr
      · exact fnd L (fun x hx => (hm x).2 (by simp [hx])) hl
    obtain ⟨a, ha, rfl⟩ := ha
    obtain ⟨b, hb, rfl⟩ := hb
    have fnd : ∀ (d : Nat), a + d < E.length → v < gx E (a + d) → ∃ j, j < E.length - 1 ∧ gx E j ≤ v ∧ v < gx E (j + 1) := by
      intro d
      induction d with
      | zero => intro _ h; rw [Nat.add_zero] at h; omega
      | succ d ih =>
        intro h7 h8
        by_cases h9 : v < gx E (a + d)
        · exact ih (by omega) h9
        · exact ⟨a + d, by omega, by omega, h8⟩
    have hab : a < b := by
      by_cases h7 : a < b
      · exact h7
      · by_cases h8 : a = b
        · rw [h8] at hav; omega
        · have := up_gx hu (show b < a by omega) ha; omega
    obtain ⟨j, h7, h8, h9⟩ := fnd (b - a) (by omega) (by rw [show a + (b - a) = b by omega]; exact hvb)
    exact ⟨j, h7, h8, h9, by rw [sL j h7 h8 h9, sM j h7 h8 h9]; exact h6⟩
end Go.Proofs.Ytjgekbakommkmaa
