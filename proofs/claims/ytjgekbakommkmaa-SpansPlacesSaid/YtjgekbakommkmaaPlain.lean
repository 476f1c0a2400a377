/- Spans, plainly: lists of spans that rise and don't touch; what is added, cut, met, left out; their points. -/
import Derived.Test.YtjgekbakommkmaaFind
set_option linter.unusedVariables false
set_option linter.unusedSimpArgs false
namespace Go.Proofs.Ytjgekbakommkmaa
namespace Pl
abbrev Sp := Int × Int
/-- A span that may be. -/
def ok1 (s : Sp) : Bool := decide (0 ≤ s.1) && decide (s.1 < s.2) && decide (s.2 ≤ 1099511627776)
theorem ok1_iff (s : Sp) : ok1 s = true ↔ 0 ≤ s.1 ∧ s.1 < s.2 ∧ s.2 ≤ 1099511627776 := by unfold ok1; simp [and_assoc]
/-- Spans that rise and don't touch. -/
structure Can (l : List Sp) : Prop where
  ne : ∀ s ∈ l, s.1 < s.2
  ap : l.Pairwise (fun a b => a.2 < b.1)
structure GoodL (l : List Sp) : Prop where
  ok : ∀ s ∈ l, ok1 s = true
  ap : l.Pairwise (fun a b => a.2 < b.1)
theorem GoodL.can {l : List Sp} (h : GoodL l) : Can l := ⟨fun s hs => ((ok1_iff s).1 (h.ok s hs)).2.1, h.ap⟩
theorem GoodL.nil : GoodL [] := ⟨by simp, by simp⟩
theorem GoodL.tail {s : Sp} {l : List Sp} (h : GoodL (s :: l)) : GoodL l := ⟨fun x hx => h.ok x (by simp [hx]), (List.pairwise_cons.1 h.ap).2⟩
theorem Can.tail {s : Sp} {l : List Sp} (h : Can (s :: l)) : Can l := ⟨fun x hx => h.ne x (by simp [hx]), (List.pairwise_cons.1 h.ap).2⟩
def Has (l : List Sp) (i : Int) : Prop := ∃ s ∈ l, s.1 ≤ i ∧ i < s.2
def inS (s : Sp) (i : Int) : Prop := s.1 ≤ i ∧ i < s.2
theorem has_nil (i : Int) : ¬ Has [] i := by rintro ⟨s, hs, _⟩; simp at hs
theorem has_cons (s : Sp) (l : List Sp) (i : Int) : Has (s :: l) i ↔ inS s i ∨ Has l i := by
  unfold Has inS
  constructor
  · rintro ⟨t, ht, h⟩
    rcases List.mem_cons.1 ht with rfl | ht
    · exact .inl h
    · exact .inr ⟨t, ht, h⟩
  · rintro (h | ⟨t, ht, h⟩)
    · exact ⟨s, by simp, h⟩
    · exact ⟨t, by simp [ht], h⟩
theorem has_append (l m : List Sp) (i : Int) : Has (l ++ m) i ↔ Has l i ∨ Has m i := by
  unfold Has
  constructor
  · rintro ⟨t, ht, h⟩
    rcases List.mem_append.1 ht with ht | ht
    · exact .inl ⟨t, ht, h⟩
    · exact .inr ⟨t, ht, h⟩
  · rintro (⟨t, ht, h⟩ | ⟨t, ht, h⟩)
    · exact ⟨t, by simp [ht], h⟩
    · exact ⟨t, by simp [ht], h⟩
/-- Two lists that have the same points are one. -/
theorem can_unique : ∀ {l m : List Sp}, Can l → Can m → (∀ i, Has l i ↔ Has m i) → l = m := by
  intro l
  induction l with
  | nil =>
    intro m _ hm h
    cases m with
    | nil => rfl
    | cons b m =>
      have hb := hm.ne b (by simp)
      exact absurd ((h b.1).2 ⟨b, by simp, by omega, hb⟩) (has_nil _)
  | cons a l ih =>
    intro m hl hm h
    cases m with
    | nil =>
      have ha := hl.ne a (by simp)
      exact absurd ((h a.1).1 ⟨a, by simp, by omega, ha⟩) (has_nil _)
    | cons b m =>
      have ha := hl.ne a (by simp)
      have hb := hm.ne b (by simp)
      have hla := (List.pairwise_cons.1 hl.ap).1
      have hmb := (List.pairwise_cons.1 hm.ap).1
      have hlmin : ∀ i, Has (a :: l) i → a.1 ≤ i := by
        rintro i ⟨t, ht, h1, h2⟩
        rcases List.mem_cons.1 ht with rfl | ht
        · exact h1
        · have := hla t ht; omega
      have hmmin : ∀ i, Has (b :: m) i → b.1 ≤ i := by
        rintro i ⟨t, ht, h1, h2⟩
        rcases List.mem_cons.1 ht with rfl | ht
        · exact h1
        · have := hmb t ht; omega
      have e1 : a.1 = b.1 := by
        have h1 := hmmin a.1 ((h a.1).1 ⟨a, by simp, by omega, ha⟩)
        have h2 := hlmin b.1 ((h b.1).2 ⟨b, by simp, by omega, hb⟩)
        omega
      have na : ¬ Has (a :: l) a.2 := by
        rintro ⟨t, ht, h1, h2⟩
        rcases List.mem_cons.1 ht with rfl | ht
        · omega
        · have := hla t ht; omega
      have nb : ¬ Has (b :: m) b.2 := by
        rintro ⟨t, ht, h1, h2⟩
        rcases List.mem_cons.1 ht with rfl | ht
        · omega
        · have := hmb t ht; omega
      have e2 : a.2 = b.2 := by
        by_cases h1 : a.2 < b.2
        · exact absurd ((h a.2).2 ⟨b, by simp, by omega, h1⟩) na
        · by_cases h2 : b.2 < a.2
          · exact absurd ((h b.2).1 ⟨a, by simp, by omega, h2⟩) nb
          · omega
      have eab : a = b := Prod.ext e1 e2
      subst eab
      have htl : ∀ i, Has l i ↔ Has m i := by
        intro i
        constructor
        · rintro ⟨t, ht, h1, h2⟩
          have h3 := hla t ht
          rcases (has_cons a m i).1 ((h i).1 ⟨t, by simp [ht], h1, h2⟩) with h4 | h4
          · unfold inS at h4; omega
          · exact h4
        · rintro ⟨t, ht, h1, h2⟩
          have h3 := hmb t ht
          rcases (has_cons a l i).1 ((h i).2 ⟨t, by simp [ht], h1, h2⟩) with h4 | h4
          · unfold inS at h4; omega
          · exact h4
      rw [ih hl.tail hm.tail htl]
/-! ### what is added -/
def addMid : List Sp → Sp → Sp × List Sp
  | [], s => (s, [])
  | t :: r, s => if t.1 ≤ s.2 ∧ s.1 ≤ t.2 then addMid r (min s.1 t.1, max s.2 t.2) else (s, t :: r)
def addF : List Sp → Sp → List Sp
  | [], s => [s]
  | t :: r, s => if t.2 < s.1 then t :: addF r s else (addMid (t :: r) s).1 :: (addMid (t :: r) s).2
theorem addMid_spec : ∀ (l : List Sp) (s : Sp), GoodL l → ok1 s = true → (∀ x ∈ l, s.1 ≤ x.2) →
    GoodL ((addMid l s).1 :: (addMid l s).2) ∧ (∀ i, Has ((addMid l s).1 :: (addMid l s).2) i ↔ Has l i ∨ inS s i) ∧ (∀ b : Int, b < s.1 → (∀ x ∈ l, b < x.1) → ∀ x ∈ (addMid l s).1 :: (addMid l s).2, b < x.1) := by
  intro l
  induction l with
  | nil =>
    intro s _ hs _
    refine ⟨⟨by simp [addMid, hs], by simp [addMid]⟩, fun i => ?_, fun b hb _ x hx => ?_⟩
    · rw [has_cons]; simp only [addMid]
      exact ⟨fun h => h.elim .inr (fun h => absurd h (has_nil _)), fun h => h.elim (fun h => absurd h (has_nil _)) .inl⟩
    · simp [addMid] at hx; subst hx; exact hb
  | cons t r ih =>
    intro s hl hs hx
    have ht := (ok1_iff t).1 (hl.ok t (by simp))
    have hs' := (ok1_iff s).1 hs
    have hst := hx t (by simp)
    have hap := (List.pairwise_cons.1 hl.ap).1
    by_cases hc : t.1 ≤ s.2 ∧ s.1 ≤ t.2
    · have e : addMid (t :: r) s = addMid r (min s.1 t.1, max s.2 t.2) := by rw [addMid, if_pos hc]
      rw [e]
      have hn : ok1 (min s.1 t.1, max s.2 t.2) = true := (ok1_iff _).2 ⟨by simp only []; omega, by simp only []; omega, by simp only []; omega⟩
      obtain ⟨h1, h2, h3⟩ := ih (min s.1 t.1, max s.2 t.2) hl.tail hn (fun x hx' => by have := hap x hx'; have := ((ok1_iff x).1 (hl.ok x (by simp [hx']))).2.1; simp only []; omega)
      refine ⟨h1, fun i => ?_, fun b hb hbx => h3 b (by have := hbx t (by simp); simp only []; omega) (fun x hx' => hbx x (by simp [hx']))⟩
      rw [h2, has_cons]
      unfold inS
      simp only []
      constructor
      · rintro (h | h)
        · exact .inl (.inr h)
        · by_cases h4 : s.1 ≤ i ∧ i < s.2
          · exact .inr h4
          · exact .inl (.inl (by omega))
      · rintro ((h | h) | h)
        · exact .inr (by omega)
        · exact .inl h
        · exact .inr (by omega)
    · have e : addMid (t :: r) s = (s, t :: r) := by rw [addMid, if_neg hc]
      rw [e]
      refine ⟨⟨fun x hx' => ?_, ?_⟩, fun i => ?_, fun b hb hbx x hx' => ?_⟩
      · rcases List.mem_cons.1 hx' with rfl | hx'
        · exact hs
        · exact hl.ok x hx'
      · refine List.pairwise_cons.2 ⟨fun x hx' => ?_, hl.ap⟩
        show s.2 < x.1
        rcases List.mem_cons.1 hx' with rfl | hx'
        · omega
        · have := hap x hx'; omega
      · rw [has_cons]; exact Or.comm
      · rcases List.mem_cons.1 hx' with rfl | hx'
        · exact hb
        · exact hbx x hx'
theorem addF_spec : ∀ (l : List Sp) (s : Sp), GoodL l → ok1 s = true →
    GoodL (addF l s) ∧ (∀ i, Has (addF l s) i ↔ Has l i ∨ inS s i) ∧ (∀ b : Int, b < s.1 → (∀ x ∈ l, b < x.1) → ∀ x ∈ addF l s, b < x.1) := by
  intro l
  induction l with
  | nil =>
    intro s _ hs
    have := addMid_spec [] s GoodL.nil hs (by simp)
    simpa [addF, addMid] using this
  | cons t r ih =>
    intro s hl hs
    have hap := (List.pairwise_cons.1 hl.ap).1
    by_cases hc : t.2 < s.1
    · have e : addF (t :: r) s = t :: addF r s := by rw [addF, if_pos hc]
      rw [e]
      obtain ⟨h1, h2, h3⟩ := ih s hl.tail hs
      refine ⟨⟨fun x hx => ?_, List.pairwise_cons.2 ⟨h3 t.2 hc hap, h1.ap⟩⟩, fun i => ?_, fun b hb hbx x hx => ?_⟩
      · rcases List.mem_cons.1 hx with rfl | hx
        · exact hl.ok _ (by simp)
        · exact h1.ok x hx
      · rw [has_cons, h2, has_cons]; exact (or_assoc).symm
      · rcases List.mem_cons.1 hx with rfl | hx
        · exact hbx _ (by simp)
        · exact h3 b hb (fun y hy => hbx y (by simp [hy])) x hx
    · have e : addF (t :: r) s = (addMid (t :: r) s).1 :: (addMid (t :: r) s).2 := by rw [addF, if_neg hc]
      rw [e]
      exact addMid_spec (t :: r) s hl hs (fun x hx => by
        rcases List.mem_cons.1 hx with rfl | hx
        · omega
        · have := hap x hx; have := ((ok1_iff x).1 (hl.ok x (by simp [hx]))).2.1; omega)
/-! ### what is cut -/
def opt (s : Sp) : List Sp := if ok1 s = true then [s] else []
def cutF (l : List Sp) (s : Sp) : List Sp := l.flatMap fun t => opt (t.1, min t.2 s.1) ++ opt (max t.1 s.2, t.2)
theorem has_opt (s : Sp) (h0 : 0 ≤ s.1) (h1 : s.2 ≤ 1099511627776) (i : Int) : Has (opt s) i ↔ inS s i := by
  unfold opt
  by_cases h : ok1 s = true
  · rw [if_pos h, has_cons]
    exact ⟨fun h => h.elim id (fun h => absurd h (has_nil _)), .inl⟩
  · rw [if_neg h]
    constructor
    · intro h; exact absurd h (has_nil _)
    · intro hi
      exfalso
      apply h
      rw [ok1_iff]
      unfold inS at hi
      omega
theorem mem_opt {s x : Sp} (h : x ∈ opt s) : x = s ∧ ok1 s = true := by
  unfold opt at h
  split at h
  · rename_i hk
    exact ⟨by simpa using h, hk⟩
  · simp at h
theorem cutF_spec : ∀ (l : List Sp) (s : Sp), GoodL l → ok1 s = true →
    GoodL (cutF l s) ∧ (∀ i, Has (cutF l s) i ↔ Has l i ∧ ¬ inS s i) ∧ (∀ b : Int, (∀ x ∈ l, b < x.1) → ∀ x ∈ cutF l s, b < x.1) := by
  intro l
  induction l with
  | nil =>
    intro s _ _
    refine ⟨GoodL.nil, fun i => ?_, fun b _ x hx => by simp [cutF] at hx⟩
    simp only [cutF, List.flatMap_nil]
    exact ⟨fun h => absurd h (has_nil _), fun h => absurd h.1 (has_nil _)⟩
  | cons t r ih =>
    intro s hl hs
    have ht := (ok1_iff t).1 (hl.ok t (by simp))
    have hs' := (ok1_iff s).1 hs
    have hap := (List.pairwise_cons.1 hl.ap).1
    obtain ⟨h1, h2, h3⟩ := ih s hl.tail hs
    have e : cutF (t :: r) s = (opt (t.1, min t.2 s.1) ++ opt (max t.1 s.2, t.2)) ++ cutF r s := by simp [cutF]
    rw [e]
    refine ⟨⟨fun x hx => ?_, ?_⟩, fun i => ?_, fun b hb x hx => ?_⟩
    · simp only [List.mem_append] at hx
      rcases hx with (hx | hx) | hx
      · obtain ⟨rfl, hk⟩ := mem_opt hx; exact hk
      · obtain ⟨rfl, hk⟩ := mem_opt hx; exact hk
      · exact h1.ok x hx
    · rw [List.pairwise_append, List.pairwise_append]
      refine ⟨⟨?_, ?_, fun x hx y hy => ?_⟩, h1.ap, fun x hx y hy => ?_⟩
      · unfold opt; split <;> simp
      · unfold opt; split <;> simp
      · obtain ⟨rfl, _⟩ := mem_opt hx
        obtain ⟨rfl, _⟩ := mem_opt hy
        simp only []
        omega
      · have hy2 := h3 t.2 hap y hy
        simp only [List.mem_append] at hx
        rcases hx with hx | hx
        · obtain ⟨rfl, _⟩ := mem_opt hx; simp only []; omega
        · obtain ⟨rfl, _⟩ := mem_opt hx; simp only []; omega
    · rw [has_append, has_append, has_opt _ (by simp only []; omega) (by simp only []; omega), has_opt _ (by simp only []; omega) (by simp only []; omega), h2, has_cons]
      unfold inS
      simp only []
      constructor
      · rintro ((h | h) | h)
        · exact ⟨.inl (by omega), by omega⟩
        · exact ⟨.inl (by omega), by omega⟩
        · exact ⟨.inr h.1, h.2⟩
      · rintro ⟨h | h, hn⟩
        · by_cases h4 : i < s.1
          · exact .inl (.inl (by omega))
          · exact .inl (.inr (by omega))
        · exact .inr ⟨h, hn⟩
    · have hb1 := hb t (by simp)
      simp only [List.mem_append] at hx
      rcases hx with (hx | hx) | hx
      · obtain ⟨rfl, _⟩ := mem_opt hx; exact hb1
      · obtain ⟨rfl, _⟩ := mem_opt hx; simp only []; omega
      · exact h3 b (fun y hy => hb y (by simp [hy])) x hx
/-! ### what is met -/
def meet1 (t s : Sp) : Sp := (max t.1 s.1, min t.2 s.2)
def meetF (l : List Sp) (s : Sp) : List Sp := (l.map fun t => meet1 t s).takeWhile ok1
/-- What is met, from the first span on that ends behind the beginning. -/
theorem meetF_spec : ∀ (l : List Sp) (s : Sp), GoodL l → ok1 s = true → (∀ x ∈ l, s.1 < x.2) →
    GoodL (meetF l s) ∧ (∀ i, Has (meetF l s) i ↔ Has l i ∧ inS s i) ∧ (∀ b : Int, (∀ x ∈ l, b < x.1) → ∀ x ∈ meetF l s, b < x.1) := by
  intro l
  induction l with
  | nil =>
    intro s _ _ _
    refine ⟨GoodL.nil, fun i => ?_, fun b _ x hx => by simp [meetF] at hx⟩
    simp only [meetF, List.map_nil, List.takeWhile_nil]
    exact ⟨fun h => absurd h (has_nil _), fun h => absurd h.1 (has_nil _)⟩
  | cons t r ih =>
    intro s hl hs hx
    have ht := (ok1_iff t).1 (hl.ok t (by simp))
    have hs' := (ok1_iff s).1 hs
    have hap := (List.pairwise_cons.1 hl.ap).1
    have hx1 := hx t (by simp)
    obtain ⟨h1, h2, h3⟩ := ih s hl.tail hs (fun x hx' => hx x (by simp [hx']))
    by_cases hc : t.1 < s.2
    · have hk : ok1 (meet1 t s) = true := by rw [ok1_iff]; unfold meet1; simp only []; omega
      have e : meetF (t :: r) s = meet1 t s :: meetF r s := by simp [meetF, List.takeWhile_cons, hk]
      rw [e]
      refine ⟨⟨fun x hx' => ?_, List.pairwise_cons.2 ⟨fun y hy => ?_, h1.ap⟩⟩, fun i => ?_, fun b hb x hx' => ?_⟩
      · rcases List.mem_cons.1 hx' with rfl | hx'
        · exact hk
        · exact h1.ok x hx'
      · have := h3 t.2 hap y hy; unfold meet1; simp only []; omega
      · rw [has_cons, h2, has_cons]
        unfold inS meet1
        simp only []
        constructor
        · rintro (h | h)
          · exact ⟨.inl (by omega), by omega⟩
          · exact ⟨.inr h.1, h.2⟩
        · rintro ⟨h | h, hn⟩
          · exact .inl (by omega)
          · exact .inr ⟨h, hn⟩
      · rcases List.mem_cons.1 hx' with rfl | hx'
        · have := hb t (by simp); unfold meet1; simp only []; omega
        · exact h3 b (fun y hy => hb y (by simp [hy])) x hx'
    · have hk : ok1 (meet1 t s) = false := by
        cases h : ok1 (meet1 t s)
        · rfl
        · rw [ok1_iff] at h; unfold meet1 at h; simp only [] at h; omega
      have e : meetF (t :: r) s = [] := by simp [meetF, List.takeWhile_cons, hk]
      rw [e]
      refine ⟨GoodL.nil, fun i => ⟨fun h => absurd h (has_nil _), ?_⟩, fun b _ x hx' => by simp at hx'⟩
      rintro ⟨⟨x, hx', h5, h6⟩, h7⟩
      exfalso
      unfold inS at h7
      rcases List.mem_cons.1 hx' with rfl | hx'
      · omega
      · have := hap x hx'; omega
def gapsF (hv : List Sp) (s : Sp) : List Sp := hv.foldl cutF [s]
theorem gapsF_spec (hv : List Sp) (s : Sp) (hg : ∀ x ∈ hv, ok1 x = true) (hs : ok1 s = true) : GoodL (gapsF hv s) ∧ ∀ i, Has (gapsF hv s) i ↔ inS s i ∧ ¬ Has hv i := by
  have key : ∀ (hv out : List Sp), (∀ x ∈ hv, ok1 x = true) → GoodL out → GoodL (hv.foldl cutF out) ∧ ∀ i, Has (hv.foldl cutF out) i ↔ Has out i ∧ ¬ Has hv i := by
    intro hv
    induction hv with
    | nil => intro out _ ho; exact ⟨ho, fun i => ⟨fun h => ⟨h, has_nil _⟩, fun h => h.1⟩⟩
    | cons t r ih =>
      intro out hg ho
      obtain ⟨c1, c2, _⟩ := cutF_spec out t ho (hg t (by simp))
      obtain ⟨h1, h2⟩ := ih (cutF out t) (fun x hx => hg x (by simp [hx])) c1
      refine ⟨h1, fun i => ?_⟩
      rw [List.foldl_cons, h2, c2, has_cons]
      constructor
      · rintro ⟨⟨h3, h4⟩, h5⟩; exact ⟨h3, fun h => h.elim h4 h5⟩
      · rintro ⟨h3, h4⟩; exact ⟨⟨h3, fun h => h4 (.inl h)⟩, fun h => h4 (.inr h)⟩
  obtain ⟨h1, h2⟩ := key hv [s] hg ⟨by simp [hs], by simp⟩
  refine ⟨h1, fun i => ?_⟩
  unfold gapsF
  rw [h2, has_cons]
  constructor
  · rintro ⟨h | h, hn⟩
    · exact ⟨h, hn⟩
    · exact absurd h (has_nil _)
  · rintro ⟨h, hn⟩; exact ⟨.inl h, hn⟩
end Pl
end Go.Proofs.Ytjgekbakommkmaa
