/- Spans: the document's answer, plainly: the ends, sorted, each once; the list of the places wanted. -/
import Derived.Test.YtjgekbakommkmaaSame
set_option linter.unusedVariables false
set_option linter.unusedSimpArgs false
namespace Go.Proofs.Ytjgekbakommkmaa
open Go.RowKit Go.Proofs.YtjgekbakommkmaaW.PrintWords Go.Proofs.YtjgekbakommkmaaW.PrintMore
open PSpansChange Pl
def pts (l : List Sp) : List Int := l.flatMap fun s => [s.1, s.2]
theorem pts_len (l : List Sp) : (pts l).length = 2 * l.length := by
  unfold pts; induction l with
  | nil => rfl
  | cons a l ih => simp [List.flatMap_cons] at ih ⊢; omega
theorem pts_cons (s : Sp) (l : List Sp) : pts (s :: l) = s.1 :: s.2 :: pts l := rfl
theorem drop_nth {l : List Sp} {i : Nat} (h : i < l.length) : l.drop i = nth l i :: l.drop (i + 1) := by
  rw [List.drop_eq_getElem_cons h]
  congr 1
  unfold nth
  rw [List.getD_eq_getElem?_getD, List.getElem?_eq_getElem h]; rfl
theorem ends_l1 (M : List Sp) (hM : M.length ≤ 1000) (r : List Int) : ∀ (d i : Nat) (x : List Int), i + d = M.length → x.length + 2 * d ≤ 4000 → Ev (fun k => trunnionref08_ends.l2 k (x ++ pts (M.drop i)) 1) r →
    Ev (fun k => trunnionref08_ends.l1 k (m31 M) x (i : Int)) r := by
  intro d
  induction d with
  | zero =>
    intro i x hi hx h
    refine Ev.step (f := fun k => trunnionref08_ends.l2 k x 1) (fun k => ?_) ?_
    · simp only [trunnionref08_ends.l1, m31_length]
      rw [if_neg (by omega)]
    · have e : M.drop i = [] := List.drop_eq_nil_of_le (by omega)
      rw [e] at h
      simpa [pts] using h
  | succ d ih =>
    intro i x hi hx h
    refine Ev.step (f := fun k => trunnionref08_ends.l1 k (m31 M) ((x ++ [(nth M i).1]) ++ [(nth M i).2]) ((i + 1 : Nat) : Int)) (fun k => ?_) ?_
    · simp only [trunnionref08_ends.l1, m31_length]
      rw [if_pos (by omega), if_pos (by omega), if_pos (by omega), Option.bind_some, if_pos (by simp; omega), w64 (x := (i : Int) + 1) (by omega) (by omega), rd31 _ _ (by omega)]
      simp
    · refine ih (i + 1) _ (by omega) (by simp; omega) ?_
      rw [drop_nth (by omega), pts_cons] at h
      simpa using h
theorem ends_l0 (L M : List Sp) (hL : L.length ≤ 1000) (hM : M.length ≤ 1000) (r : List Int) : ∀ (d i : Nat) (x : List Int), i + d = L.length → x.length + 2 * d + 2 * M.length ≤ 4000 → Ev (fun k => trunnionref08_ends.l2 k (x ++ pts (L.drop i) ++ pts M) 1) r →
    Ev (fun k => trunnionref08_ends.l0 k (m31 L) (m31 M) x (i : Int)) r := by
  intro d
  induction d with
  | zero =>
    intro i x hi hx h
    refine Ev.step (f := fun k => trunnionref08_ends.l1 k (m31 M) x ((0 : Nat) : Int)) (fun k => ?_) ?_
    · simp only [trunnionref08_ends.l0, m31_length]
      rw [if_neg (by omega)]
      rfl
    · have e : L.drop i = [] := List.drop_eq_nil_of_le (by omega)
      rw [e] at h
      refine ends_l1 M hM r M.length 0 x (by omega) (by omega) ?_
      simpa [pts] using h
  | succ d ih =>
    intro i x hi hx h
    refine Ev.step (f := fun k => trunnionref08_ends.l0 k (m31 L) (m31 M) ((x ++ [(nth L i).1]) ++ [(nth L i).2]) ((i + 1 : Nat) : Int)) (fun k => ?_) ?_
    · simp only [trunnionref08_ends.l0, m31_length]
      rw [if_pos (by omega), if_pos (by omega), if_pos (by omega), Option.bind_some, if_pos (by simp; omega), w64 (x := (i : Int) + 1) (by omega) (by omega), rd31 _ _ (by omega)]
      simp
    · refine ih (i + 1) _ (by omega) (by simp; omega) ?_
      rw [drop_nth (by omega), pts_cons] at h
      simpa using h
/-! ### sorting -/
def gx (x : List Int) (a : Nat) : Int := x.getD a 0
theorem rd_gx (x : List Int) (i : Int) : rd x i = gx x i.toNat := rfl
def Mm (x : List Int) (v : Int) : Prop := ∃ a, a < x.length ∧ gx x a = v
theorem mm_iff (x : List Int) (v : Int) : Mm x v ↔ v ∈ x := by
  unfold Mm gx
  constructor
  · rintro ⟨a, ha, rfl⟩
    rw [List.getD_eq_getElem?_getD, List.getElem?_eq_getElem ha]
    exact List.getElem_mem ha
  · intro h
    obtain ⟨a, ha, rfl⟩ := List.getElem_of_mem h
    exact ⟨a, ha, by rw [List.getD_eq_getElem?_getD, List.getElem?_eq_getElem ha]; rfl⟩
theorem gx_set (x : List Int) (j : Nat) (v : Int) (a : Nat) (hj : j < x.length) : gx (x.set j v) a = if a = j then v else gx x a := by
  unfold gx
  rw [List.getD_eq_getElem?_getD, List.getD_eq_getElem?_getD, List.getElem?_set]
  by_cases h : a = j
  · subst h; simp [hj]
  · rw [if_neg (fun e => h e.symm), if_neg h]
def swp (x : List Int) (j : Nat) : List Int := (x.set j (gx x (j - 1))).set (j - 1) (gx x j)
theorem swp_len (x : List Int) (j : Nat) : (swp x j).length = x.length := by simp [swp]
theorem gx_swp (x : List Int) (j : Nat) (hj : j < x.length) (h0 : 0 < j) (a : Nat) : gx (swp x j) a = if a = j - 1 then gx x j else if a = j then gx x (j - 1) else gx x a := by
  unfold swp
  rw [gx_set _ _ _ _ (by simp; omega)]
  by_cases h : a = j - 1
  · rw [if_pos h, if_pos h]
  · rw [if_neg h, if_neg h, gx_set _ _ _ _ hj]
theorem mm_swp (x : List Int) (j : Nat) (hj : j < x.length) (h0 : 0 < j) (v : Int) : Mm (swp x j) v ↔ Mm x v := by
  unfold Mm
  rw [swp_len]
  constructor
  · rintro ⟨a, ha, h⟩
    rw [gx_swp x j hj h0] at h
    split at h
    · exact ⟨j, hj, h⟩
    · split at h
      · exact ⟨j - 1, by omega, h⟩
      · exact ⟨a, ha, h⟩
  · rintro ⟨a, ha, h⟩
    by_cases h1 : a = j
    · exact ⟨j - 1, by omega, by rw [gx_swp x j hj h0, if_pos rfl, ← h1]; exact h⟩
    · by_cases h2 : a = j - 1
      · exact ⟨j, hj, by rw [gx_swp x j hj h0, if_neg (by omega), if_pos rfl, ← h2]; exact h⟩
      · exact ⟨a, ha, by rw [gx_swp x j hj h0, if_neg h2, if_neg h1]; exact h⟩
def Srt (x : List Int) (i : Nat) : Prop := ∀ a b, a < b → b < i → gx x a ≤ gx x b
/-- x[j] is under way among the places up to i. -/
def Mid (x : List Int) (i j : Nat) : Prop := (∀ a b, a < b → b ≤ i → a ≠ j → b ≠ j → gx x a ≤ gx x b) ∧ ∀ b, j < b → b ≤ i → gx x j ≤ gx x b
theorem mid_swp {x : List Int} {i j : Nat} (hi : i < x.length) (hj : j ≤ i) (h0 : 0 < j) (h : Mid x i j) (hlt : gx x j < gx x (j - 1)) : Mid (swp x j) i (j - 1) := by
  obtain ⟨h1, h2⟩ := h
  have hjl : j < x.length := by omega
  refine ⟨fun a b hab hb ha hb' => ?_, fun b hb1 hb2 => ?_⟩
  · rw [gx_swp x j hjl h0, gx_swp x j hjl h0, if_neg ha, if_neg hb']
    by_cases e1 : a = j
    · rw [if_pos e1, if_neg (by omega)]
      exact h1 (j - 1) b (by omega) hb (by omega) (by omega)
    · rw [if_neg e1]
      by_cases e2 : b = j
      · rw [if_pos e2]
        exact h1 a (j - 1) (by omega) (by omega) e1 (by omega)
      · rw [if_neg e2]
        exact h1 a b hab hb e1 e2
  · rw [gx_swp x j hjl h0, gx_swp x j hjl h0, if_pos rfl, if_neg (by omega)]
    by_cases e2 : b = j
    · rw [if_pos e2]; omega
    · rw [if_neg e2]
      exact h2 b (by omega) hb2
theorem mid_done {x : List Int} {i j : Nat} (hj : j ≤ i) (h : Mid x i j) (hd : 0 < j → gx x (j - 1) ≤ gx x j) : Srt x (i + 1) := by
  obtain ⟨h1, h2⟩ := h
  intro a b hab hb
  by_cases e1 : a = j
  · subst e1; exact h2 b hab (by omega)
  · by_cases e2 : b = j
    · subst e2
      by_cases e3 : a = b - 1
      · subst e3; exact hd (by omega)
      · have := h1 a (b - 1) (by omega) (by omega) e1 (by omega)
        have := hd (by omega)
        omega
    · exact h1 a b hab (by omega) e1 e2
def EvP {α : Type} (g : Nat → Option α) (P : α → Prop) : Prop := ∃ r, Ev g r ∧ P r
theorem EvP.step {α : Type} {g f : Nat → Option α} {P : α → Prop} (h : ∀ k, g (k + 1) = f k) (k : EvP f P) : EvP g P := by
  obtain ⟨r, h1, h2⟩ := k
  exact ⟨r, Ev.step h h1, h2⟩
/-- What sorting needs of what comes behind it. -/
def Aft (x0 : List Int) (P : List Int → Prop) : Prop := ∀ x : List Int, x.length = x0.length → (∀ v, Mm x v ↔ Mm x0 v) → Srt x x.length → EvP (fun k => trunnionref08_ends.l4 k x ([] : List Int) 0) P

theorem ends_l3 {x0 : List Int} (hn : x0.length ≤ 4000) {P : List Int → Prop} (i : Nat) (hi : i < x0.length)
    (next : ∀ x : List Int, x.length = x0.length → (∀ v, Mm x v ↔ Mm x0 v) → Srt x (i + 1) → EvP (fun k => trunnionref08_ends.l2 k x ((i + 1 : Nat) : Int)) P) :
    ∀ (j : Nat) (x : List Int), j ≤ i → x.length = x0.length → (∀ v, Mm x v ↔ Mm x0 v) → Mid x i j → EvP (fun k => trunnionref08_ends.l3 k x (i : Int) (j : Int)) P := by
  intro j
  induction j with
  | zero =>
    intro x hj hl hm h
    refine EvP.step (f := fun k => trunnionref08_ends.l2 k x ((i + 1 : Nat) : Int)) (fun k => ?_) (next x hl hm (mid_done hj h (by omega)))
    simp only [trunnionref08_ends.l3]
    rw [if_neg (by omega), w64 (x := (i : Int) + 1) (by omega) (by omega)]
    rfl
  | succ j ih =>
    intro x hj hl hm h
    have ew : wrap64 (((j + 1 : Nat) : Int) - 1) = (j : Int) := by rw [w64 (by omega) (by omega)]; omega
    by_cases hlt : gx x (j + 1) < gx x j
    · refine EvP.step (f := fun k => trunnionref08_ends.l3 k (swp x (j + 1)) (i : Int) (j : Int)) (fun k => ?_) ?_
      · simp only [trunnionref08_ends.l3]
        rw [ew, if_pos (by omega), if_pos (by omega), if_pos (by omega), if_pos (by omega), if_pos (by omega), rd_gx, rd_gx]
        simp only [Int.toNat_natCast]
        rw [if_pos hlt]
        rfl
      · exact ih _ (by omega) (by rw [swp_len, hl]) (fun v => (mm_swp x (j + 1) (by omega) (by omega) v).trans (hm v)) (mid_swp (by omega) hj (by omega) h hlt)
    · refine EvP.step (f := fun k => trunnionref08_ends.l2 k x ((i + 1 : Nat) : Int)) (fun k => ?_) (next x hl hm (mid_done hj h (fun _ => by simp; omega)))
      simp only [trunnionref08_ends.l3]
      rw [ew, if_pos (by omega), if_pos (by omega), if_pos (by omega), if_pos (by omega), if_pos (by omega), rd_gx, rd_gx]
      simp only [Int.toNat_natCast]
      rw [if_neg hlt, w64 (x := (i : Int) + 1) (by omega) (by omega)]
      rfl
theorem ends_l2 {x0 : List Int} (hn : x0.length ≤ 4000) {P : List Int → Prop} (aft : Aft x0 P) :
    ∀ (d i : Nat) (x : List Int), i + d = max 1 x0.length → 0 < i → x.length = x0.length → (∀ v, Mm x v ↔ Mm x0 v) → Srt x i → EvP (fun k => trunnionref08_ends.l2 k x (i : Int)) P := by
  intro d
  induction d with
  | zero =>
    intro i x hi h0 hl hm h
    refine EvP.step (f := fun k => trunnionref08_ends.l4 k x ([] : List Int) 0) (fun k => ?_) (aft x hl hm (fun a b h1 h2 => h a b h1 (by omega)))
    simp only [trunnionref08_ends.l2]
    rw [if_neg (by omega)]
  | succ d ih =>
    intro i x hi h0 hl hm h
    refine EvP.step (f := fun k => trunnionref08_ends.l3 k x (i : Int) (i : Int)) (fun k => ?_) ?_
    · simp only [trunnionref08_ends.l2]
      rw [if_pos (by omega)]
    · exact ends_l3 hn i (by omega) (fun x' h1 h2 h3 => ih (i + 1) x' (by omega) (by omega) h1 h2 h3) i x (by omega) hl hm ⟨fun a b hab hb ha hb' => h a b hab (by omega), fun b h1 h2 => by omega⟩
/-! ### each once -/
/-- What the ends are: rising, and those of the list. -/
structure Ends (E : List Int) (x : List Int) : Prop where
  up : E.Pairwise (fun a b => a < b)
  mem : ∀ v, v ∈ E ↔ v ∈ x
theorem ends_l4 {x : List Int} (hn : x.length ≤ 4000) (hs : Srt x x.length) :
    ∀ (d i : Nat) (out : List Int), i + d = x.length → out.length ≤ i → out.Pairwise (fun a b => a < b) → (∀ v, v ∈ out ↔ ∃ a, a < i ∧ gx x a = v) →
      ∃ r, Ev (fun k => trunnionref08_ends.l4 k x out (i : Int)) r ∧ Ends r x ∧ r.length ≤ x.length := by
  intro d
  induction d with
  | zero =>
    intro i out hi hl hp hm
    refine ⟨out, Ev.step (f := fun k => some out) (fun k => ?_) (Ev.now out), ⟨hp, fun v => ?_⟩, by omega⟩
    · simp only [trunnionref08_ends.l4]
      rw [if_neg (by omega)]
    · rw [hm, ← mm_iff]; unfold Mm; rw [show i = x.length by omega]
  | succ d ih =>
    intro i out hi hl hp hm
    by_cases h0 : i = 0
    · obtain ⟨r, h1, h2, h3⟩ := ih (i + 1) (out ++ [gx x i]) (by omega) (by simp; omega) (by
        subst h0
        have : out = [] := List.length_eq_zero_iff.1 (by omega)
        subst this; simp) (fun v => by
        subst h0
        have : out = [] := List.length_eq_zero_iff.1 (by omega)
        subst this
        simp only [List.nil_append, List.mem_singleton]
        exact ⟨fun h => ⟨0, by omega, h.symm⟩, fun ⟨a, h1, h2⟩ => by rw [show a = 0 by omega] at h2; exact h2.symm⟩)
      refine ⟨r, Ev.step (f := fun k => trunnionref08_ends.l4 k x (out ++ [gx x i]) ((i + 1 : Nat) : Int)) (fun k => ?_) h1, h2, h3⟩
      simp only [trunnionref08_ends.l4]
      rw [if_pos (by omega), if_pos (by omega), if_pos (by omega), if_pos (by omega), w64 (x := (i : Int) + 1) (by omega) (by omega), rd_gx]
      rfl
    · have ew : wrap64 ((i : Int) - 1) = ((i - 1 : Nat) : Int) := by rw [w64 (by omega) (by omega)]; omega
      by_cases he : gx x i = gx x (i - 1)
      · obtain ⟨r, h1, h2, h3⟩ := ih (i + 1) out (by omega) (by omega) hp (fun v => by
          rw [hm]
          constructor
          · rintro ⟨a, ha, h⟩; exact ⟨a, by omega, h⟩
          · rintro ⟨a, ha, h⟩
            by_cases ha' : a = i
            · exact ⟨i - 1, by omega, by rw [← he, ← ha']; exact h⟩
            · exact ⟨a, by omega, h⟩)
        refine ⟨r, Ev.step (f := fun k => trunnionref08_ends.l4 k x out ((i + 1 : Nat) : Int)) (fun k => ?_) h1, h2, h3⟩
        simp only [trunnionref08_ends.l4]
        rw [ew, if_pos (by omega), if_neg (by omega), if_pos (by omega), if_pos (by omega), if_pos (by omega), w64 (x := (i : Int) + 1) (by omega) (by omega), rd_gx, rd_gx]
        simp only [Int.toNat_natCast]
        rw [if_pos he]
        rfl
      · obtain ⟨r, h1, h2, h3⟩ := ih (i + 1) (out ++ [gx x i]) (by omega) (by simp; omega) (by
          rw [List.pairwise_append]
          refine ⟨hp, by simp, fun a ha b hb => ?_⟩
          rw [List.mem_singleton] at hb
          subst hb
          obtain ⟨c, hc, rfl⟩ := (hm a).1 ha
          have h1 := hs (i - 1) i (by omega) (by omega)
          have h2 : gx x c ≤ gx x (i - 1) := by
            by_cases h : c = i - 1
            · rw [h]; omega
            · exact hs c (i - 1) (by omega) (by omega)
          omega) (fun v => by
          rw [List.mem_append, hm, List.mem_singleton]
          constructor
          · rintro (⟨a, ha, h⟩ | h)
            · exact ⟨a, by omega, h⟩
            · exact ⟨i, by omega, h.symm⟩
          · rintro ⟨a, ha, h⟩
            by_cases ha' : a = i
            · exact .inr (by rw [← ha']; exact h.symm)
            · exact .inl ⟨a, by omega, h⟩)
        refine ⟨r, Ev.step (f := fun k => trunnionref08_ends.l4 k x (out ++ [gx x i]) ((i + 1 : Nat) : Int)) (fun k => ?_) h1, h2, h3⟩
        simp only [trunnionref08_ends.l4]
        rw [ew, if_pos (by omega), if_neg (by omega), if_pos (by omega), if_pos (by omega), if_pos (by omega), w64 (x := (i : Int) + 1) (by omega) (by omega), rd_gx, rd_gx]
        simp only [Int.toNat_natCast]
        rw [if_neg he, if_pos (by omega)]
        rfl
/-- The ends, whatever the lists. -/
theorem ends_ev (L M : List Sp) (hL : L.length ≤ 900) (hM : M.length ≤ 900) : ∃ E, Ev (fun k => trunnionref08_ends.f k (m31 L) (m31 M)) E ∧ Ends E (pts L ++ pts M) ∧ E.length ≤ 3600 := by
  have hx0 : (pts L ++ pts M).length ≤ 3600 := by simp [pts_len]; omega
  have aft : Aft (pts L ++ pts M) (fun r => Ends r (pts L ++ pts M) ∧ r.length ≤ 3600) := by
    intro x h1 h2 h3
    obtain ⟨r, e, ⟨h4, h5⟩, h6⟩ := ends_l4 (by omega) h3 x.length 0 [] (by omega) (by simp) (by simp) (by simp)
    exact ⟨r, e, ⟨h4, fun v => by rw [h5, ← mm_iff, h2, mm_iff]⟩, by omega⟩
  obtain ⟨r, h1, h2, h3⟩ := ends_l2 (by omega) aft (max 1 (pts L ++ pts M).length - 1) 1 (pts L ++ pts M) (by omega) (by omega) rfl (fun v => Iff.rfl) (fun a b h1 h2 => by omega)
  exact ⟨r, ends_l0 L M (by omega) (by omega) r L.length 0 [] (by omega) (by simp; omega) (by simpa using h1), h2, h3⟩
end Go.Proofs.Ytjgekbakommkmaa
