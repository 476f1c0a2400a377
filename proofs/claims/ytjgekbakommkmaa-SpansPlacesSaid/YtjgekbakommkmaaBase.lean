/- Spans: lists of pairs as rows; may; an append. -/
import Derived.Test.YtjgekbakommkmaaPlain
set_option linter.unusedVariables false
set_option linter.unusedSimpArgs false
namespace Go.Proofs.Ytjgekbakommkmaa
open Go.RowKit Go.Proofs.YtjgekbakommkmaaW.PrintWords Go.Proofs.YtjgekbakommkmaaW.PrintMore
open PSpansChange Pl
theorem w64 {x : Int} (h1 : -9223372036854775808 ≤ x) (h2 : x ≤ 9223372036854775807) : wrap64 x = x := by unfold wrap64; omega
def m30 (l : List Sp) : List S30 := l.map fun p => ⟨p.1, p.2⟩
def m31 (l : List Sp) : List S31 := l.map fun p => ⟨p.1, p.2⟩
@[simp] theorem m30_length (l : List Sp) : (m30 l).length = l.length := by simp [m30]
@[simp] theorem m31_length (l : List Sp) : (m31 l).length = l.length := by simp [m31]
theorem m30_append (l m : List Sp) : m30 (l ++ m) = m30 l ++ m30 m := by simp [m30]
def nth (l : List Sp) (i : Nat) : Sp := l.getD i (0, 0)
theorem nth_mem {l : List Sp} {i : Nat} (h : i < l.length) : nth l i ∈ l := by
  unfold nth
  rw [List.getD_eq_getElem?_getD, List.getElem?_eq_getElem h]
  exact List.getElem_mem h
theorem rd30 (l : List Sp) (i : Int) (h0 : 0 ≤ i) : rd_T30 (m30 l) i = ⟨(nth l i.toNat).1, (nth l i.toNat).2⟩ := by
  unfold rd_T30 m30 nth
  rw [List.getD_eq_getElem?_getD, List.getD_eq_getElem?_getD, List.getElem?_map]
  cases l[i.toNat]? <;> rfl
theorem rd31 (l : List Sp) (i : Int) (h0 : 0 ≤ i) : rd_T31 (m31 l) i = ⟨(nth l i.toNat).1, (nth l i.toNat).2⟩ := by
  unfold rd_T31 m31 nth
  rw [List.getD_eq_getElem?_getD, List.getD_eq_getElem?_getD, List.getElem?_map]
  cases l[i.toNat]? <;> rfl
theorem at30 {w : World} {A : Option Addr} {n : Nat} {l : List Sp} (h : Kd.C k30 w A n (m30 l)) (i : Nat) (h1 : i < n) : ∃ ad, A = some ad ∧ w.cell? (ad.add (i * 2)) = some (.int .i64 (nth l i).1) ∧ w.cell? ⟨(ad.add (i * 2)).block, (ad.add (i * 2)).off + 1, none⟩ = some (.int .i64 (nth l i).2) := by
  obtain ⟨ad, e, x0, x1⟩ := at_T30 h (i : Int) (by omega) (by omega)
  rw [rd30 _ _ (by omega)] at x0 x1
  exact ⟨ad, e, by simpa using x0, by simpa using x1⟩
/-- The list is good, place by place. -/
def GI (l : List Sp) (i : Nat) : Prop := ∀ j, i ≤ j → j < l.length → ok1 (nth l j) = true ∧ (0 < j → (nth l (j - 1)).2 < (nth l j).1)
theorem nth_zero (a : Sp) (l : List Sp) : nth (a :: l) 0 = a := rfl
theorem nth_succ (a : Sp) (l : List Sp) (i : Nat) : nth (a :: l) (i + 1) = nth l i := by unfold nth; simp
theorem gi_iff (l : List Sp) : GI l 0 ↔ GoodL l := by
  constructor
  · intro h
    have hok : ∀ s ∈ l, ok1 s = true := by
      intro s hs
      obtain ⟨i, hi, rfl⟩ := List.getElem_of_mem hs
      have := (h i (by omega) hi).1
      unfold nth at this
      rwa [List.getD_eq_getElem?_getD, List.getElem?_eq_getElem hi] at this
    refine ⟨hok, ?_⟩
    clear hok
    induction l with
    | nil => simp
    | cons a r ih =>
      have hr : GI r 0 := fun j _ hj => by
        have := h (j + 1) (by omega) (by simp; omega)
        rw [nth_succ] at this
        refine ⟨this.1, fun h0 => ?_⟩
        have h2 := this.2 (by omega)
        rwa [show j + 1 - 1 = (j - 1) + 1 by omega, nth_succ] at h2
      refine List.pairwise_cons.2 ⟨?_, ih hr⟩
      have key : ∀ j, j < r.length → a.2 < (nth r j).1 := by
        intro j
        induction j with
        | zero =>
          intro hj
          have := (h 1 (by omega) (by simp; omega)).2 (by omega)
          simpa [nth_succ, nth_zero] using this
        | succ j ihj =>
          intro hj
          have h1 := ihj (by omega)
          have h2 := (hr (j + 1) (by omega) hj).2 (by omega)
          have h3 := ((ok1_iff _).1 (hr j (by omega) (by omega)).1).2.1
          simp only [Nat.add_sub_cancel] at h2
          omega
      intro x hx
      obtain ⟨i, hi, rfl⟩ := List.getElem_of_mem hx
      have := key i hi
      unfold nth at this
      rwa [List.getD_eq_getElem?_getD, List.getElem?_eq_getElem hi] at this
  · intro h j _ hj
    refine ⟨h.ok _ (nth_mem hj), fun h0 => ?_⟩
    have := List.pairwise_iff_getElem.1 h.ap (j - 1) j (by omega) hj (by omega)
    unfold nth
    rw [List.getD_eq_getElem?_getD, List.getD_eq_getElem?_getD, List.getElem?_eq_getElem hj, List.getElem?_eq_getElem (show j - 1 < l.length by omega)]
    exact this
theorem sgood_f (s : Sp) : spans_Span_Good.f s.1 s.2 = some (ok1 s) := by
  unfold spans_Span_Good.f ok1
  by_cases h1 : 0 ≤ s.1 <;> by_cases h2 : s.1 < s.2 <;> simp [h1, h2]
theorem lgood_l0 (l : List Sp) (hlen : l.length ≤ 1000000) : ∀ (d k i : Nat), i + d = l.length → d < k →
    (GI l i → spans_List_Good.l0 k (m30 l) (m30 l) (l.length : Int) i = some true) ∧ (¬ GI l i → spans_List_Good.l0 k (m30 l) (m30 l) (l.length : Int) i = some false) := by
  intro d
  induction d with
  | zero =>
    intro k i hi hk
    obtain ⟨k, rfl⟩ : ∃ q, k = q + 1 := ⟨k - 1, by omega⟩
    simp only [spans_List_Good.l0]
    rw [if_neg (by omega)]
    exact ⟨fun _ => rfl, fun h => absurd (fun j h1 h2 => by omega) h⟩
  | succ d ih =>
    intro k i hi hk
    obtain ⟨k, rfl⟩ : ∃ q, k = q + 1 := ⟨k - 1, by omega⟩
    simp only [spans_List_Good.l0, m30_length]
    rw [if_pos (show (i : Int) < (l.length : Int) by omega), if_pos (show (0 : Int) ≤ i by omega)]
    try rw [if_pos (show (i : Int) < (l.length : Int) by omega)]
    rw [rd30 _ _ (show (0 : Int) ≤ i by omega)]
    simp only [Int.toNat_natCast]
    rw [sgood_f (nth l i), Option.bind_some, w64 (x := (i : Int) + 1) (by omega) (by omega)]
    obtain ⟨ih1, ih2⟩ := ih k (i + 1) (by omega) (by omega)
    rw [show (((i + 1 : Nat)) : Int) = (i : Int) + 1 by omega] at ih1 ih2
    by_cases hok : ok1 (nth l i) = true
    · rw [if_pos hok]
      by_cases h0 : 0 < i
      · rw [if_pos (by omega), w64 (x := (i : Int) - 1) (by omega) (by omega), if_pos (by omega), if_pos (by omega), rd30 _ _ (by omega)]
        simp only [show ((i : Int) - 1).toNat = i - 1 by omega]
        try rw [if_pos (show (i : Int) - 1 < (l.length : Int) by omega)]
        by_cases hap : (nth l (i - 1)).2 < (nth l i).1
        · rw [if_neg (show ¬ ((nth l (i - 1)).2 ≥ (nth l i).1) by omega)]
          refine ⟨fun h => ih1 (fun j h1 h2 => h j (by omega) h2), fun h => ih2 (fun h' => h (fun j h1 h2 => ?_))⟩
          by_cases hj : j = i
          · subst hj; exact ⟨hok, fun _ => hap⟩
          · exact h' j (by omega) h2
        · rw [if_pos (show (nth l (i - 1)).2 ≥ (nth l i).1 by omega)]
          exact ⟨fun h => absurd ((h i (by omega) (by omega)).2 h0) hap, fun _ => rfl⟩
      · rw [if_neg (by omega)]
        refine ⟨fun h => ih1 (fun j h1 h2 => h j (by omega) h2), fun h => ih2 (fun h' => h (fun j h1 h2 => ?_))⟩
        by_cases hj : j = i
        · subst hj; exact ⟨hok, fun h3 => absurd h3 h0⟩
        · exact h' j (by omega) h2
    · rw [if_neg hok]
      exact ⟨fun h => absurd (h i (by omega) (by omega)).1 hok, fun _ => rfl⟩
open Classical in
noncomputable def gl (l : List Sp) : Bool := decide (GoodL l)
theorem gl_iff (l : List Sp) : gl l = true ↔ GoodL l := by unfold gl; simp
theorem lgood_f (l : List Sp) (hlen : l.length ≤ 1000000) : spans_List_Good.f (l.length + 2) (m30 l) = some (gl l) := by
  unfold spans_List_Good.f
  rw [m30_length]
  obtain ⟨h1, h2⟩ := lgood_l0 l hlen l.length (l.length + 2) 0 (by omega) (by omega)
  by_cases h : GI l 0
  · rw [(gl_iff l).2 ((gi_iff l).1 h)]; exact h1 h
  · have : gl l = false := by
      cases hg : gl l
      · rfl
      · exact absurd ((gi_iff l).2 ((gl_iff l).1 hg)) h
    rw [this]; exact h2 h
theorem lgoodB (A : Option Addr) (c : Nat) (l : List Sp) (hlen : l.length ≤ 1000000) (hc : l.length ≤ c) (w : World) (hC : Kd.C k30 w A l.length (m30 l)) :
    Calls Try.prog 23 #[.slice A l.length c] w fun e w' => e = .returned (.bool (gl l)) ∧ Bel w w' := by
  have := spans_List_Good.calls (l.length + 2) A c (m30 l) (gl l) w (by rw [m30_length]; exact hC) (by rw [m30_length]; exact hc) (lgood_f l hlen)
  rwa [m30_length] at this
noncomputable def mayE (l : List Sp) (s : Sp) : Int := if gl l = true then (if ok1 s = true then 0 else 2) else 4
theorem mayB (A : Option Addr) (c : Nat) (l : List Sp) (s : Sp) (hlen : l.length ≤ 1000000) (hc : l.length ≤ c) (w : World) (hC : Kd.C k30 w A l.length (m30 l)) :
    Calls Try.prog 30 #[.slice A l.length c, .agg #[.int .i64 s.1, .int .i64 s.2]] w fun e w' => e = .returned (.int .i64 (mayE l s)) ∧ Bel w w' := by
  have := spans_List_may.calls (l.length + 2) A c (m30 l) s.1 s.2 (mayE l s) w (by rw [m30_length]; exact hC) (by rw [m30_length]; exact hc) (by
    unfold spans_List_may.f mayE
    rw [lgood_f l hlen, Option.bind_some, sgood_f s]
    cases gl l <;> cases ok1 s <;> simp)
  rwa [m30_length] at this
theorem sgoodB (s : Sp) (w : World) : Calls Try.prog 17 #[.agg #[.int .i64 s.1, .int .i64 s.2]] w fun e w' => e = .returned (.bool (ok1 s)) ∧ Bel w w' :=
  spans_Span_Good.calls s.1 s.2 _ w (sgood_f s)
theorem touchesB (t s : Sp) (w : World) : Calls Try.prog 31 #[.agg #[.int .i64 t.1, .int .i64 t.2], .agg #[.int .i64 s.1, .int .i64 s.2]] w fun e w' => e = .returned (.bool (decide (t.1 ≤ s.2) && decide (s.1 ≤ t.2))) ∧ Bel w w' := by
  refine spans_Span_touches.calls t.1 t.2 s.1 s.2 _ w ?_
  unfold spans_Span_touches.f
  by_cases h : t.1 ≤ s.2 <;> simp [h]
theorem meetB (t s : Sp) (w : World) : Calls Try.prog 33 #[.agg #[.int .i64 t.1, .int .i64 t.2], .agg #[.int .i64 s.1, .int .i64 s.2]] w fun e w' => e = .returned (.agg #[.int .i64 (meet1 t s).1, .int .i64 (meet1 t s).2]) ∧ Bel w w' := by
  refine spans_Span_meet.calls t.1 t.2 s.1 s.2 _ _ w ?_
  unfold spans_Span_meet.f meet1 mx mn
  simp
  constructor <;> split <;> omega
theorem info30 : (Try.prog.info? 30).map (fun i => (i.zero, i.size, i.bytes)) = some (some (.agg #[.int .i64 0, .int .i64 0]), 2, 16) := by kernel_rfl
/-- append(out, p) of a span, onto a row of the call's own. -/
theorem app30 {w0 W : World} {ops : Array Oper} {rest : List Oper} {o : Oper} {a : Act} {Q : Exit → Act → World → Prop} (base : Nat) (hgd : o.guard = none) (s x : Operand)
    (ho : o.op = .call { callee := .builtin .append, args := #[s, x], argTypes := #[26, 26] }) (v : Value) (l : List Sp) (p : Sp) (hs : a.eval s = v) (hx : a.eval x = .slice (some ⟨W.heap.size, 0, none⟩) 1 1)
    (HO : Kd.R k30 30 W base (fun _ => True) v (m30 l)) (HB : Below base w0 W) (hbase : base ≤ W.heap.size) (hl : l.length ≤ 4000000)
    (h : ∀ v1 w1, Kd.R k30 30 w1 base (fun _ => True) v1 (m30 (l ++ [p])) → Below base w0 w1 → W.grownBy w1 v.ownBlock → wpList Try.prog ops Q rest (a.put o.dst v1) w1) :
    wpList Try.prog ops Q (o :: rest) a (W.alloc (.cells #[.int .i64 p.1, .int .i64 p.2] 30)) := by
  refine Kd.R_append k30 (w0 := w0) base hgd s x 26 30 (.agg #[.int .i64 0, .int .i64 0]) 16 ho Try.underlying26 info30 rfl (by decide) (by omega) v (m30 l) ⟨p.1, p.2⟩ [.int .i64 p.1, .int .i64 p.2] (fun _ => True) (fun _ => False) hs hx (k30_mkM _ _ _ _) (fun _ hk => hk.elim) (fun _ _ => trivial) HO HB hbase (by rw [m30_length]; omega) ?_
  intro v1 w1 h1 h2 h3 _
  exact h v1 w1 (by rw [m30_append]; exact h1) h2 h3
/-- A store below what is owned. -/
theorem R_old {α : Type} {d : Kd α} {e base : Nat} {w : World} {v : Value} {xs : List α} (h : d.R e w base (fun _ => True) v xs) {p : Addr} (hp : p.block < base) (u : Value) : d.R e (w.setCell p u) base (fun _ => True) v xs :=
  Kd.R_mono (Kd.R_far (Kd.R_mono (Kd.R_bound h) (fun k hk => (hk.2.1 : base ≤ k))) (p := p) (fun k hk => by omega) u) (fun _ _ => trivial)
end Go.Proofs.Ytjgekbakommkmaa
