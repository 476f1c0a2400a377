/- Spans: what the program's list functions give is the document's; the document's small functions. -/
import Derived.Test.YtjgekbakommkmaaBoth
import Derived.Test.YtjgekbakommkmaaTot
set_option linter.unusedVariables false
set_option linter.unusedSimpArgs false
namespace Go.Proofs.Ytjgekbakommkmaa
open Go.RowKit Go.Proofs.YtjgekbakommkmaaW.PrintWords Go.Proofs.YtjgekbakommkmaaW.PrintMore
open PSpansChange Pl
theorem has0_can {l : List Sp} (h : GoodL l) (t : Int) : GoodL (Has0 l t) := ⟨fun s hs => h.ok s ((List.mem_filter.1 hs).1), h.ap.filter _⟩
theorem meetL_spec {l : List Sp} {s : Sp} (hl : GoodL l) (hs : ok1 s = true) : GoodL (meetL l s) ∧ ∀ i, Has (meetL l s) i ↔ Has l i ∧ inS s i := by
  obtain ⟨h1, h2, _⟩ := meetF_spec (Has0 l s.1) s (has0_can hl s.1) hs (fun x hx => by have := (List.mem_filter.1 hx).2; simpa using this)
  refine ⟨h1, fun i => ?_⟩
  unfold meetL
  rw [h2]
  constructor
  · rintro ⟨⟨t, ht, h3⟩, h4⟩; exact ⟨⟨t, (List.mem_filter.1 ht).1, h3⟩, h4⟩
  · rintro ⟨⟨t, ht, h3⟩, h4⟩
    refine ⟨⟨t, List.mem_filter.2 ⟨ht, ?_⟩, h3⟩, h4⟩
    unfold inS at h4
    simp; omega
theorem addF_len (s : Sp) : ∀ (l : List Sp) , (addF l s).length ≤ l.length + 1 := by
  have mid : ∀ (l : List Sp) (s : Sp), (addMid l s).2.length ≤ l.length := by
    intro l
    induction l with
    | nil => intro s; simp [addMid]
    | cons t r ih =>
      intro s
      rw [addMid]
      split
      · have := ih (min s.1 t.1, max s.2 t.2); simp only [List.length_cons]; omega
      · simp
  intro l
  induction l with
  | nil => simp [addF]
  | cons t r ih =>
    rw [addF]
    split
    · simp only [List.length_cons]; omega
    · have := mid (t :: r) s; simp only [List.length_cons] at this ⊢; omega
def changeF (k : Int) (l : List Sp) (s : Sp) : List Sp := if k = 1 then cutF l s else if k = 2 then meetL l s else if k = 3 then gapsF (meetL l s) s else addF l s
theorem hasB_one (s : Sp) (v : Int) : hasB [s] v = true ↔ inS s v := by rw [hasB_iff, has_cons]; exact ⟨fun h => h.elim id (fun h => absurd h (has_nil _)), .inl⟩
theorem has_dec (l : List Sp) (v : Int) : hasB l v = false ↔ ¬ Has l v := by rw [← hasB_iff]; simp
theorem changeF_spec {l : List Sp} {s : Sp} (hl : GoodL l) (hs : ok1 s = true) (k : Int) : GoodL (changeF k l s) ∧ ∀ v, Has (changeF k l s) v ↔ want k (hasB l v) (hasB [s] v) = true := by
  unfold changeF want
  split
  · obtain ⟨h1, h2, _⟩ := cutF_spec l s hl hs
    exact ⟨h1, fun v => by rw [h2, ← hasB_iff, ← hasB_one]; simp⟩
  · split
    · obtain ⟨h1, h2⟩ := meetL_spec hl hs
      exact ⟨h1, fun v => by rw [h2, ← hasB_iff, ← hasB_one]; simp⟩
    · split
      · obtain ⟨h1, h2⟩ := gapsF_spec (meetL l s) s (meetL_ok l s) hs
        exact ⟨h1, fun v => by
          rw [h2, (meetL_spec hl hs).2, ← hasB_iff, ← hasB_one]
          cases hasB l v <;> cases hasB [s] v <;> simp⟩
      · obtain ⟨h1, h2, _⟩ := addF_spec l s hl hs
        exact ⟨h1, fun v => by rw [h2, ← hasB_iff, ← hasB_one]; simp⟩
theorem change_ev {l : List Sp} {s : Sp} (hl : GoodL l) (hs : ok1 s = true) (hlen : l.length ≤ 900) (k : Int) : Ev (fun n => trunnionref08_Both.f n (m31 l) (m31 [s]) k) (m31 (changeF k l s)) := by
  obtain ⟨r, h1, h2, _, h3⟩ := both_ev l [s] k hlen (by simp)
  obtain ⟨h4, h5⟩ := changeF_spec hl hs k
  rw [can_unique h4.can h2 (fun i => by rw [h5, h3])]
  exact h1
/-! ### joined -/
def joinF (l m : List Sp) : List Sp := m.foldl addF l
theorem joinF_spec : ∀ (m l : List Sp), GoodL l → (∀ s ∈ m, ok1 s = true) → GoodL (joinF l m) ∧ (∀ v, Has (joinF l m) v ↔ Has l v ∨ Has m v) ∧ (joinF l m).length ≤ l.length + m.length := by
  intro m
  induction m with
  | nil => intro l hl _; exact ⟨hl, fun v => ⟨.inl, fun h => h.elim id (fun h => absurd h (has_nil _))⟩, by simp [joinF]⟩
  | cons s m ih =>
    intro l hl hm
    obtain ⟨h1, h2, _⟩ := addF_spec l s hl (hm s (by simp))
    obtain ⟨h3, h4, h5⟩ := ih (addF l s) h1 (fun x hx => hm x (by simp [hx]))
    refine ⟨h3, fun v => ?_, ?_⟩
    · show Has (joinF (addF l s) m) v ↔ _
      rw [h4, h2, has_cons, or_assoc]
    · have := addF_len s l
      show (joinF (addF l s) m).length ≤ _
      simp only [List.length_cons]; omega
theorem join_ev {l m : List Sp} (hl : GoodL l) (hm : GoodL m) (h1 : l.length ≤ 900) (h2 : m.length ≤ 900) : Ev (fun n => trunnionref08_Both.f n (m31 l) (m31 m) 0) (m31 (joinF l m)) := by
  obtain ⟨r, h3, h4, _, h5⟩ := both_ev l m 0 h1 h2
  obtain ⟨h6, h7, _⟩ := joinF_spec m l hl hm.ok
  rw [can_unique h6.can h4 (fun i => by rw [h7, h5]; unfold want; simp [hasB_iff])]
  exact h3
/-! ### the lists of the law -/
def putF (b : List Sp) (s : Sp) : List Sp := if ok1 s = true then addF b s else b
def listF (l : List Sp) (whole : Bool) : List Sp := if whole then l.foldl putF [] else l
theorem putAll : ∀ (l b : List Sp), GoodL b → GoodL (l.foldl putF b) ∧ (l.foldl putF b).length ≤ b.length + l.length := by
  intro l
  induction l with
  | nil => intro b hb; exact ⟨hb, by simp⟩
  | cons s l ih =>
    intro b hb
    rw [List.foldl_cons]
    have h1 : GoodL (putF b s) ∧ (putF b s).length ≤ b.length + 1 := by
      unfold putF
      split
      · rename_i h; exact ⟨(addF_spec b s hb h).1, addF_len s b⟩
      · exact ⟨hb, by omega⟩
    obtain ⟨h2, h3⟩ := ih _ h1.1
    exact ⟨h2, by simp only [List.length_cons]; omega⟩
theorem listF_len (l : List Sp) (whole : Bool) : (listF l whole).length ≤ l.length := by
  unfold listF
  cases whole
  · simp
  · have := (putAll l [] GoodL.nil).2; simpa using this
theorem listF_good (l : List Sp) : GoodL (listF l true) := (putAll l [] GoodL.nil).1
/-! ### how many places -/
def tot (l : List Sp) : Int := (l.map fun s => s.2 - s.1).sum
noncomputable def totE (l : List Sp) : Int := if gl l = true then tot l else 0
theorem tot_le : ∀ (l : List Sp), (∀ s ∈ l, ok1 s = true) → 0 ≤ tot l ∧ tot l ≤ l.length * 1099511627776 := by
  intro l
  induction l with
  | nil => intro _; simp [tot]
  | cons s l ih =>
    intro h
    obtain ⟨h1, h2⟩ := ih (fun x hx => h x (by simp [hx]))
    have h3 := (ok1_iff s).1 (h s (by simp))
    have e : tot (s :: l) = (s.2 - s.1) + tot l := by simp [tot]
    rw [e]
    simp only [List.length_cons]
    omega
theorem tot_drop {l : List Sp} {i : Nat} (h : i < l.length) : tot (l.drop i) = ((nth l i).2 - (nth l i).1) + tot (l.drop (i + 1)) := by
  rw [drop_nth h]; simp [tot]
theorem rtot_ev (l : List Sp) (hlen : l.length ≤ 1000) (hg : ∀ s ∈ l, ok1 s = true) : ∀ (d i : Nat) (n : Int), i + d = l.length → 0 ≤ n → n ≤ i * 1099511627776 → Ev (fun k => trunnionref08_Total.l0 k (m31 l) n (i : Int)) (n + tot (l.drop i)) := by
  intro d
  induction d with
  | zero =>
    intro i n hi h0 hn
    rw [List.drop_eq_nil_of_le (by omega)]
    refine Ev.step (f := fun k => some n) (fun k => ?_) (by simp [tot]; exact Ev.now _)
    simp only [trunnionref08_Total.l0, m31_length]
    rw [if_neg (by omega)]
  | succ d ih =>
    intro i n hi h0 hn
    have hk := (ok1_iff _).1 (hg _ (nth_mem (l := l) (i := i) (by omega)))
    rw [tot_drop (by omega)]
    refine Ev.step (f := fun k => trunnionref08_Total.l0 k (m31 l) (n + ((nth l i).2 - (nth l i).1)) ((i + 1 : Nat) : Int)) (fun k => ?_) ?_
    · simp only [trunnionref08_Total.l0, m31_length]
      rw [if_pos (by omega), if_pos (by omega), rd31 _ _ (by omega), w64 (x := (i : Int) + 1) (by omega) (by omega)]
      simp only [Int.toNat_natCast]
      rw [w64 (x := n + (nth l i).2) (by omega) (by omega), w64 (x := n + (nth l i).2 - (nth l i).1) (by omega) (by omega)]
      congr 1
      omega
    · have := ih (i + 1) (n + ((nth l i).2 - (nth l i).1)) (by omega) (by omega) (by simp; omega)
      rwa [show n + ((nth l i).2 - (nth l i).1) + tot (l.drop (i + 1)) = n + ((nth l i).2 - (nth l i).1 + tot (l.drop (i + 1))) by omega] at this
theorem ptot_ev (l : List Sp) (hlen : l.length ≤ 1000) (hg : ∀ s ∈ l, ok1 s = true) : ∀ (d i : Nat) (n : Int), i + d = l.length → 0 ≤ n → n ≤ i * 1099511627776 → Ev (fun k => spans_List_Total.l0 k n (m30 l) (l.length : Int) (i : Int)) (n + tot (l.drop i)) := by
  intro d
  induction d with
  | zero =>
    intro i n hi h0 hn
    rw [List.drop_eq_nil_of_le (by omega)]
    refine Ev.step (f := fun k => some n) (fun k => ?_) (by simp [tot]; exact Ev.now _)
    simp only [spans_List_Total.l0]
    rw [if_neg (by omega)]
  | succ d ih =>
    intro i n hi h0 hn
    have hm := hg _ (nth_mem (l := l) (i := i) (by omega))
    have hk := (ok1_iff _).1 hm
    rw [tot_drop (by omega)]
    refine Ev.step (f := fun k => spans_List_Total.l0 k (n + ((nth l i).2 - (nth l i).1)) (m30 l) (l.length : Int) ((i + 1 : Nat) : Int)) (fun k => ?_) ?_
    · simp only [spans_List_Total.l0, m30_length]
      rw [if_pos (by omega), if_pos (by omega), if_pos (by omega), rd30 _ _ (by omega), w64 (x := (i : Int) + 1) (by omega) (by omega)]
      simp only [Int.toNat_natCast]
      unfold spans_Span_Len.f
      rw [sgood_f (nth l i), Option.bind_some, if_pos hm, Option.bind_some, w64 (x := (nth l i).2 - (nth l i).1) (by omega) (by omega), w64 (by omega) (by omega)]
      rfl
    · have := ih (i + 1) (n + ((nth l i).2 - (nth l i).1)) (by omega) (by omega) (by simp; omega)
      rwa [show n + ((nth l i).2 - (nth l i).1) + tot (l.drop (i + 1)) = n + ((nth l i).2 - (nth l i).1 + tot (l.drop (i + 1))) by omega] at this
/-! ### the document's Good -/
theorem one_f (s : Sp) : trunnionref08_One.f s.1 s.2 = some (ok1 s) := by
  unfold trunnionref08_One.f ok1
  by_cases h1 : 0 ≤ s.1 <;> by_cases h2 : s.1 < s.2 <;> simp [h1, h2]
theorem rgood_l0 (l : List Sp) (hlen : l.length ≤ 1000000) : ∀ (d k i : Nat), i + d = l.length → d < k →
    (GI l i → trunnionref08_Good.l0 k (m31 l) i = some true) ∧ (¬ GI l i → trunnionref08_Good.l0 k (m31 l) i = some false) := by
  intro d
  induction d with
  | zero =>
    intro k i hi hk
    obtain ⟨k, rfl⟩ : ∃ q, k = q + 1 := ⟨k - 1, by omega⟩
    simp only [trunnionref08_Good.l0, m31_length]
    rw [if_neg (by omega)]
    exact ⟨fun _ => rfl, fun h => absurd (fun j h1 h2 => by omega) h⟩
  | succ d ih =>
    intro k i hi hk
    obtain ⟨k, rfl⟩ : ∃ q, k = q + 1 := ⟨k - 1, by omega⟩
    simp only [trunnionref08_Good.l0, m31_length]
    rw [if_pos (show (i : Int) < (l.length : Int) by omega), if_pos (show (0 : Int) ≤ i by omega)]
    rw [rd31 _ _ (show (0 : Int) ≤ i by omega)]
    simp only [Int.toNat_natCast]
    rw [one_f (nth l i), Option.bind_some, w64 (x := (i : Int) + 1) (by omega) (by omega)]
    obtain ⟨ih1, ih2⟩ := ih k (i + 1) (by omega) (by omega)
    rw [show (((i + 1 : Nat)) : Int) = (i : Int) + 1 by omega] at ih1 ih2
    by_cases hok : ok1 (nth l i) = true
    · rw [if_pos hok]
      by_cases h0 : 0 < i
      · rw [if_pos (by omega), w64 (x := (i : Int) - 1) (by omega) (by omega), if_pos (by omega), if_pos (by omega), rd31 _ _ (by omega)]
        simp only [show ((i : Int) - 1).toNat = i - 1 by omega]
        by_cases hap : (nth l (i - 1)).2 < (nth l i).1
        · rw [if_neg (by omega)]
          refine ⟨fun h => ih1 (fun j h1 h2 => h j (by omega) h2), fun h => ih2 (fun h' => h (fun j h1 h2 => ?_))⟩
          by_cases hj : j = i
          · subst hj; exact ⟨hok, fun _ => hap⟩
          · exact h' j (by omega) h2
        · rw [if_pos (by omega)]
          exact ⟨fun h => absurd ((h i (by omega) (by omega)).2 h0) hap, fun _ => rfl⟩
      · rw [if_neg (by omega)]
        refine ⟨fun h => ih1 (fun j h1 h2 => h j (by omega) h2), fun h => ih2 (fun h' => h (fun j h1 h2 => ?_))⟩
        by_cases hj : j = i
        · subst hj; exact ⟨hok, fun h3 => absurd h3 h0⟩
        · exact h' j (by omega) h2
    · rw [if_neg hok]
      exact ⟨fun h => absurd (h i (by omega) (by omega)).1 hok, fun _ => rfl⟩
theorem rgood_ev (l : List Sp) (hlen : l.length ≤ 1000000) : Ev (fun k => trunnionref08_Good.f k (m31 l)) (gl l) := by
  refine ⟨l.length + 1, fun k hk => ?_⟩
  unfold trunnionref08_Good.f
  obtain ⟨h1, h2⟩ := rgood_l0 l hlen l.length k 0 (by omega) (by omega)
  by_cases h : GI l 0
  · rw [(gl_iff l).2 ((gi_iff l).1 h)]; exact h1 h
  · have : gl l = false := by
      cases hg : gl l
      · rfl
      · exact absurd ((gi_iff l).2 ((gl_iff l).1 hg)) h
    rw [this]; exact h2 h
theorem lgood_ev (l : List Sp) (hlen : l.length ≤ 1000000) : Ev (fun k => spans_List_Good.f k (m30 l)) (gl l) :=
  Ev.of (spans_List_Good.mono _) (lgood_f l hlen)
/-! ### the contracts -/
theorem oneB (s : Sp) (w : World) : Calls Try.prog 18 #[.agg #[.int .i64 s.1, .int .i64 s.2]] w fun e w' => e = .returned (.bool (ok1 s)) ∧ Bel w w' :=
  trunnionref08_One.calls s.1 s.2 _ w (one_f s)
theorem rhasB (A : Option Addr) (c : Nat) (l : List Sp) (v : Int) (hlen : l.length ≤ 1000000) (hc : l.length ≤ c) (w : World) (hC : Kd.C k31 w A l.length (m31 l)) :
    Calls Try.prog 21 #[.slice A l.length c, .int .i64 v] w fun e w' => e = .returned (.bool (hasB l v)) ∧ Bel w w' := by
  obtain ⟨k, h⟩ := (has_ev l hlen v).rounds
  have := trunnionref08_Has.calls k A c (m31 l) v (hasB l v) w (by rw [m31_length]; exact hC) (by rw [m31_length]; exact hc) h
  rw [m31_length] at this
  refine this.mono ?_
  rintro e w' ⟨h1, ⟨n, rfl⟩⟩
  exact ⟨h1, Bel.drewN _ _⟩
theorem rgoodB (A : Option Addr) (c : Nat) (l : List Sp) (hlen : l.length ≤ 1000000) (hc : l.length ≤ c) (w : World) (hC : Kd.C k31 w A l.length (m31 l)) :
    Calls Try.prog 20 #[.slice A l.length c] w fun e w' => e = .returned (.bool (gl l)) ∧ Bel w w' := by
  obtain ⟨k, h⟩ := (rgood_ev l hlen).rounds
  have := trunnionref08_Good.calls k A c (m31 l) (gl l) w (by rw [m31_length]; exact hC) (by rw [m31_length]; exact hc) h
  rwa [m31_length] at this
theorem rtotB (A : Option Addr) (c : Nat) (l : List Sp) (hlen : l.length ≤ 1000) (hc : l.length ≤ c) (w : World) (hC : Kd.C k31 w A l.length (m31 l)) :
    Calls Try.prog 25 #[.slice A l.length c] w fun e w' => e = .returned (.int .i64 (totE l)) ∧ Bel w w' := by
  have h : Ev (fun k => trunnionref08_Total.f k (m31 l)) (totE l) := by
    refine Ev.bind (rgood_ev l (by omega)) ?_
    unfold totE
    by_cases hg : gl l = true
    · simp only [if_pos hg]
      have := rtot_ev l hlen ((gl_iff l).1 hg).ok l.length 0 0 (by omega) (by omega) (by omega)
      simpa using this
    · simp only [if_neg hg]; exact Ev.now _
  obtain ⟨k, h⟩ := h.rounds
  have := trunnionref08_Total.calls k A c (m31 l) (totE l) w (by rw [m31_length]; exact hC) (by rw [m31_length]; exact hc) h
  rwa [m31_length] at this
theorem ptotB (A : Option Addr) (c : Nat) (l : List Sp) (hlen : l.length ≤ 1000) (hc : l.length ≤ c) (w : World) (hC : Kd.C k30 w A l.length (m30 l)) :
    Calls Try.prog 24 #[.slice A l.length c] w fun e w' => e = .returned (.int .i64 (totE l)) ∧ Bel w w' := by
  have h : Ev (fun k => spans_List_Total.f k (m30 l)) (totE l) := by
    refine Ev.bind (lgood_ev l (by omega)) ?_
    unfold totE
    by_cases hg : gl l = true
    · simp only [if_pos hg, m30_length]
      have := ptot_ev l hlen ((gl_iff l).1 hg).ok l.length 0 0 (by omega) (by omega) (by omega)
      simpa using this
    · simp only [if_neg hg]; exact Ev.now _
  obtain ⟨k, h⟩ := h.rounds
  have := spans_List_Total.calls k A c (m30 l) (totE l) w (by rw [m30_length]; exact hC) (by rw [m30_length]; exact hc) h
  rwa [m30_length] at this
theorem bothB (A : Option Addr) (c : Nat) (l : List Sp) (A' : Option Addr) (c' : Nat) (m r : List Sp) (kd : Int) (hc : l.length ≤ c) (hc' : m.length ≤ c') (w : World) (hC : Kd.C k31 w A l.length (m31 l)) (hC' : Kd.C k31 w A' m.length (m31 m))
    (h : Ev (fun n => trunnionref08_Both.f n (m31 l) (m31 m) kd) (m31 r)) :
    Calls Try.prog 27 #[.slice A l.length c, .slice A' m.length c', .int .i64 kd] w fun e w' => ∃ v, e = .returned v ∧ Kd.R k31 31 w' w.heap.size (fun _ => True) v (m31 r) ∧ Bel w w' := by
  obtain ⟨k, h⟩ := h.rounds
  have := trunnionref08_Both.calls k A c (m31 l) A' c' (m31 m) kd (m31 r) w (by rw [m31_length]; exact hC) (by rw [m31_length]; exact hc) (by rw [m31_length]; exact hC') (by rw [m31_length]; exact hc') h
  rwa [m31_length, m31_length] at this
theorem changeB (A : Option Addr) (c : Nat) (l : List Sp) (s : Sp) (k : Int) (hlen : l.length ≤ 900) (hc : l.length ≤ c) (w : World) (hC : Kd.C k31 w A l.length (m31 l)) :
    Calls Try.prog 14 #[.slice A l.length c, .agg #[.int .i64 s.1, .int .i64 s.2], .int .i64 k] w fun e w' => ∃ v, e = .returned (.tuple #[v, .int .i64 (mayE l s)]) ∧ Kd.R k31 31 w' w.heap.size (fun _ => True) v (m31 (errV (mayE l s) (changeF k l s))) ∧ Bel w w' := by
  have h : Ev (fun n => trunnionref08_Change.f n (m31 l) s.1 s.2 k) (m31 (errV (mayE l s) (changeF k l s)), mayE l s) := by
    refine Ev.bind (rgood_ev l (by omega)) ?_
    unfold mayE errV
    by_cases hg : gl l = true
    · simp only [if_pos hg]
      rw [one_f s]
      by_cases hs : ok1 s = true
      · simp only [Option.bind_some, if_pos hs, if_true]
        exact Ev.bind (change_ev ((gl_iff l).1 hg) hs hlen k) (Ev.now _)
      · simp only [Option.bind_some, if_neg hs]
        exact Ev.now _
    · simp only [if_neg hg]; exact Ev.now _
  obtain ⟨n, h⟩ := h.rounds
  have := trunnionref08_Change.calls n A c (m31 l) s.1 s.2 k _ _ w (by rw [m31_length]; exact hC) (by rw [m31_length]; exact hc) h
  rwa [m31_length] at this
end Go.Proofs.Ytjgekbakommkmaa
