/- Spans: the search for a place; what the calls of spans answer at a list. Turned out of the texts on layer 08. -/
import Derived.Test.YtffegfidaolgjaaPQueueSpansx3
import Derived.Test.YtffegfidaolgjaaPQueueSpansx4
import Derived.Test.YtffegfidaolgjaaQTake2
import Derived.Handy
import Derived.Outline
set_option linter.unusedVariables false
set_option linter.unusedSimpArgs false
namespace Go.Proofs.Ytffegfidaolgjaa.Spn
open Go.RowKit Go.Proofs.YtffegfidaolgjaaW.PrintWords Go.Proofs.YtffegfidaolgjaaW.PrintMore Go.Proofs.Ytffegfidaolgjaa.PQueueSpans
set_option maxHeartbeats 1000000 in
theorem closure (a b t : Int) (h0 : -1 ≤ t) (h1 : t ≤ 1099511627776) (w : World) : Calls Try.prog 47 #[.agg #[.int .i64 a, .int .i64 b], .int .i64 t] w fun e w' => e = .returned (.int .i64 (cmpF b (t + 1))) ∧ Bel w w' := by
  have K := Lib.hid (compare b (t + 1))
  go_enter Try.func47, Try.ntmps47
  go_wp2_with fail
  refine (K.out _).mono ?_
  rintro e w1 ⟨rfl, rfl⟩
  go_wp2_with fail
  go_ret
  exact ⟨rfl, Bel.alloc _ _⟩
/-- Place i parts the spans that end at t or before it from those that end behind it. -/
def FindAt (l : List S78) (t : Int) (i : Nat) : Prop := i ≤ l.length ∧ (∀ j : Nat, j < i → (rd_T78 l j).f1 ≤ t) ∧ (∀ j : Nat, i ≤ j → j < l.length → t < (rd_T78 l j).f1)
def Rising (l : List S78) : Prop := ∀ i j : Nat, i ≤ j → j < l.length → (rd_T78 l i).f1 ≤ (rd_T78 l j).f1
set_option maxHeartbeats 4000000 in
set_option maxRecDepth 100000 in
theorem bsf (A : Option Addr) (c : Nat) (l : List S78) (t : Int) (h0 : -1 ≤ t) (h1 : t ≤ 1099511627776) (hs : Rising l) (hlen : l.length ≤ 1000000) (w : World) (hC : Kd.C k78 w A l.length l) :
    Calls Try.prog 46 #[.slice A l.length c, .int .i64 t, .func (.func 47) #[] #[]] w fun e w' => ∃ (i : Nat) (b : Bool), e = .returned (.tuple #[.int .i64 i, .bool b]) ∧ FindAt l t i ∧ Bel w w' := by
  have K := Lib.hid (fun a b => closure a b t h0 h1)
  have HC := Lib.hid hC
  have HS := Lib.hid hs
  have hll : Hid (l.length = l.length) := Lib.hid rfl
  clear hC hs
  go_enter Try.func46, Try.ntmps46
  go_wp2_with fail
  have hlm : (0 : Int) ≤ l.length := by omega
  go_loopw [9, 10] (fun v9 v10 wr => ∃ (lo hi : Nat), v9 = .int .i64 lo ∧ v10 = .int .i64 hi ∧ lo ≤ hi ∧ hi ≤ l.length ∧ Hid (Bel w wr ∧ (∀ j : Nat, j < lo → (rd_T78 l j).f1 ≤ t) ∧ (∀ j : Nat, hi ≤ j → j < l.length → t < (rd_T78 l j).f1))) (fun v9 v10 _ => (intOf v10 - intOf v9).toNat)
  case atStart => exact ⟨0, l.length, rfl, rfl, by omega, by omega, Lib.hid ⟨Bel.refl _, fun j hj => absurd hj (by omega), fun j h1 h2 => absurd h1 (by omega)⟩⟩
  case round =>
    obtain ⟨wo, rfl⟩ : ∃ wo : World, wo = wr := ⟨_, rfl⟩
    obtain ⟨lo, hi, rfl, rfl, hlh, hin, HI⟩ := hrel
    have hC' := Kd.C_below HC.out HI.out.1
    by_cases hlt : lo < hi
    · obtain ⟨ad, rfl, x0, x1⟩ := at_T78 hC' ((lo + hi) / 2 : Nat) (by omega) (by omega)
      simp only [Int.toNat_natCast] at x0 x1
      have hy1 : Hid (rd_T78 l ((lo + hi) / 2 : Nat) = rd_T78 l ((lo + hi) / 2 : Nat)) := Lib.hid rfl
      generalize hy : rd_T78 l ((lo + hi) / 2 : Nat) = y at x0 x1
      obtain ⟨y0, y1⟩ := y
      simp only [] at x0 x1
      have HY := Lib.hid hy
      clear hy hy1 hC'
      have HCl := Lib.hid (fun wx => K.out y0 y1 wx)
      by_cases hc : y1 ≤ t
      · have hcm : cmpF y1 (t + 1) = -1 := by unfold cmpF; rw [if_pos (by omega)]
        rw [hcm] at HCl
        clear hcm
        go_wp2_with fail
        refine (HCl.out _).mono ?_
        rintro e w' ⟨rfl, hb⟩
        go_wp2_with fail
        have hfin : Hid (Bel w w' ∧ (∀ j : Nat, j < (lo + hi) / 2 + 1 → (rd_T78 l j).f1 ≤ t) ∧ (∀ j : Nat, hi ≤ j → j < l.length → t < (rd_T78 l j).f1)) := Lib.hid ⟨HI.out.1.trans hb, fun j hj => by
          have := HS.out j ((lo + hi) / 2) (by omega) (by omega)
          rw [HY.out] at this
          exact Int.le_trans this hc, HI.out.2.2⟩
        exact ⟨⟨(lo + hi) / 2 + 1, hi, by first | (congr 1; done) | (congr 1; omega), rfl, by omega, by omega, hfin⟩, by simp [intOf]; omega⟩
      · have hcm : 0 ≤ cmpF y1 (t + 1) := by unfold cmpF; rw [if_neg (by omega)]; split <;> omega
        generalize cmpF y1 (t + 1) = q at *
        go_wp2_with fail
        refine (HCl.out _).mono ?_
        rintro e w' ⟨rfl, hb⟩
        go_wp2_with fail
        have hfin : Hid (Bel w w' ∧ (∀ j : Nat, j < lo → (rd_T78 l j).f1 ≤ t) ∧ (∀ j : Nat, (lo + hi) / 2 ≤ j → j < l.length → t < (rd_T78 l j).f1)) := Lib.hid ⟨HI.out.1.trans hb, HI.out.2.1, fun j h1 h2 => by
          have := HS.out ((lo + hi) / 2) j h1 h2
          rw [HY.out] at this
          simp only [] at this
          omega⟩
        exact ⟨⟨lo, (lo + hi) / 2, rfl, by first | (congr 1; done) | (congr 1; omega), by omega, by omega, hfin⟩, by simp [intOf]; omega⟩
    · have hle : hi = lo := by omega
      subst hle
      have hfa : Hid (FindAt l t hi) := Lib.hid ⟨hin, HI.out.2.1, HI.out.2.2⟩
      have hbw := HI.out.1
      by_cases hn : hi < l.length
      · obtain ⟨ad, rfl, x0, x1⟩ := at_T78 hC' (hi : Nat) (by omega) (by omega)
        simp only [Int.toNat_natCast] at x0 x1
        generalize rd_T78 l (hi : Nat) = y at x0 x1
        obtain ⟨y0, y1⟩ := y
        simp only [] at x0 x1
        have HCl := Lib.hid (fun wx => K.out y0 y1 wx)
        generalize cmpF y1 (t + 1) = q at *
        clear hC' HI
        go_wp2_with fail
        refine (HCl.out _).mono ?_
        rintro e w' ⟨rfl, hb⟩
        go_wp2_with fail
        go_ret2
        exact ⟨hi, _, rfl, hfa.out, hbw.trans hb⟩
      · clear hC' HI
        go_wp2_with fail
        go_ret2
        exact ⟨hi, _, rfl, hfa.out, hbw⟩
set_option maxHeartbeats 1000000 in
theorem findB (A : Option Addr) (c : Nat) (l : List S78) (t : Int) (h0 : -1 ≤ t) (h1 : t ≤ 1099511627776) (hs : Rising l) (hlen : l.length ≤ 1000000) (w : World) (hC : Kd.C k78 w A l.length l) :
    Calls Try.prog 39 #[.slice A l.length c, .int .i64 t] w fun e w' => ∃ (i : Nat), e = .returned (.int .i64 i) ∧ FindAt l t i ∧ Bel w w' := by
  have K := Lib.hid (bsf A c l t h0 h1 hs hlen w hC)
  clear hs hC
  go_enter Try.func39, Try.ntmps39
  go_wp2_with fail
  refine K.out.mono ?_
  rintro e w1 ⟨i, b, rfl, hf, hb⟩
  have HF := Lib.hid hf
  clear hf
  go_wp2_with fail
  go_ret
  exact ⟨i, rfl, HF.out, hb⟩
abbrev Sp := Int × Int
/-- A span that may be. -/
def ok1 (s : Sp) : Bool := decide (0 ≤ s.1) && decide (s.1 < s.2) && decide (s.2 ≤ 1099511627776)
theorem ok1_iff (s : Sp) : ok1 s = true ↔ 0 ≤ s.1 ∧ s.1 < s.2 ∧ s.2 ≤ 1099511627776 := by unfold ok1; simp [and_assoc]
structure Can (l : List Sp) : Prop where
  ne : ∀ s ∈ l, s.1 < s.2
  ap : l.Pairwise (fun a b => a.2 < b.1)
structure GoodL (l : List Sp) : Prop where
  ok : ∀ s ∈ l, ok1 s = true
  ap : l.Pairwise (fun a b => a.2 < b.1)
theorem GoodL.can {l : List Sp} (h : GoodL l) : Can l := ⟨fun s hs => ((ok1_iff s).1 (h.ok s hs)).2.1, h.ap⟩
theorem GoodL.nil : GoodL [] := ⟨by simp, by simp⟩
theorem GoodL.tail {s : Sp} {l : List Sp} (h : GoodL (s :: l)) : GoodL l := ⟨fun x hx => h.ok x (by simp [hx]), (List.pairwise_cons.1 h.ap).2⟩
theorem Can.tail {s : Sp} {l : List Sp} (h : Can (s :: l)) : Can l := ⟨fun x hx => h.ne x (by simp [hx]), (List.pairwise_cons.1 h.ap).2⟩
def Has (l : List Sp) (i : Int) : Prop := ∃ s ∈ l, s.1 ≤ i ∧ i < s.2
def inS (s : Sp) (i : Int) : Prop := s.1 ≤ i ∧ i < s.2
theorem has_nil (i : Int) : ¬ Has [] i := by rintro ⟨s, hs, _⟩; simp at hs
theorem has_cons (s : Sp) (l : List Sp) (i : Int) : Has (s :: l) i ↔ inS s i ∨ Has l i := by
  unfold Has inS
  constructor
  · rintro ⟨t, ht, h⟩
    rcases List.mem_cons.1 ht with rfl | ht
    · exact .inl h
    · exact .inr ⟨t, ht, h⟩
  · rintro (h | ⟨t, ht, h⟩)
    · exact ⟨s, by simp, h⟩
    · exact ⟨t, by simp [ht], h⟩
theorem has_append (l m : List Sp) (i : Int) : Has (l ++ m) i ↔ Has l i ∨ Has m i := by
  unfold Has
  constructor
  · rintro ⟨t, ht, h⟩
    rcases List.mem_append.1 ht with ht | ht
    · exact .inl ⟨t, ht, h⟩
    · exact .inr ⟨t, ht, h⟩
  · rintro (⟨t, ht, h⟩ | ⟨t, ht, h⟩)
    · exact ⟨t, by simp [ht], h⟩
    · exact ⟨t, by simp [ht], h⟩
theorem w64 {x : Int} (h1 : -9223372036854775808 ≤ x) (h2 : x ≤ 9223372036854775807) : wrap64 x = x := by unfold wrap64; omega
def m78 (l : List Sp) : List S78 := l.map fun p => ⟨p.1, p.2⟩
@[simp] theorem m78_length (l : List Sp) : (m78 l).length = l.length := by simp [m78]
theorem m78_append (l m : List Sp) : m78 (l ++ m) = m78 l ++ m78 m := by simp [m78]
def nth (l : List Sp) (i : Nat) : Sp := l.getD i (0, 0)
theorem nth_mem {l : List Sp} {i : Nat} (h : i < l.length) : nth l i ∈ l := by
  unfold nth
  rw [List.getD_eq_getElem?_getD, List.getElem?_eq_getElem h]
  exact List.getElem_mem h
theorem rd78 (l : List Sp) (i : Int) (h0 : 0 ≤ i) : rd_T78 (m78 l) i = ⟨(nth l i.toNat).1, (nth l i.toNat).2⟩ := by
  unfold rd_T78 m78 nth
  rw [List.getD_eq_getElem?_getD, List.getD_eq_getElem?_getD, List.getElem?_map]
  cases l[i.toNat]? <;> rfl
theorem at78 {w : World} {A : Option Addr} {n : Nat} {l : List Sp} (h : Kd.C k78 w A n (m78 l)) (i : Nat) (h1 : i < n) : ∃ ad, A = some ad ∧ w.cell? (ad.add (i * 2)) = some (.int .i64 (nth l i).1) ∧ w.cell? ⟨(ad.add (i * 2)).block, (ad.add (i * 2)).off + 1, none⟩ = some (.int .i64 (nth l i).2) := by
  obtain ⟨ad, e, x0, x1⟩ := at_T78 h (i : Int) (by omega) (by omega)
  rw [rd78 _ _ (by omega)] at x0 x1
  exact ⟨ad, e, by simpa using x0, by simpa using x1⟩
/-- The list is good, place by place. -/
def GI (l : List Sp) (i : Nat) : Prop := ∀ j, i ≤ j → j < l.length → ok1 (nth l j) = true ∧ (0 < j → (nth l (j - 1)).2 < (nth l j).1)
theorem nth_zero (a : Sp) (l : List Sp) : nth (a :: l) 0 = a := rfl
theorem nth_succ (a : Sp) (l : List Sp) (i : Nat) : nth (a :: l) (i + 1) = nth l i := by unfold nth; simp
theorem gi_iff (l : List Sp) : GI l 0 ↔ GoodL l := by
  constructor
  · intro h
    have hok : ∀ s ∈ l, ok1 s = true := by
      intro s hs
      obtain ⟨i, hi, rfl⟩ := List.getElem_of_mem hs
      have := (h i (by omega) hi).1
      unfold nth at this
      rwa [List.getD_eq_getElem?_getD, List.getElem?_eq_getElem hi] at this
    refine ⟨hok, ?_⟩
    clear hok
    induction l with
    | nil => simp
    | cons a r ih =>
      have hr : GI r 0 := fun j _ hj => by
        have := h (j + 1) (by omega) (by simp; omega)
        rw [nth_succ] at this
        refine ⟨this.1, fun h0 => ?_⟩
        have h2 := this.2 (by omega)
        rwa [show j + 1 - 1 = (j - 1) + 1 by omega, nth_succ] at h2
      refine List.pairwise_cons.2 ⟨?_, ih hr⟩
      have key : ∀ j, j < r.length → a.2 < (nth r j).1 := by
        intro j
        induction j with
        | zero =>
          intro hj
          have := (h 1 (by omega) (by simp; omega)).2 (by omega)
          simpa [nth_succ, nth_zero] using this
        | succ j ihj =>
          intro hj
          have h1 := ihj (by omega)
          have h2 := (hr (j + 1) (by omega) hj).2 (by omega)
          have h3 := ((ok1_iff _).1 (hr j (by omega) (by omega)).1).2.1
          simp only [Nat.add_sub_cancel] at h2
          omega
      intro x hx
      obtain ⟨i, hi, rfl⟩ := List.getElem_of_mem hx
      have := key i hi
      unfold nth at this
      rwa [List.getD_eq_getElem?_getD, List.getElem?_eq_getElem hi] at this
  · intro h j _ hj
    refine ⟨h.ok _ (nth_mem hj), fun h0 => ?_⟩
    have := List.pairwise_iff_getElem.1 h.ap (j - 1) j (by omega) hj (by omega)
    unfold nth
    rw [List.getD_eq_getElem?_getD, List.getD_eq_getElem?_getD, List.getElem?_eq_getElem hj, List.getElem?_eq_getElem (show j - 1 < l.length by omega)]
    exact this
theorem sgood_f (s : Sp) : spans_Span_Good.f s.1 s.2 = some (ok1 s) := by
  unfold spans_Span_Good.f ok1
  by_cases h1 : 0 ≤ s.1 <;> by_cases h2 : s.1 < s.2 <;> simp [h1, h2]
theorem lgood_l0 (l : List Sp) (hlen : l.length ≤ 1000000) : ∀ (d k i : Nat), i + d = l.length → d < k →
    (GI l i → spans_List_Good.l0 k (m78 l) (m78 l) (l.length : Int) i = some true) ∧ (¬ GI l i → spans_List_Good.l0 k (m78 l) (m78 l) (l.length : Int) i = some false) := by
  intro d
  induction d with
  | zero =>
    intro k i hi hk
    obtain ⟨k, rfl⟩ : ∃ q, k = q + 1 := ⟨k - 1, by omega⟩
    simp only [spans_List_Good.l0]
    rw [if_neg (by omega)]
    exact ⟨fun _ => rfl, fun h => absurd (fun j h1 h2 => by omega) h⟩
  | succ d ih =>
    intro k i hi hk
    obtain ⟨k, rfl⟩ : ∃ q, k = q + 1 := ⟨k - 1, by omega⟩
    simp only [spans_List_Good.l0, m78_length]
    rw [if_pos (show (i : Int) < (l.length : Int) by omega), if_pos (show (0 : Int) ≤ i by omega)]
    try rw [if_pos (show (i : Int) < (l.length : Int) by omega)]
    rw [rd78 _ _ (show (0 : Int) ≤ i by omega)]
    simp only [Int.toNat_natCast]
    rw [sgood_f (nth l i), Option.bind_some, w64 (x := (i : Int) + 1) (by omega) (by omega)]
    obtain ⟨ih1, ih2⟩ := ih k (i + 1) (by omega) (by omega)
    rw [show (((i + 1 : Nat)) : Int) = (i : Int) + 1 by omega] at ih1 ih2
    by_cases hok : ok1 (nth l i) = true
    · rw [if_pos hok]
      by_cases h0 : 0 < i
      · rw [if_pos (by omega), w64 (x := (i : Int) - 1) (by omega) (by omega), if_pos (by omega), if_pos (by omega), rd78 _ _ (by omega)]
        simp only [show ((i : Int) - 1).toNat = i - 1 by omega]
        try rw [if_pos (show (i : Int) - 1 < (l.length : Int) by omega)]
        by_cases hap : (nth l (i - 1)).2 < (nth l i).1
        · rw [if_neg (show ¬ ((nth l (i - 1)).2 ≥ (nth l i).1) by omega)]
          refine ⟨fun h => ih1 (fun j h1 h2 => h j (by omega) h2), fun h => ih2 (fun h' => h (fun j h1 h2 => ?_))⟩
          by_cases hj : j = i
          · subst hj; exact ⟨hok, fun _ => hap⟩
          · exact h' j (by omega) h2
        · rw [if_pos (show (nth l (i - 1)).2 ≥ (nth l i).1 by omega)]
          exact ⟨fun h => absurd ((h i (by omega) (by omega)).2 h0) hap, fun _ => rfl⟩
      · rw [if_neg (by omega)]
        refine ⟨fun h => ih1 (fun j h1 h2 => h j (by omega) h2), fun h => ih2 (fun h' => h (fun j h1 h2 => ?_))⟩
        by_cases hj : j = i
        · subst hj; exact ⟨hok, fun h3 => absurd h3 h0⟩
        · exact h' j (by omega) h2
    · rw [if_neg hok]
      exact ⟨fun h => absurd (h i (by omega) (by omega)).1 hok, fun _ => rfl⟩
open Classical in
noncomputable def gl (l : List Sp) : Bool := decide (GoodL l)
theorem gl_iff (l : List Sp) : gl l = true ↔ GoodL l := by unfold gl; simp
theorem lgood_f (l : List Sp) (hlen : l.length ≤ 1000000) : spans_List_Good.f (l.length + 2) (m78 l) = some (gl l) := by
  unfold spans_List_Good.f
  rw [m78_length]
  obtain ⟨h1, h2⟩ := lgood_l0 l hlen l.length (l.length + 2) 0 (by omega) (by omega)
  by_cases h : GI l 0
  · rw [(gl_iff l).2 ((gi_iff l).1 h)]; exact h1 h
  · have : gl l = false := by
      cases hg : gl l
      · rfl
      · exact absurd ((gi_iff l).2 ((gl_iff l).1 hg)) h
    rw [this]; exact h2 h
theorem lgoodB (A : Option Addr) (c : Nat) (l : List Sp) (hlen : l.length ≤ 1000000) (hc : l.length ≤ c) (w : World) (hC : Kd.C k78 w A l.length (m78 l)) :
    Calls Try.prog 25 #[.slice A l.length c] w fun e w' => e = .returned (.bool (gl l)) ∧ Bel w w' := by
  have := spans_List_Good.calls (l.length + 2) A c (m78 l) (gl l) w (by rw [m78_length]; exact hC) (by rw [m78_length]; exact hc) (lgood_f l hlen)
  rwa [m78_length] at this
def tot (l : List Sp) : Int := (l.map fun s => s.2 - s.1).sum
theorem drop_nth {l : List Sp} {i : Nat} (h : i < l.length) : l.drop i = nth l i :: l.drop (i + 1) := by
  rw [List.drop_eq_getElem_cons h]
  congr 1
  unfold nth; rw [List.getD_eq_getElem?_getD, List.getElem?_eq_getElem h]; rfl
theorem tot_drop {l : List Sp} {i : Nat} (h : i < l.length) : tot (l.drop i) = ((nth l i).2 - (nth l i).1) + tot (l.drop (i + 1)) := by
  rw [drop_nth h]; simp [tot]
theorem ptot_l0 (l : List Sp) (hlen : l.length ≤ 1000) (hg : ∀ s ∈ l, ok1 s = true) : ∀ (d k i : Nat) (n : Int), i + d = l.length → d < k → 0 ≤ n → n ≤ i * 1099511627776 → spans_List_Total.l0 k n (m78 l) (l.length : Int) (i : Int) = some (n + tot (l.drop i)) := by
  intro d
  induction d with
  | zero =>
    intro k i n hi hk h0 hn
    obtain ⟨k, rfl⟩ : ∃ q, k = q + 1 := ⟨k - 1, by omega⟩
    rw [List.drop_eq_nil_of_le (by omega)]
    simp only [spans_List_Total.l0]
    rw [if_neg (by omega)]
    simp [tot]
  | succ d ih =>
    intro k i n hi hk h0 hn
    obtain ⟨k, rfl⟩ : ∃ q, k = q + 1 := ⟨k - 1, by omega⟩
    have hm := hg _ (nth_mem (l := l) (i := i) (by omega))
    have hk2 := (ok1_iff _).1 hm
    rw [tot_drop (by omega)]
    simp only [spans_List_Total.l0, m78_length]
    rw [if_pos (by omega), if_pos (by omega), if_pos (by omega), rd78 _ _ (by omega), w64 (x := (i : Int) + 1) (by omega) (by omega)]
    simp only [Int.toNat_natCast]
    unfold spans_Span_Len.f
    rw [sgood_f (nth l i), Option.bind_some, if_pos hm, Option.bind_some, w64 (x := (nth l i).2 - (nth l i).1) (by omega) (by omega), w64 (by omega) (by omega)]
    have := ih k (i + 1) (n + ((nth l i).2 - (nth l i).1)) (by omega) (by omega) (by omega) (by simp; omega)
    rw [show (((i + 1 : Nat)) : Int) = (i : Int) + 1 by omega] at this
    rw [this]
    congr 1
    omega
theorem ptotB (A : Option Addr) (c : Nat) (l : List Sp) (hlen : l.length ≤ 1000) (hc : l.length ≤ c) (hg : GoodL l) (w : World) (hC : Kd.C k78 w A l.length (m78 l)) :
    Calls Try.prog 26 #[.slice A l.length c] w fun e w' => e = .returned (.int .i64 (tot l)) ∧ Bel w w' := by
  have h : spans_List_Total.f (l.length + 2) (m78 l) = some (tot l) := by
    unfold spans_List_Total.f
    rw [m78_length, lgood_f l (by omega), Option.bind_some, if_pos ((gl_iff l).2 hg)]
    have := ptot_l0 l hlen hg.ok l.length (l.length + 2) 0 0 (by omega) (by omega) (by omega) (by omega)
    simpa using this
  have := spans_List_Total.calls (l.length + 2) A c (m78 l) (tot l) w (by rw [m78_length]; exact hC) (by rw [m78_length]; exact hc) h
  rwa [m78_length] at this
theorem rise_of {l : List Sp} (h : GoodL l) : Rising (m78 l) := by
  intro i j hij hj
  rw [m78_length] at hj
  rw [rd78 _ _ (by omega), rd78 _ _ (by omega)]
  simp only [Int.toNat_natCast]
  by_cases e : i = j
  · subst e; exact Int.le_refl _
  · have h1 := List.pairwise_iff_getElem.1 h.ap i j (by omega) hj (by omega)
    have ei : l[i]'(by omega) = nth l i := by unfold nth; rw [List.getD_eq_getElem?_getD, List.getElem?_eq_getElem (show i < l.length by omega)]; rfl
    have ej : l[j] = nth l j := by unfold nth; rw [List.getD_eq_getElem?_getD, List.getElem?_eq_getElem hj]; rfl
    have h2 := ((ok1_iff _).1 (h.ok _ (nth_mem hj))).2.1
    rw [ei, ej] at h1
    omega
def hasB (L : List Sp) (v : Int) : Bool := L.any fun s => decide (s.1 ≤ v) && decide (v < s.2)
theorem hasB_iff (L : List Sp) (v : Int) : hasB L v = true ↔ Has L v := by
  unfold hasB Has; simp
theorem hasP_iff {l : List Sp} {v : Int} {i : Nat} (hg : GoodL l) (h : FindAt (m78 l) v i) : (i < l.length ∧ (nth l i).1 ≤ v) ↔ hasB l v = true := by
  obtain ⟨h1, h2, h3⟩ := h
  rw [hasB_iff]
  have up := fun (a b : Nat) (hab : a < b) (hb : b < l.length) => List.pairwise_iff_getElem.1 hg.ap a b (by omega) hb hab
  constructor
  · rintro ⟨h4, h5⟩
    have h6 := h3 i (Nat.le_refl _) (by rw [m78_length]; exact h4)
    rw [rd78 _ _ (by omega)] at h6
    exact ⟨_, nth_mem h4, h5, by simpa using h6⟩
  · rintro ⟨t, ht, h4, h5⟩
    obtain ⟨j, hj, rfl⟩ := List.getElem_of_mem ht
    have ej : l[j] = nth l j := by unfold nth; rw [List.getD_eq_getElem?_getD, List.getElem?_eq_getElem hj]; rfl
    have hij : i ≤ j := by
      by_cases h6 : i ≤ j
      · exact h6
      · have := h2 j (by omega)
        rw [rd78 _ _ (by omega)] at this
        simp only [Int.toNat_natCast] at this
        rw [ej] at h5
        omega
    refine ⟨by omega, ?_⟩
    by_cases h6 : i = j
    · subst h6; rw [ej] at h4; exact h4
    · have h7 := up i j (by omega) hj
      have ei : l[i]'(by omega) = nth l i := by unfold nth; rw [List.getD_eq_getElem?_getD, List.getElem?_eq_getElem (show i < l.length by omega)]; rfl
      have h8 := ((ok1_iff _).1 (hg.ok _ (nth_mem (l := l) (i := i) (by omega)))).2.1
      rw [ei] at h7
      omega
theorem hasB_out {l : List Sp} (hg : GoodL l) {v : Int} (h : v < 0 ∨ 1099511627776 ≤ v) : hasB l v = false := by
  rw [← Bool.not_eq_true, hasB_iff]
  rintro ⟨t, ht, h1, h2⟩
  have := (ok1_iff t).1 (hg.ok t ht)
  omega
set_option maxHeartbeats 8000000 in
set_option maxRecDepth 100000 in
theorem phasB (A : Option Addr) (c : Nat) (l : List Sp) (v : Int) (hlen : l.length ≤ 1000000) (hc : l.length ≤ c) (w : World) (hC : Kd.C k78 w A l.length (m78 l)) :
    Calls Try.prog 27 #[.slice A l.length c, .int .i64 v] w fun e w' => e = .returned (.bool (gl l && hasB l v)) ∧ Bel w w' := by
  have KG := Lib.hid (fun w h => lgoodB A c l hlen hc w h)
  have HC := Lib.hid hC
  clear hC
  cases hg : gl l
  · rw [hg] at KG
    simp only [Bool.false_and]
    go_enter Try.func27, Try.ntmps27
    go_wp2_with fail
    refine (KG.out _ HC.out).mono ?_
    rintro e w1 ⟨rfl, hb1⟩
    go_wp2_with fail
    go_ret
    exact ⟨rfl, hb1⟩
  · have hgl := (gl_iff l).1 hg
    rw [hg] at KG
    simp only [Bool.true_and]
    by_cases h0 : v < 0
    · rw [hasB_out hgl (.inl h0)]
      have hd : decide (v < 0) = true := by simpa using h0
      go_enter Try.func27, Try.ntmps27
      go_wp2_with fail
      refine (KG.out _ HC.out).mono ?_
      rintro e w1 ⟨rfl, hb1⟩
      go_wp2_with fail
      go_ret
      exact ⟨rfl, hb1⟩
    · have hd : decide (v < 0) = false := by simpa using h0
      by_cases h1 : 1099511627776 ≤ v
      · rw [hasB_out hgl (.inr h1)]
        have hd1 : decide (1099511627776 ≤ v) = true := by simpa using h1
        have hd2 : decide (v ≥ 1099511627776) = true := by simpa using h1
        go_enter Try.func27, Try.ntmps27
        go_wp2_with fail
        refine (KG.out _ HC.out).mono ?_
        rintro e w1 ⟨rfl, hb1⟩
        go_wp2_with fail
        go_ret
        exact ⟨rfl, hb1⟩
      · have hd1 : decide (1099511627776 ≤ v) = false := by simpa using h1
        have hd2 : decide (v ≥ 1099511627776) = false := by simpa using h1
        have KF := Lib.hid (fun w h => findB A c (m78 l) v (by omega) (by omega) (rise_of hgl) (by rw [m78_length]; exact hlen) w h)
        have KH := Lib.hid (fun i h => hasP_iff (v := v) (i := i) hgl h)
        have hfl : ∀ i, FindAt (m78 l) v i → i ≤ l.length := fun i h => by have := h.1; rwa [m78_length] at this
        simp only [m78_length] at KF
        clear hgl hg
        generalize hasB l v = r at *
        go_enter Try.func27, Try.ntmps27
        go_wp2_with fail
        refine (KG.out _ HC.out).mono ?_
        rintro e w1 ⟨rfl, hb1⟩
        have HB1 := Lib.hid hb1
        clear hb1
        go_wp2_with fail
        refine (KF.out _ (Kd.C_below HC.out HB1.out)).mono ?_
        rintro e w2 ⟨i, rfl, hfi, hb2⟩
        have hk := KH.out i hfi
        have hil := hfl i hfi
        have HB2 := Lib.hid (HB1.out.trans hb2)
        clear hfi hb2 HB1 hfl KH
        by_cases hlt : i < l.length
        · obtain ⟨ad, rfl, y0, y1⟩ := at78 (Kd.C_below HC.out HB2.out) i hlt
          have hlt' : decide ((i : Int) < (l.length : Int)) = true := by simp; omega
          have hr : r = decide ((nth l i).1 ≤ v) := by
            cases hd : decide ((nth l i).1 ≤ v)
            · cases hr : r
              · rfl
              · have := (hk.2 hr).2; simp at hd; omega
            · exact (hk.1 ⟨hlt, by simpa using hd⟩)
          generalize (nth l i).1 = t0 at *
          generalize (nth l i).2 = t1 at *
          clear hk
          subst hr
          go_wp2_with fail
          go_ret
          exact ⟨rfl, HB2.out⟩
        · have hlt' : decide ((i : Int) < (l.length : Int)) = false := by simp; omega
          have hr : r = false := by
            cases hr : r
            · rfl
            · exact absurd (hk.2 hr).1 hlt
          clear hk
          subst hr
          go_wp2_with fail
          go_ret
          exact ⟨rfl, HB2.out⟩
end Go.Proofs.Ytffegfidaolgjaa.Spn
