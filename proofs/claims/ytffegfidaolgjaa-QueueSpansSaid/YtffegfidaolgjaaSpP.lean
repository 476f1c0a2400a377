/- Queue: the spans of its blocks, plainly. -/
import Derived.Test.YtffegfidaolgjaaSpn
import Derived.Test.YtffegfidaolgjaaORow
import Derived.Test.YtffegfidaolgjaaDr
set_option linter.unusedVariables false
set_option linter.unusedSimpArgs false
namespace Go.Proofs.Ytffegfidaolgjaa
open Go.RowKit Spn Go.Proofs.YtffegfidaolgjaaW.PrintWords Go.Proofs.YtffegfidaolgjaaW.PrintMore Go.Proofs.Ytffegfidaolgjaa.PQueueSpans
def KSp : Enc Sp := ⟨fun p => [.int .i64 p.1, .int .i64 p.2], 2, 78, fun _ => rfl, fun p u hu => by simp at hu; rcases hu with rfl | rfl <;> rfl, by decide, (0, 0)⟩
theorem ksp_nth (l : List Sp) (i : Nat) : KSp.nth l i = Spn.nth l i := rfl
theorem Enc.Row.at0 {α : Type} {K : Enc α} {w : World} {base : Nat} {v : Value} {l : List α} (h : K.Row w base v l) : ∃ A c, v = .slice A l.length c ∧ l.length ≤ c ∧ (0 < l.length → ∃ g, A = some ⟨g, 0, none⟩ ∧ ∀ i, i < l.length → ∀ j u, (K.enc (K.nth l i))[j]? = some u → w.cell? ⟨g, i * K.m + j, none⟩ = some u) := by
  obtain ⟨hl, ⟨rfl, h0⟩ | ⟨g, cap, cur, rfl, hb, hg, hn, hc, hs, hx⟩⟩ := h
  · exact ⟨none, 0, by rw [h0], by omega, fun hi => by omega⟩
  · refine ⟨_, _, rfl, hn, fun _ => ⟨g, rfl, fun i hi j u hu => ?_⟩⟩
    have hj : j < K.m := by have := (List.getElem?_eq_some_iff.1 hu).1; rwa [K.len] at this
    rw [← K.flat_get l i j hi hj, ← hx, List.getElem?_take] at hu
    split at hu
    · rw [blk_cell hg]; simpa using hu
    · simp at hu
theorem kdc {w : World} {base : Nat} {v : Value} {l : List Sp} (h : KSp.Row w base v l) (hl : l.length ≤ 1000000) : ∃ A c, v = .slice A l.length c ∧ l.length ≤ c ∧ Kd.C k78 w A l.length (m78 l) := by
  obtain ⟨A, c, hv, hc, hx⟩ := h.at0
  refine ⟨A, c, hv, hc, by rw [m78_length], by have : maxLen = 9223372036854775807 := rfl; omega, fun h0 => ?_⟩
  obtain ⟨g, rfl, hc⟩ := hx h0
  refine ⟨_, rfl, fun j p hj => ?_⟩
  have hjl : j < l.length := by
    have := (List.getElem?_eq_some_iff.1 hj).1
    rwa [m78_length] at this
  have e : p = ⟨(Spn.nth l j).1, (Spn.nth l j).2⟩ := by
    have := rd78 l (j : Int) (by omega)
    unfold rd_T78 at this
    rw [List.getD_eq_getElem?_getD] at this
    simp only [Int.toNat_natCast] at this
    rw [hj] at this
    exact this
  subst e
  refine ⟨[.int .i64 (Spn.nth l j).1, .int .i64 (Spn.nth l j).2], rfl, k78_mk _ _, fun i u hi => ?_⟩
  have := hc j hjl i u hi
  rw [cells_add, Nat.zero_add]
  exact this
structure SB (rs : List El) (i : Nat) (l : List Sp) : Prop where
  good : GoodL l
  has : ∀ v, Has l v ↔ ∃ j, j < i ∧ (nth rs j).f0 = v
  tot : tot l = i
  len : l.length ≤ i
  last : 0 < l.length → 0 < i ∧ (Spn.nth l (l.length - 1)).2 = (nth rs (i - 1)).f0 + 1
  emp : l.length = 0 → i = 0
theorem sb_zero (rs : List El) : SB rs 0 [] := ⟨GoodL.nil, fun v => ⟨fun h => absurd h (has_nil v), fun ⟨j, h, _⟩ => by omega⟩, rfl, by simp, fun h => by simp at h, fun _ => rfl⟩
theorem split_last {l : List Sp} (h : 0 < l.length) : ∃ init t, l = init ++ [t] := by
  rcases List.eq_nil_or_concat l with rfl | ⟨init, t, rfl⟩
  · simp at h
  · exact ⟨init, t, by simp⟩
theorem last_nth (init : List Sp) (t : Sp) : Spn.nth (init ++ [t]) ((init ++ [t]).length - 1) = t := by
  unfold Spn.nth; rw [List.getD_eq_getElem?_getD]; simp
theorem has_one (t : Sp) (v : Int) : Has [t] v ↔ t.1 ≤ v ∧ v < t.2 := by unfold Has; simp
theorem tot_one (init : List Sp) (t : Sp) : tot (init ++ [t]) = tot init + (t.2 - t.1) := by unfold tot; simp
theorem upto_succ {rs : List El} {i : Nat} {k : Int} (hk : (nth rs i).f0 = k) (v : Int) : (∃ j, j < i + 1 ∧ (nth rs j).f0 = v) ↔ (∃ j, j < i ∧ (nth rs j).f0 = v) ∨ v = k := by
  constructor
  · rintro ⟨j, hj, rfl⟩
    by_cases h : j = i
    · subst h; exact .inr hk
    · exact .inl ⟨j, by omega, rfl⟩
  · rintro (⟨j, hj, h⟩ | rfl)
    · exact ⟨j, by omega, h⟩
    · exact ⟨i, by omega, hk⟩
theorem sb_join {rs : List El} {i : Nat} {l : List Sp} (h : SB rs i l) {k : Int} (hk : (nth rs i).f0 = k) (h0 : 0 ≤ k) (h1 : k < 1099511627776) (hl : 0 < l.length) (he : (Spn.nth l (l.length - 1)).2 = k) :
    SB rs (i + 1) (l.set (l.length - 1) ((Spn.nth l (l.length - 1)).1, k + 1)) := by
  obtain ⟨hi0, _⟩ := h.last hl
  obtain ⟨init, t, rfl⟩ := split_last hl
  rw [last_nth] at he ⊢
  have hs : (init ++ [t]).set ((init ++ [t]).length - 1) (t.1, k + 1) = init ++ [(t.1, k + 1)] := by simp [List.set_append]
  rw [hs]
  obtain ⟨g1, g2⟩ := h.good
  have ht := (ok1_iff t).1 (g1 t (by simp))
  have hp := List.pairwise_append.1 g2
  refine ⟨⟨fun s hs => ?_, List.pairwise_append.2 ⟨hp.1, by simp, fun a ha b hb => ?_⟩⟩, fun v => ?_, ?_, ?_, fun _ => ⟨by omega, ?_⟩, fun h => by simp at h⟩
  · rcases List.mem_append.1 hs with hs | hs
    · exact g1 s (by simp [hs])
    · simp at hs; subst hs; rw [ok1_iff]; simp only []; omega
  · simp at hb; subst hb
    exact hp.2.2 a ha t (by simp)
  · rw [upto_succ hk, ← h.has, has_append, has_append, has_one, has_one]
    simp only []
    constructor
    · rintro (h | ⟨h1, h2⟩)
      · exact .inl (.inl h)
      · by_cases hv : v = k
        · exact .inr hv
        · exact .inl (.inr ⟨h1, by omega⟩)
    · rintro ((h | ⟨h1, h2⟩) | rfl)
      · exact .inl h
      · exact .inr ⟨h1, by omega⟩
      · exact .inr ⟨by omega, by omega⟩
  · have := h.tot
    rw [tot_one] at this ⊢
    simp only [] at this ⊢
    push_cast
    omega
  · have := h.len; simp at this ⊢; omega
  · rw [last_nth, Nat.add_sub_cancel, hk]
theorem sb_new {rs : List El} (hr : Rising rs) {i : Nat} (hil : i < rs.length) {l : List Sp} (h : SB rs i l) {k : Int} (hk : (nth rs i).f0 = k) (h0 : 0 ≤ k) (h1 : k < 1099511627776) (he : 0 < l.length → (Spn.nth l (l.length - 1)).2 ≠ k) :
    SB rs (i + 1) (l ++ [(k, k + 1)]) := by
  obtain ⟨g1, g2⟩ := h.good
  refine ⟨⟨fun s hs => ?_, List.pairwise_append.2 ⟨g2, by simp, fun a ha b hb => ?_⟩⟩, fun v => ?_, ?_, ?_, fun _ => ⟨by omega, ?_⟩, fun h => by simp at h⟩
  · rcases List.mem_append.1 hs with hs | hs
    · exact g1 s hs
    · simp at hs; subst hs; rw [ok1_iff]; simp only []; omega
  · simp at hb; subst hb
    have hl : 0 < l.length := List.length_pos_of_mem ha
    obtain ⟨hi0, hlast⟩ := h.last hl
    have hne := he hl
    have hup := hr (i - 1) i (by omega) hil
    obtain ⟨init, t, rfl⟩ := split_last hl
    rw [last_nth] at hlast hne
    show a.2 < k
    rcases List.mem_append.1 ha with ha | ha
    · have h2 := (List.pairwise_append.1 g2).2.2 a ha t (by simp)
      have h3 := (ok1_iff t).1 (g1 t (by simp))
      omega
    · simp at ha; subst ha; omega
  · rw [upto_succ hk, ← h.has, has_append, has_one]
    simp only []
    constructor
    · rintro (h | ⟨h1, h2⟩)
      · exact .inl h
      · exact .inr (by omega)
    · rintro (h | rfl)
      · exact .inl h
      · exact .inr ⟨by omega, by omega⟩
  · rw [tot_one, h.tot]; simp only []; push_cast; omega
  · have := h.len; simp; omega
  · rw [last_nth, Nat.add_sub_cancel, hk]
end Go.Proofs.Ytffegfidaolgjaa
