/- Lift, plainly: what adding, dropping, picking keep. -/
import Derived.Test.YthhigmkheccfpaaLiftD
set_option linter.unusedVariables false
set_option linter.unusedSimpArgs false
namespace Go.Proofs.Ythhigmkheccfpaa
open Go.RowKit
theorem rising_iff (l : List El) : Rising l ↔ l.Pairwise (fun a b => a.f0 < b.f0) := by
  rw [List.pairwise_iff_getElem]
  constructor
  · intro h i j hi hj hij
    have := h i j hij hj
    have e1 := nth_get hi
    have e2 := nth_get hj
    rw [List.getElem?_eq_getElem hi] at e1
    rw [List.getElem?_eq_getElem hj] at e2
    rw [Option.some.inj e1, Option.some.inj e2]
    exact this
  · intro h i j hij hj
    have := h i j (by omega) hj hij
    have e1 := nth_get (show i < l.length by omega)
    have e2 := nth_get hj
    rw [List.getElem?_eq_getElem (show i < l.length by omega)] at e1
    rw [List.getElem?_eq_getElem hj] at e2
    rw [Option.some.inj e1, Option.some.inj e2] at this
    exact this
theorem mem_nth {l : List El} {x : El} (h : x ∈ l) : ∃ i, i < l.length ∧ nth l i = x := by
  obtain ⟨i, hi, rfl⟩ := List.getElem_of_mem h
  have e1 := nth_get hi
  rw [List.getElem?_eq_getElem hi] at e1
  exact ⟨i, hi, (Option.some.inj e1).symm⟩
theorem has_iff {s : LS} (hs : Rising s.rs) (key : Int) : has s key = true ↔ ∃ x ∈ s.rs, x.f0 = key := by
  obtain ⟨h1, h2, h3⟩ := pos_find s.rs key hs
  unfold has isAt
  simp only [Bool.and_eq_true, decide_eq_true_eq]
  constructor
  · rintro ⟨h4, h5⟩; exact ⟨_, nth_mem h4, h5⟩
  · rintro ⟨x, hx, rfl⟩
    obtain ⟨i, hi, rfl⟩ := mem_nth hx
    have hp : pos s.rs (nth s.rs i).f0 = i := by
      rcases Nat.lt_trichotomy i (pos s.rs (nth s.rs i).f0) with h | h | h
      · have := h2 i h; omega
      · exact h.symm
      · have h4 := h3 _ (Nat.le_refl _) (by omega)
        have h5 := hs _ i h hi
        omega
    rw [hp]
    exact ⟨hi, rfl⟩
theorem has_false {s : LS} (hs : Rising s.rs) (key : Int) : has s key = false ↔ ∀ x ∈ s.rs, x.f0 ≠ key := by
  rw [← Bool.not_eq_true, has_iff hs]
  exact ⟨fun h x hx e => h ⟨x, hx, e⟩, fun h ⟨x, hx, e⟩ => h x hx e⟩
def insR (s : LS) (key : Int) : List El := s.rs.take (pos s.rs key) ++ ⟨key, 0, s.added⟩ :: s.rs.drop (pos s.rs key)
theorem addS_of {s : LS} {key : Int} (h : addE s key = 0) : addS s key = { s with rs := insR s key, added := s.added + 1 } := by unfold addS insR; rw [if_pos h]
theorem addS_no {s : LS} {key : Int} (h : addE s key ≠ 0) : addS s key = s := by unfold addS; rw [if_neg h]
theorem mem_insR (s : LS) (key : Int) (x : El) : x ∈ insR s key ↔ x ∈ s.rs ∨ x = ⟨key, 0, s.added⟩ := by
  unfold insR
  rw [List.mem_append, List.mem_cons]
  constructor
  · rintro (h | h | h)
    · exact .inl (List.mem_of_mem_take h)
    · exact .inr h
    · exact .inl (List.mem_of_mem_drop h)
  · rintro (h | h)
    · rw [← List.take_append_drop (pos s.rs key) s.rs, List.mem_append] at h
      rcases h with h | h
      · exact .inl h
      · exact .inr (.inr h)
    · exact .inr (.inl h)
theorem insR_len (s : LS) (key : Int) : (insR s key).length = s.rs.length + 1 := by unfold insR; simp; omega
theorem take_lt {l : List El} {i : Nat} {x : El} (h : x ∈ l.take i) : ∃ j, j < i ∧ j < l.length ∧ nth l j = x := by
  obtain ⟨j, hj, e⟩ := mem_nth h
  have hj2 : j < i ∧ j < l.length := by rw [List.length_take] at hj; omega
  refine ⟨j, hj2.1, hj2.2, ?_⟩
  rw [← e]
  unfold nth
  rw [List.getD_eq_getElem?_getD, List.getD_eq_getElem?_getD, List.getElem?_take, if_pos hj2.1]
theorem drop_ge {l : List El} {i : Nat} {x : El} (h : x ∈ l.drop i) : ∃ j, i ≤ j ∧ j < l.length ∧ nth l j = x := by
  obtain ⟨j, hj, e⟩ := mem_nth h
  have hj2 : i + j < l.length := by rw [List.length_drop] at hj; omega
  refine ⟨i + j, by omega, hj2, ?_⟩
  rw [← e]
  unfold nth
  rw [List.getD_eq_getElem?_getD, List.getD_eq_getElem?_getD, List.getElem?_drop]
theorem insR_up {s : LS} {key : Int} (hs : Rising s.rs) (hh : has s key = false) : Rising (insR s key) := by
  have hp := (rising_iff _).1 hs
  have hf := (has_false hs key).1 hh
  obtain ⟨h1, h2, h3⟩ := pos_find s.rs key hs
  rw [rising_iff]
  unfold insR
  rw [List.pairwise_append]
  refine ⟨hp.sublist (List.take_sublist _ _), List.pairwise_cons.2 ⟨fun y hy => ?_, hp.sublist (List.drop_sublist _ _)⟩, fun y hy z hz => ?_⟩
  · obtain ⟨j, hj1, hj2, rfl⟩ := drop_ge hy
    have h4 := h3 j hj1 hj2
    have h5 := hf _ (nth_mem hj2)
    show key < _
    omega
  · obtain ⟨j, hj1, hj2, rfl⟩ := take_lt hy
    have h4 := h2 j hj1
    rcases List.mem_cons.1 hz with rfl | hz
    · exact h4
    · obtain ⟨q, hq1, hq2, rfl⟩ := drop_ge hz
      have := h3 q hq1 hq2
      omega
theorem addE_zero {s : LS} {key : Int} (h : addE s key = 0) : 0 ≤ key ∧ key < 1099511627776 ∧ has s key = false ∧ s.rs.length < 256 := by
  unfold addE at h
  split at h
  · simp at h
  · split at h
    · simp at h
    · split at h
      · simp at h
      · rename_i h1 h2 h3
        exact ⟨by omega, by omega, by simpa using h2, by omega⟩
theorem addE_of {s : LS} {key : Int} (h0 : 0 ≤ key) (h1 : key < 1099511627776) (h2 : has s key = false) (h3 : s.rs.length < 256) : addE s key = 0 := by
  unfold addE
  rw [if_neg (by omega), if_neg (by simp [h2]), if_neg (by omega)]
theorem ok_add {s : LS} (h : Ok s) (key : Int) : Ok (addS s key) := by
  by_cases he : addE s key = 0
  · obtain ⟨k0, k1, hh, hl⟩ := addE_zero he
    rw [addS_of he]
    refine ⟨insR_up h.up hh, by show (insR s key).length ≤ 256; rw [insR_len]; omega, fun x hx => ?_, h.age, fun x hx => ?_, by show 0 ≤ s.added + 1; have := h.add; omega, fun x hx => ?_⟩
    · rcases (mem_insR s key x).1 hx with hx | rfl
      · exact h.key x hx
      · exact ⟨k0, k1⟩
    · rcases (mem_insR s key x).1 hx with hx | rfl
      · exact h.wt x hx
      · exact Int.le_refl 0
    · show 0 ≤ x.f2 ∧ x.f2 < s.added + 1
      rcases (mem_insR s key x).1 hx with hx | rfl
      · have := h.came x hx; omega
      · have := h.add; simp only []; omega
  · rw [addS_no he]; exact h
theorem has_add {s : LS} (h : Ok s) {key : Int} (he : addE s key = 0) : has (addS s key) key = true := by
  have ho := ok_add h key
  rw [has_iff ho.up, addS_of he]
  exact ⟨_, (mem_insR s key _).2 (.inr rfl), rfl⟩
theorem mem_cut {l : List El} {i : Nat} {x : El} (h : x ∈ cut l i) : x ∈ l := by
  unfold cut at h
  rcases List.mem_append.1 h with h | h
  · exact List.mem_of_mem_take h
  · exact List.mem_of_mem_drop h
theorem cut_sub (l : List El) (i : Nat) : (cut l i).Sublist l := by
  have h : (l.take i ++ l.drop (i + 1)).Sublist (l.take i ++ l.drop i) := by
    refine List.Sublist.append (List.Sublist.refl _) ?_
    rw [← List.drop_drop]
    exact List.drop_sublist _ _
  rwa [List.take_append_drop] at h
theorem cut_up {l : List El} (h : Rising l) (i : Nat) : Rising (cut l i) := (rising_iff _).2 (((rising_iff _).1 h).sublist (cut_sub l i))
/-- What is cut out isn't there. -/
theorem cut_ne {l : List El} (h : Rising l) {i : Nat} (hi : i < l.length) : ∀ x ∈ cut l i, x.f0 ≠ (nth l i).f0 := by
  intro x hx
  unfold cut at hx
  rcases List.mem_append.1 hx with hx | hx
  · obtain ⟨j, h1, h2, rfl⟩ := take_lt hx
    have := h j i h1 hi; omega
  · obtain ⟨j, h1, h2, rfl⟩ := drop_ge hx
    have := h i j (by omega) h2; omega
theorem ok_drop {s : LS} (h : Ok s) (key : Int) : Ok (dropS s key) := by
  unfold dropS
  split
  · exact ⟨cut_up h.up _, Nat.le_trans (cut_sub _ _).length_le h.len, fun x hx => h.key x (mem_cut hx), h.age, fun x hx => h.wt x (mem_cut hx), h.add, fun x hx => h.came x (mem_cut hx)⟩
  · exact h
theorem has_drop {s : LS} (h : Ok s) (key : Int) : has (dropS s key) key = false := by
  have ho := ok_drop h key
  by_cases hh : has s key = true
  · rw [has_false ho.up]
    intro x hx
    unfold dropS at hx
    rw [if_pos hh] at hx
    have hin : pos s.rs key < s.rs.length ∧ (nth s.rs (pos s.rs key)).f0 = key := by unfold has isAt at hh; simpa using hh
    have := cut_ne h.up hin.1 x hx
    rwa [hin.2] at this
  · unfold dropS; rw [if_neg hh]; simpa using hh
theorem drop_len {s : LS} {key : Int} (hh : has s key = true) : (dropS s key).rs.length = s.rs.length - 1 := by
  have hin : pos s.rs key < s.rs.length := by unfold has isAt at hh; simp at hh; exact hh.1
  unfold dropS; rw [if_pos hh]; exact cut_len hin
theorem pick_len {s : LS} (h : Ok s) : (pickS s).rs.length = s.rs.length - 1 := by
  unfold pickS
  split
  · rename_i h0
    show ((cut s.rs (chooseP s)).map inc).length = _
    rw [List.length_map, cut_len (chooseP_lt h.up h0)]
  · omega
theorem mem_pick {s : LS} {x : El} (hx : x ∈ (pickS s).rs) : ∃ y ∈ s.rs, x.f0 = y.f0 ∧ (x.f1 = y.f1 + 1 ∨ x.f1 = y.f1) ∧ x.f2 = y.f2 := by
  unfold pickS at hx
  split at hx
  · obtain ⟨y, hy, rfl⟩ := List.mem_map.1 hx
    exact ⟨y, mem_cut hy, rfl, .inl rfl, rfl⟩
  · exact ⟨x, hx, rfl, .inr rfl, rfl⟩
theorem map_inc_up {l : List El} (h : Rising l) : Rising (l.map inc) := by
  rw [rising_iff] at h ⊢
  exact List.pairwise_map.2 (h.imp fun h => h)
theorem ok_pick {s : LS} (h : Ok s) : Ok (pickS s) := by
  refine ⟨?_, by rw [pick_len h]; have := h.len; omega, fun x hx => ?_, ?_, fun x hx => ?_, ?_, fun x hx => ?_⟩
  · unfold pickS
    split
    · exact map_inc_up (cut_up h.up _)
    · exact h.up
  · obtain ⟨y, hy, e, _⟩ := mem_pick hx
    rw [e]; exact h.key y hy
  · unfold pickS; split <;> exact h.age
  · obtain ⟨y, hy, _, e, _⟩ := mem_pick hx
    have := h.wt y hy
    rcases e with e | e <;> omega
  · unfold pickS; split <;> exact h.add
  · obtain ⟨y, hy, _, _, e⟩ := mem_pick hx
    have := h.came y hy
    have e2 : (pickS s).added = s.added := by unfold pickS; split <;> rfl
    rw [e, e2]; exact this
theorem pick_added (s : LS) : (pickS s).added = s.added := by unfold pickS; split <;> rfl
theorem pickK_mem {s : LS} (h : Ok s) (h0 : 0 < s.rs.length) : ∃ x ∈ s.rs, x.f0 = pickK s := by
  unfold pickK
  rw [if_pos h0]
  exact ⟨_, nth_mem (chooseP_lt h.up h0), rfl⟩
theorem ok_new (age : Int) : Ok ⟨max 1 (min age 65536), 0, 0, []⟩ := ⟨fun i j _ h => by simp at h, by simp, by simp, by simp only []; omega, by simp, by simp, by simp⟩
end Go.Proofs.Ythhigmkheccfpaa
