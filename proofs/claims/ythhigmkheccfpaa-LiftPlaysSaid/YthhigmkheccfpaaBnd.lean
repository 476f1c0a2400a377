/- Lift, plainly: nobody waits for longer than the bound. -/
import Derived.Test.YthhigmkheccfpaaSw
set_option linter.unusedVariables false
set_option linter.unusedSimpArgs false
namespace Go.Proofs.Ythhigmkheccfpaa
open Go.RowKit
theorem nth_el {l : List El} {i : Nat} (h : i < l.length) : nth l i = l[i] := by
  have := nth_get h
  rw [List.getElem?_eq_getElem h] at this
  exact (Option.some.inj this).symm
theorem lateK_spec (s : LS) : ∀ k, ((lateK s k).2 = false → ∀ j : Nat, j < k → (nth s.rs j).f1 < s.age) ∧ ((lateK s k).2 = true → s.age ≤ (nth s.rs (lateK s k).1).f1 ∧ ∀ j : Nat, j < k → s.age ≤ (nth s.rs j).f1 → (nth s.rs (lateK s k).1).f2 ≤ (nth s.rs j).f2) := by
  intro k
  induction k with
  | zero => exact ⟨fun _ j h => by omega, fun h => by simp [lateK] at h⟩
  | succ k ih =>
    obtain ⟨h1, h2⟩ := ih
    unfold lateK lateStep
    split
    · rename_i hc
      refine ⟨fun h => by simp at h, fun _ => ⟨hc.1, fun j hj hl => ?_⟩⟩
      by_cases hjk : j = k
      · rw [hjk]; exact Int.le_refl _
      · rcases hc.2 with h | h
        · have := h1 h j (by omega); omega
        · cases hb : (lateK s k).2
          · have := h1 hb j (by omega); omega
          · have := (h2 hb).2 j (by omega) hl
            simp only []; omega
    · rename_i hc
      refine ⟨fun h j hj => ?_, fun h => ⟨(h2 h).1, fun j hj hl => ?_⟩⟩
      · by_cases hjk : j = k
        · subst hjk
          by_cases hl : s.age ≤ (nth s.rs j).f1
          · exact absurd ⟨hl, .inl h⟩ hc
          · omega
        · exact h1 h j (by omega)
      · by_cases hjk : j = k
        · subst hjk
          by_cases hl2 : (nth s.rs j).f2 < (nth s.rs (lateK s j).1).f2
          · exact absurd ⟨hl, .inr hl2⟩ hc
          · omega
        · exact (h2 h).2 j (by omega) hl
/-- A late one is served, the one that came first. -/
theorem choose_late {s : LS} {j : Nat} (hj : j < s.rs.length) (hl : s.age ≤ (nth s.rs j).f1) : (nth s.rs (chooseP s)).f2 ≤ (nth s.rs j).f2 := by
  obtain ⟨h1, h2⟩ := lateK_spec s s.rs.length
  unfold chooseP
  cases hb : (lateK s s.rs.length).2
  · have := h1 hb j hj; omega
  · rw [if_pos rfl]; exact (h2 hb).2 j hj hl
def ahead (l : List El) (t : Int) : Nat := l.countP fun y => decide (y.f2 < t)
theorem ahead_ins (l : List El) (i : Nat) (y : El) (t : Int) : ahead (l.take i ++ y :: l.drop i) t = ahead l t + if y.f2 < t then 1 else 0 := by
  unfold ahead
  rw [List.countP_append, List.countP_cons]
  have : List.countP (fun y => decide (y.f2 < t)) l = List.countP (fun y => decide (y.f2 < t)) (l.take i) + List.countP (fun y => decide (y.f2 < t)) (l.drop i) := by rw [← List.countP_append, List.take_append_drop]
  rw [this]
  by_cases h : y.f2 < t
  · simp [h]; omega
  · simp [h]
theorem ahead_cut (l : List El) (i : Nat) (hi : i < l.length) (t : Int) : ahead (cut l i) t + (if (nth l i).f2 < t then 1 else 0) = ahead l t := by
  have e : l = l.take i ++ nth l i :: l.drop (i + 1) := by rw [← drop_nth hi, List.take_append_drop]
  unfold cut ahead
  rw [List.countP_append]
  conv => rhs; rw [e]
  rw [List.countP_append, List.countP_cons]
  by_cases h : (nth l i).f2 < t
  · simp [h]; omega
  · simp [h]
theorem ahead_inc (l : List El) (t : Int) : ahead (l.map inc) t = ahead l t := by
  unfold ahead
  rw [List.countP_map]
  rfl
theorem ahead_all {l : List El} {t : Int} (h : ∀ x ∈ l, x.f2 < t) : ahead l t = l.length := by
  unfold ahead
  rw [List.countP_eq_length]
  intro x hx; simpa using h x hx
theorem nodup_get {l : List El} (h : (l.map El.f2).Nodup) {i j : Nat} (hi : i < l.length) (hj : j < l.length) (e : (nth l i).f2 = (nth l j).f2) : i = j := by
  rw [nth_el hi, nth_el hj] at e
  exact (List.getElem_inj (h₀ := by simpa using hi) (h₁ := by simpa using hj) h).1 (by simpa using e)
structure Bd (s : LS) (age p : Int) (gd : Int → Option Int) : Prop where
  ok : Ok s
  nd : (s.rs.map El.f2).Nodup
  ag : s.age = age
  due : ∀ x ∈ s.rs, ∃ d, gd x.f0 = some d ∧ p + max (age - x.f1) 0 + (ahead s.rs x.f2 : Int) + 1 ≤ d
  dom : ∀ z, has s z = false → gd z = none
theorem Bd.all {s : LS} {age p : Int} {gd : Int → Option Int} (h : Bd s age p gd) {z d : Int} (hz : gd z = some d) : p + 1 ≤ d := by
  cases hh : has s z
  · rw [h.dom z hh] at hz; simp at hz
  · obtain ⟨x, hx, rfl⟩ := (has_iff h.ok.up z).1 hh
    obtain ⟨d', e, h1⟩ := h.due x hx
    rw [hz] at e
    have := Option.some.inj e
    omega
theorem bd_new (age : Int) (h1 : 1 ≤ age) (h2 : age ≤ 65536) : Bd ⟨age, 0, 0, []⟩ age 0 (fun _ => none) :=
  ⟨⟨fun i j _ h => by simp at h, by simp, by simp, ⟨h1, h2⟩, by simp, by simp, by simp⟩, by simp, rfl, by simp, fun _ _ => rfl⟩
theorem bd_add {s : LS} {age p : Int} {gd : Int → Option Int} (h : Bd s age p gd) (hp : 0 ≤ age) {key : Int} (he : addE s key = 0) : Bd (addS s key) age p (fun z => if z = key then some (p + age + s.rs.length + 1) else gd z) := by
  have hh := (addE_zero he).2.2.1
  have hrs : (addS s key).rs = s.rs.take (pos s.rs key) ++ ⟨key, 0, s.added⟩ :: s.rs.drop (pos s.rs key) := by rw [addS_of he]; rfl
  have hm : ∀ x, x ∈ (addS s key).rs ↔ x ∈ s.rs ∨ x = ⟨key, 0, s.added⟩ := fun x => by rw [addS_of he]; exact mem_insR s key x
  have hf := (has_false h.ok.up key).1 hh
  refine ⟨ok_add h.ok key, ?_, by rw [addS_of he]; exact h.ag, fun x hx => ?_, fun z hz => ?_⟩
  · rw [hrs, List.map_append, List.map_cons, List.map_take, List.map_drop]
    refine (List.perm_middle.nodup_iff).2 ?_
    rw [List.take_append_drop, List.nodup_cons]
    refine ⟨fun hc => ?_, h.nd⟩
    obtain ⟨x, hx, e⟩ := List.mem_map.1 hc
    have := h.ok.came x hx; simp only [] at e; omega
  · rw [hrs, ahead_ins]
    rcases (hm x).1 hx with hx | rfl
    · obtain ⟨d, e, hd⟩ := h.due x hx
      refine ⟨d, by rw [if_neg (hf x hx)]; exact e, ?_⟩
      have := h.ok.came x hx
      rw [if_neg (by simp only []; omega)]
      simpa using hd
    · refine ⟨_, if_pos rfl, ?_⟩
      have := ahead_all (l := s.rs) (t := s.added) (fun x hx => (h.ok.came x hx).2)
      simp only []
      rw [this, if_neg (by omega)]
      omega
  · have : z ≠ key := fun e => by
      have := (has_addS h.ok he z).2 (.inr e)
      rw [this] at hz; simp at hz
    simp only [if_neg this]
    refine h.dom z ?_
    cases hs : has s z
    · rfl
    · have := (has_addS h.ok he z).2 (.inl hs)
      rw [this] at hz; simp at hz
theorem bd_pick {s : LS} {age p : Int} {gd : Int → Option Int} (h : Bd s age p gd) (h0 : 0 < s.rs.length) : (∃ d, gd (pickK s) = some d ∧ p + 1 ≤ d) ∧ Bd (pickS s) age (p + 1) (fun z => if z = pickK s then none else gd z) := by
  have hi := chooseP_lt h.ok.up h0
  have hS : (pickS s).rs = (cut s.rs (chooseP s)).map inc := by unfold pickS; rw [if_pos h0]
  have hK : pickK s = (nth s.rs (chooseP s)).f0 := by unfold pickK; rw [if_pos h0]
  constructor
  · obtain ⟨d, e, hd⟩ := h.due _ (nth_mem hi)
    rw [hK]
    exact ⟨d, e, by omega⟩
  · refine ⟨ok_pick h.ok, ?_, by unfold pickS; rw [if_pos h0]; exact h.ag, fun x' hx => ?_, fun z hz => ?_⟩
    · rw [hS, List.map_map]
      have : El.f2 ∘ inc = El.f2 := rfl
      rw [this]
      exact ((cut_sub _ _).map _).nodup h.nd
    · rw [hS] at hx ⊢
      obtain ⟨y, hy, rfl⟩ := List.mem_map.1 hx
      have hy1 := mem_cut hy
      have hy2 := cut_ne h.ok.up hi y hy
      obtain ⟨d, e, hd⟩ := h.due y hy1
      refine ⟨d, ?_, ?_⟩
      · show (if y.f0 = pickK s then none else gd y.f0) = some d
        rw [if_neg (by rw [hK]; exact hy2)]; exact e
      · show p + 1 + max (age - (y.f1 + 1)) 0 + (ahead ((cut s.rs (chooseP s)).map inc) y.f2 : Int) + 1 ≤ d
        rw [ahead_inc]
        have hc := ahead_cut s.rs (chooseP s) hi y.f2
        by_cases hl : y.f1 < age
        · have : ahead (cut s.rs (chooseP s)) y.f2 ≤ ahead s.rs y.f2 := by omega
          omega
        · obtain ⟨j, hj, rfl⟩ := mem_nth hy1
          have h1 := choose_late hj (by rw [h.ag]; omega)
          have h2 : (nth s.rs (chooseP s)).f2 ≠ (nth s.rs j).f2 := fun e => by
            have := nodup_get h.nd hi hj e
            rw [this] at hy2; exact hy2 rfl
          rw [if_pos (by omega)] at hc
          omega
    · by_cases hz2 : z = pickK s
      · exact if_pos hz2
      · simp only [if_neg hz2]
        refine h.dom z ?_
        cases hs : has s z
        · rfl
        · have := (has_pick h.ok h0 z).2 ⟨hs, hz2⟩
          rw [this] at hz; simp at hz
end Go.Proofs.Ythhigmkheccfpaa
