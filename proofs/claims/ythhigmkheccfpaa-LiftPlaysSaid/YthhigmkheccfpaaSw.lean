/- Lift: a sweep, plainly. -/
import Derived.Test.YthhigmkheccfpaaWakes
set_option linter.unusedVariables false
set_option linter.unusedSimpArgs false
namespace Go.Proofs.Ythhigmkheccfpaa
theorem lateK_none {s : LS} (h : ∀ x ∈ s.rs, x.f1 < s.age) : ∀ k, k ≤ s.rs.length → lateK s k = (0, false) := by
  intro k
  induction k with
  | zero => intro _; rfl
  | succ k ih =>
    intro hk
    unfold lateK
    rw [ih (by omega)]
    unfold lateStep
    have := h _ (nth_mem (l := s.rs) (i := k) (by omega))
    rw [if_neg (by rintro ⟨h1, _⟩; omega)]
theorem has_pick {s : LS} (h : Ok s) (h0 : 0 < s.rs.length) (x : Int) : has (pickS s) x = true ↔ has s x = true ∧ x ≠ pickK s := by
  have hi := chooseP_lt h.up h0
  rw [has_iff (ok_pick h).up, has_iff h.up]
  have hS : (pickS s).rs = (cut s.rs (chooseP s)).map inc := by unfold pickS; rw [if_pos h0]
  have hK : pickK s = (nth s.rs (chooseP s)).f0 := by unfold pickK; rw [if_pos h0]
  rw [hS, hK]
  constructor
  · rintro ⟨y, hy, rfl⟩
    obtain ⟨z, hz, rfl⟩ := List.mem_map.1 hy
    exact ⟨⟨z, mem_cut hz, rfl⟩, cut_ne h.up hi z hz⟩
  · rintro ⟨⟨y, hy, rfl⟩, hne⟩
    obtain ⟨j, hj, rfl⟩ := mem_nth hy
    refine ⟨inc (nth s.rs j), List.mem_map.2 ⟨nth s.rs j, ?_, rfl⟩, rfl⟩
    unfold cut
    rw [List.mem_append]
    rcases Nat.lt_trichotomy j (chooseP s) with hl | hl | hl
    · refine .inl (List.mem_of_getElem? (i := j) ?_)
      rw [List.getElem?_take, if_pos hl]; exact nth_get hj
    · exact absurd (by rw [hl]) hne
    · refine .inr (List.mem_of_getElem? (i := j - (chooseP s + 1)) ?_)
      rw [List.getElem?_drop, show chooseP s + 1 + (j - (chooseP s + 1)) = j by omega]; exact nth_get hj
theorem has_addS {s : LS} (h : Ok s) {key : Int} (he : addE s key = 0) (x : Int) : has (addS s key) x = true ↔ has s x = true ∨ x = key := by
  rw [has_iff (ok_add h key).up, has_iff h.up, addS_of he]
  constructor
  · rintro ⟨y, hy, rfl⟩
    rcases (mem_insR s key y).1 hy with hy | rfl
    · exact .inl ⟨y, hy, rfl⟩
    · exact .inr rfl
  · rintro (⟨y, hy, rfl⟩ | rfl)
    · exact ⟨y, (mem_insR s key y).2 (.inl hy), rfl⟩
    · exact ⟨_, (mem_insR s x _).2 (.inr rfl), rfl⟩
/-- A sweep on its way, j picks behind. -/
structure SW (s : LS) (first last : Int) (turned : Bool) (j : Nat) : Prop where
  ok : Ok s
  age : s.age = 65536
  head : s.head = last + 1
  wt : ∀ x ∈ s.rs, x.f1 ≤ j
  nt : turned = false → first ≤ last ∧ ∀ x ∈ s.rs, last < x.f0 ∨ x.f0 ≤ first
  tt : turned = true → ∀ x ∈ s.rs, last < x.f0 ∧ x.f0 ≤ first
theorem sw_step {s : LS} {first last : Int} {turned : Bool} {j : Nat} (h : SW s first last turned j) (hj : j < 65536) (h0 : 0 < s.rs.length) :
    pickB s = true ∧ has s (pickK s) = true ∧ (pickK s ≤ last → turned = false) ∧ ((turned || decide (pickK s ≤ last)) = true → pickK s ≤ first) ∧ SW (pickS s) first (pickK s) (turned || decide (pickK s ≤ last)) (j + 1) := by
  have hi := chooseP_lt h.ok.up h0
  have hK : pickK s = (nth s.rs (chooseP s)).f0 := by unfold pickK; rw [if_pos h0]
  have hhead : (pickS s).head = pickK s + 1 := by unfold pickS; rw [if_pos h0]
  have hage : (pickS s).age = s.age := by unfold pickS; split <;> rfl
  have hl : lateK s s.rs.length = (0, false) := lateK_none (fun x hx => by have := h.wt x hx; rw [h.age]; omega) _ (Nat.le_refl _)
  have hc : chooseP s = if pos s.rs s.head = s.rs.length then 0 else pos s.rs s.head := by unfold chooseP; rw [hl]; simp
  obtain ⟨p1, p2, p3⟩ := pos_find s.rs s.head h.ok.up
  have hmk : nth s.rs (chooseP s) ∈ s.rs := nth_mem hi
  have hrest : ∀ x ∈ (pickS s).rs, ∃ y ∈ s.rs, x.f0 = y.f0 ∧ x.f0 ≠ pickK s := fun x hx => by
    obtain ⟨y, hy, e, _⟩ := mem_pick hx
    exact ⟨y, hy, e, ((has_pick h.ok h0 x.f0).1 ((has_iff (ok_pick h.ok).up _).2 ⟨x, hx, rfl⟩)).2⟩
  have hwt : ∀ x ∈ (pickS s).rs, x.f1 ≤ ((j + 1 : Nat) : Int) := fun x hx => by
    obtain ⟨y, hy, _, e, _⟩ := mem_pick hx
    have := h.wt y hy
    rcases e with e | e <;> omega
  have hB : pickB s = true := by unfold pickB; simp; omega
  have hh : has s (pickK s) = true := (has_iff h.ok.up _).2 ⟨_, hmk, hK.symm⟩
  have up := h.ok.up
  by_cases hp : pos s.rs s.head = s.rs.length
  · -- none from the head on: the smallest
    rw [hp] at p2
    have hc0 : chooseP s = 0 := by rw [hc, if_pos hp]
    have hall : ∀ x ∈ s.rs, x.f0 ≤ last := fun x hx => by
      obtain ⟨i, hi', rfl⟩ := mem_nth hx
      have := p2 i hi'; rw [h.head] at this; omega
    have hmin : ∀ x ∈ s.rs, pickK s ≤ x.f0 := fun x hx => by
      obtain ⟨i, hi', rfl⟩ := mem_nth hx
      rw [hK, hc0]
      by_cases hz : i = 0
      · rw [hz]; exact Int.le_refl _
      · have := up 0 i (by omega) hi'; omega
    have hkl : pickK s ≤ last := by rw [hK]; exact hall _ hmk
    have htf : turned = false := by
      cases turned
      · rfl
      · have := (h.tt rfl _ hmk).1; rw [← hK] at this; omega
    subst htf
    have hnt := h.nt rfl
    have hfirst : ∀ x ∈ s.rs, x.f0 ≤ first := fun x hx => by
      have := hall x hx
      rcases hnt.2 x hx with h1 | h1 <;> omega
    have hkf : pickK s ≤ first := by rw [hK]; exact hfirst _ hmk
    have hd : (false || decide (pickK s ≤ last)) = true := by simpa using hkl
    refine ⟨hB, hh, fun _ => rfl, fun _ => hkf, ?_⟩
    rw [hd]
    refine ⟨ok_pick h.ok, by rw [hage, h.age], hhead, hwt, fun h => by simp at h, fun _ x hx => ?_⟩
    obtain ⟨y, hy, e, hne⟩ := hrest x hx
    have h1 := hmin y hy
    have h2 := hfirst y hy
    omega
  · have hcp : chooseP s = pos s.rs s.head := by rw [hc, if_neg hp]
    have hge : s.head ≤ pickK s := by rw [hK, hcp]; exact p3 _ (Nat.le_refl _) (by omega)
    have hgt : last < pickK s := by rw [h.head] at hge; omega
    have hsplit : ∀ x ∈ s.rs, x.f0 ≤ last ∨ pickK s ≤ x.f0 := fun x hx => by
      obtain ⟨i, hi', rfl⟩ := mem_nth hx
      by_cases hz : i < pos s.rs s.head
      · have := p2 i hz; rw [h.head] at this; exact .inl (by omega)
      · refine .inr ?_
        rw [hK, hcp]
        by_cases hz2 : i = pos s.rs s.head
        · rw [hz2]; exact Int.le_refl _
        · have := up (pos s.rs s.head) i (by omega) hi'; omega
    have hd : (turned || decide (pickK s ≤ last)) = turned := by
      have : decide (pickK s ≤ last) = false := by simp; omega
      rw [this]; simp
    have hkm : ∃ x ∈ s.rs, x.f0 = pickK s := ⟨_, hmk, hK.symm⟩
    rw [hd]
    refine ⟨hB, hh, fun h => by omega, fun ht => ?_, ok_pick h.ok, by rw [hage, h.age], hhead, hwt, fun ht => ?_, fun ht x hx => ?_⟩
    · obtain ⟨x, hx, e⟩ := hkm
      have := (h.tt ht x hx).2; omega
    · have hnt := h.nt ht
      refine ⟨by omega, fun x hx => ?_⟩
      obtain ⟨y, hy, e, hne⟩ := hrest x hx
      rcases hsplit y hy with h1 | h1
      · rcases hnt.2 y hy with h2 | h2
        · omega
        · exact .inr (by omega)
      · exact .inl (by omega)
    · obtain ⟨y, hy, e, hne⟩ := hrest x hx
      have h1 := h.tt ht y hy
      rcases hsplit y hy with h2 | h2
      · omega
      · omega
end Go.Proofs.Ythhigmkheccfpaa
