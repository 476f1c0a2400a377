/- The queue and the reference's queue: what holds of both, plainly. -/
import Derived.Test.YtffegfidaolgjaaRPut
import Derived.Test.YtffegfidaolgjaaDr
set_option linter.unusedVariables false
set_option linter.unusedSimpArgs false
namespace Go.Proofs.Ytffegfidaolgjaa
open Go.RowKit
structure Rel (s r : QS) : Prop where
  ok : OkQ s
  most : r.most = s.most
  clock : r.clock = s.clock
  perm : r.rs.Perm s.rs
  age : (r.rs.map El.f2).Pairwise (· < ·)
theorem Rel.len {s r : QS} (h : Rel s r) : r.rs.length = s.rs.length := h.perm.length_eq
theorem Rel.sort {s r : QS} (h : Rel s r) : SortOf r.rs s.rs := ⟨h.len, h.ok.up, fun x => h.perm.mem_iff.symm, fun x hx => (h.ok.key x hx).1⟩
theorem rel_new (most : Int) : Rel ⟨max 1 (min most 256), 0, []⟩ ⟨max 1 (min most 256), 0, []⟩ := ⟨okq_new most, rfl, rfl, List.Perm.refl _, by simp⟩
theorem rhas_iff (r : QS) (key : Int) : rhas r key = true ↔ ∃ x ∈ r.rs, x.f0 = key := by
  unfold rhas
  obtain ⟨h1, h2, h3⟩ := rpos_spec key r.rs
  constructor
  · intro h
    have h := of_decide_eq_true h
    exact ⟨_, nth_mem h, h2 h⟩
  · rintro ⟨x, hx, rfl⟩
    obtain ⟨j, hj, rfl⟩ := mem_nth hx
    refine decide_eq_true ?_
    by_cases h : rpos r.rs (nth r.rs j).f0 < r.rs.length
    · exact h
    · exact absurd rfl (h1 j (by omega))
theorem Rel.rh {s r : QS} (h : Rel s r) (key : Int) : rhas r key = has s key := by
  have h1 := rhas_iff r key
  have h2 := has_iff h.ok.up key
  have : rhas r key = true ↔ has s key = true := by
    rw [h1, h2]
    constructor
    · rintro ⟨x, hx, e⟩; exact ⟨x, h.perm.mem_iff.1 hx, e⟩
    · rintro ⟨x, hx, e⟩; exact ⟨x, h.perm.mem_iff.2 hx, e⟩
  cases h4 : rhas r key <;> cases h5 : has s key <;> simp [h4, h5] at this ⊢
theorem rhas_lt {r : QS} {key : Int} (h : rhas r key = true) : rpos r.rs key < r.rs.length := of_decide_eq_true h
theorem rhas_not {r : QS} {key : Int} (h : rhas r key = false) : ¬ rpos r.rs key < r.rs.length := of_decide_eq_false h
theorem key_unique {l : List El} (hs : Rising l) {x y : El} (hx : x ∈ l) (hy : y ∈ l) (e : x.f0 = y.f0) : x = y := by
  obtain ⟨i, hi, rfl⟩ := mem_nth hx
  obtain ⟨j, hj, rfl⟩ := mem_nth hy
  rcases Nat.lt_trichotomy i j with hl | hl | hl
  · have := hs i j hl hj; omega
  · rw [hl]
  · have := hs j i hl hi; omega
theorem Rel.at {s r : QS} (h : Rel s r) {key : Int} (hh : has s key = true) : nth r.rs (rpos r.rs key) = nth s.rs (pos s.rs key) := by
  have hr : rhas r key = true := by rw [h.rh, hh]
  have h1 := rhas_lt hr
  obtain ⟨h2, h3⟩ := has_at hh
  refine key_unique h.ok.up (h.perm.mem_iff.1 (nth_mem h1)) (nth_mem h2) ?_
  rw [(rpos_spec key r.rs).2.1 h1, h3]
theorem Rel.full {s r : QS} (h : Rel s r) : fullP r = fullP s := by unfold fullP; rw [h.most, h.len]
theorem Rel.pe {s r : QS} (h : Rel s r) (key : Int) (d : ByteArray) : rputE r key d = putE s key d := by
  unfold rputE putE; rw [h.rh, h.full]
theorem perm_nth (l : List El) {i : Nat} (hi : i < l.length) : l.Perm (nth l i :: cut l i) := by
  conv => lhs; rw [← List.take_append_drop i l, drop_nth hi]
  exact List.perm_middle
theorem perm_set (l : List El) {i : Nat} (hi : i < l.length) (y : El) : (l.set i y).Perm (y :: cut l i) := by
  rw [List.set_eq_take_append_cons_drop, if_pos hi]
  exact List.perm_middle
theorem perm_cut {l m : List El} (h : l.Perm m) {i j : Nat} (hi : i < l.length) (hj : j < m.length) (e : nth l i = nth m j) : (cut l i).Perm (cut m j) := by
  have h1 := (perm_nth l hi).symm.trans (h.trans (perm_nth m hj))
  rw [e] at h1
  exact List.Perm.cons_inv h1
theorem rel_put {s r : QS} (h : Rel s r) (key : Int) (d : ByteArray) : Rel (putS s key d) (rputS r key d) := by
  by_cases he : putE s key d = 0
  · have hr : rputE r key d = 0 := by rw [h.pe, he]
    have e1 : rputS r key d = { r with rs := rputR r key d, clock := r.clock + 1 } := by unfold rputS; rw [if_pos hr]
    refine ⟨ok_put h.ok key d, ?_, ?_, ?_, ?_⟩
    · rw [e1, put_most]; exact h.most
    · rw [e1, putS_of he]; simp only []; rw [h.clock]
    · rw [e1, putS_of he]
      simp only []
      by_cases hh : has s key = true
      · have hrh : rhas r key = true := by rw [h.rh, hh]
        rw [putR_old hh]
        unfold rputR
        rw [if_pos hrh, h.at hh]
        have h1 := rhas_lt hrh
        have h2 := (has_at hh).1
        refine (perm_set _ h1 _).trans (List.Perm.trans ?_ (perm_set _ h2 _).symm)
        exact List.Perm.cons _ (perm_cut h.perm h1 h2 (h.at hh))
      · have hh' : has s key = false := by simpa using hh
        have hrh : rhas r key = false := by rw [h.rh, hh']
        rw [putR_new hh']
        unfold rputR insR
        rw [if_neg (by simp [hrh]), h.clock]
        refine List.perm_append_singleton _ _ |>.trans ?_
        refine (List.Perm.cons _ h.perm).trans ?_
        conv => lhs; rw [← List.take_append_drop (pos s.rs key) s.rs]
        exact List.perm_middle.symm
    · rw [e1]
      simp only []
      unfold rputR
      by_cases hrh : rhas r key = true
      · rw [if_pos hrh, set_same El.f2 _ _ _ (rhas_lt hrh) (by rw [nth_el (rhas_lt hrh)])]
        exact h.age
      · rw [if_neg hrh, List.map_append, List.pairwise_append]
        refine ⟨h.age, by simp, fun a ha b hb => ?_⟩
        obtain ⟨x, hx, rfl⟩ := List.mem_map.1 ha
        simp at hb
        subst hb
        rw [h.clock]
        exact (h.ok.age x (h.perm.mem_iff.1 hx)).2
  · have hr : rputE r key d ≠ 0 := by rw [h.pe]; exact he
    have e1 : rputS r key d = r := by unfold rputS; rw [if_neg hr]
    rw [e1, putS_no he]
    exact h
theorem rel_take {s r : QS} (h : Rel s r) (key : Int) : Rel (takeS s key) (rtakeS r key) := by
  refine ⟨ok_take h.ok key, ?_, ?_, ?_, ?_⟩
  · rw [take_most]; unfold rtakeS; split <;> exact h.most
  · rw [take_clock]; unfold rtakeS; split <;> exact h.clock
  · by_cases hh : has s key = true
    · have hrh : rhas r key = true := by rw [h.rh, hh]
      have h1 := rhas_lt hrh
      have h2 := (has_at hh).1
      unfold rtakeS takeS
      rw [if_pos h1, if_pos hh]
      exact perm_cut h.perm h1 h2 (h.at hh)
    · have hh' : has s key = false := by simpa using hh
      have hrh : rhas r key = false := by rw [h.rh, hh']
      unfold rtakeS takeS
      rw [if_neg (rhas_not hrh), if_neg hh]
      exact h.perm
  · unfold rtakeS
    split
    · exact h.age.sublist ((cut_sub _ _).map El.f2)
    · exact h.age
theorem rel_takeV {s r : QS} (h : Rel s r) (key : Int) : rtakeV r key = takeV s key := by
  unfold rtakeV takeV
  by_cases hh : has s key = true
  · rw [if_pos (rhas_lt (by rw [h.rh, hh])), if_pos hh, h.at hh]
  · have hh' : has s key = false := by simpa using hh
    rw [if_neg (rhas_not (by rw [h.rh, hh'])), if_neg hh]
theorem rel_old {s r : QS} (h : Rel s r) {k : Nat} (hk : OldOf s.rs s.rs.length k) : nth s.rs k = roldV r := by
  obtain ⟨h1, h2⟩ := hk
  have h0 : 0 < r.rs.length := by rw [h.len]; omega
  unfold roldV
  rw [if_pos h0]
  obtain ⟨i, hi, ei⟩ := mem_nth (h.perm.mem_iff.2 (nth_mem h1))
  obtain ⟨j, hj, ej⟩ := mem_nth (h.perm.mem_iff.1 (nth_mem h0))
  have h3 := h2 j hj
  rw [ej, ← ei] at h3
  rw [← ei]
  by_cases e : i = 0
  · rw [e]
  · have := List.pairwise_iff_getElem.1 h.age 0 i (by simpa using h0) (by simpa using hi) (by omega)
    simp only [List.getElem_map] at this
    rw [← nth_el h0, ← nth_el hi] at this
    omega
theorem rel_oldN {s r : QS} (h : Rel s r) (h0 : s.rs.length = 0) : roldV r = el0 := by
  unfold roldV; rw [if_neg (by rw [h.len]; omega)]
theorem rfind_iff (r : QS) (key : Int) : decide (rfind r key ≥ 0) = rhas r key := by
  unfold rfind rhas
  by_cases h : rpos r.rs key < r.rs.length
  · rw [if_pos h]; simp [h]
  · rw [if_neg h]; simp [h]
end Go.Proofs.Ytffegfidaolgjaa
