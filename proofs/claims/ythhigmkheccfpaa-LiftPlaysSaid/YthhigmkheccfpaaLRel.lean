/- The lift and the reference's lift: what holds of both; the keys. -/
import Derived.Test.YthhigmkheccfpaaRPick
set_option linter.unusedVariables false
set_option linter.unusedSimpArgs false
namespace Go.Proofs.Ythhigmkheccfpaa
open Go.RowKit
set_option maxHeartbeats 4000000 in
theorem keysL (w : World) (base g : Nat) (v : Value) (s : LS) (hlen : s.rs.length ≤ 256) (h : IsL w base g v s) :
    Calls Try.prog 20 #[PT g] w fun e w' => ∃ v', e = .returned v' ∧ KZ.Row w' w.heap.size v' (s.rs.map El.f0) ∧ Bel w w' := by
  obtain ⟨A, c, rfl, hc, hR⟩ := h.row.reads
  have c2 := blk_cell h.blk 2
  have HR := Lib.hid hR
  have hn := nil23
  clear h hR
  generalize s.rs = l at *
  generalize hnn : l.length = n at *
  have HN := Lib.hid hnn
  clear hnn
  go_enter Try.func20, Try.ntmps20
  go_wp2_with fail
  have HX0 : Hid (KZ.Row w w.heap.size (.slice none 0 0) ((l.take 0).map El.f0) ∧ Bel w w) := Lib.hid ⟨by simpa using Enc.Row.nil _ _, Bel.refl _⟩
  go_loopw [3, 13] (fun v3 v13 wr => ∃ (k : Nat), v13 = .int .i64 k ∧ k ≤ n ∧ Hid (KZ.Row wr w.heap.size v3 ((l.take k).map El.f0) ∧ Bel w wr)) (fun _ v13 _ => n - (intOf v13).toNat)
  case atStart => exact ⟨0, rfl, by omega, HX0⟩
  case round =>
    obtain ⟨wo, rfl⟩ : ∃ wo : World, wo = wr := ⟨_, rfl⟩
    obtain ⟨k, rfl, hk, HI⟩ := hrel
    clear HX0
    by_cases hlt : k < n
    · have hlt' : decide ((k : Int) < (n : Int)) = true := by simp; omega
      obtain ⟨ad, rfl, x0, x1, x2⟩ := HR.out k (by rw [HN.out]; exact hlt)
      have x0 := cellB HI.out.2 x0
      have x1 := cellB HI.out.2 x1
      have x2 := cellB HI.out.2 x2
      have HTK : Hid ((l.take (k + 1)).map El.f0 = (l.take k).map El.f0 ++ [(nth l k).f0]) := Lib.hid (by rw [take_succ_nth (by rw [HN.out]; exact hlt), List.map_append]; rfl)
      generalize nth l k = y at *
      obtain ⟨y0, y1, y2⟩ := y
      simp only [] at x0 x1 x2 HTK
      have HB := Lib.hid (And.intro (HI.out.1.bel (Bel.alloc wo (.cells #[.int .i64 y0, .int .i64 y1, .int .i64 y2] 51 (0, 0)))) (HI.out.2.trans (Bel.alloc wo (.cells #[.int .i64 y0, .int .i64 y1, .int .i64 y2] 51 (0, 0)))))
      clear HI
      go_wp2_with (at_builtin; refine Enc.Row.append (K := KZ) (W := wo.alloc (.cells #[.int .i64 y0, .int .i64 y1, .int .i64 y2] 51 (0, 0))) (base := w.heap.size) HB.out.1 y0 rfl _ _ 35 rfl (.int .i64 0) 8 Try.underlying35 info3z rfl (by decide) rfl (by simp; rfl) (by rw [List.length_map, List.length_take]; omega) HB.out.2.size ?_; intro v3 w3 ho hg; have HO3 := Lib.hid ho; have HB3 := Lib.hid (Enc.Row.bel_grown HB.out.1 HB.out.2 hg (Nat.le_refl _)); clear ho hg)
      exact ⟨⟨k + 1, by congr 1, by omega, Lib.hid ⟨by rw [HTK.out]; exact HO3.out, HB3.out⟩⟩, by simp [intOf]; omega⟩
    · have hlt' : decide ((k : Int) < (n : Int)) = false := by simp; omega
      have hkn : k = n := by omega
      have hfin : Hid (KZ.Row wo w.heap.size u3 (l.map El.f0) ∧ Bel w wo) := Lib.hid ⟨by
        have := HI.out.1
        rwa [hkn, ← HN.out, List.take_length] at this, HI.out.2⟩
      clear HI hkn
      go_wp2_with fail
      exact bodyPost_ret (v := u3) (by simp [results, Try.results20, go_sem]) rfl ⟨u3, rfl, hfin.out.1, hfin.out.2⟩
structure Rel (s r : LS) : Prop where
  ok : Ok s
  age : r.age = s.age
  head : r.head = s.head
  added : r.added = s.added
  perm : r.rs.Perm s.rs
  came : (r.rs.map El.f2).Pairwise (· < ·)
theorem Rel.len {s r : LS} (h : Rel s r) : r.rs.length = s.rs.length := h.perm.length_eq
theorem rel_new (age : Int) : Rel ⟨max 1 (min age 65536), 0, 0, []⟩ ⟨max 1 (min age 65536), 0, 0, []⟩ := ⟨ok_new age, rfl, rfl, rfl, List.Perm.refl _, by simp⟩
theorem rhas_iff (r : LS) (key : Int) : rhas r key = true ↔ ∃ x ∈ r.rs, x.f0 = key := by
  unfold rhas
  obtain ⟨h1, h2, h3⟩ := rpos_spec key r.rs
  constructor
  · intro h
    have h := of_decide_eq_true h
    exact ⟨_, nth_mem h, h2 h⟩
  · rintro ⟨x, hx, rfl⟩
    obtain ⟨j, hj, rfl⟩ := mem_nth hx
    refine decide_eq_true ?_
    by_cases h : rpos r.rs (nth r.rs j).f0 < r.rs.length
    · exact h
    · exact absurd rfl (h1 j (by omega))
theorem Rel.rh {s r : LS} (h : Rel s r) (key : Int) : rhas r key = has s key := by
  have h1 := rhas_iff r key
  have h2 := has_iff h.ok.up key
  have : rhas r key = true ↔ has s key = true := by
    rw [h1, h2]
    constructor
    · rintro ⟨x, hx, e⟩; exact ⟨x, h.perm.mem_iff.1 hx, e⟩
    · rintro ⟨x, hx, e⟩; exact ⟨x, h.perm.mem_iff.2 hx, e⟩
  cases h4 : rhas r key <;> cases h5 : has s key <;> simp [h4, h5] at this ⊢
theorem rhas_lt {r : LS} {key : Int} (h : rhas r key = true) : rpos r.rs key < r.rs.length := of_decide_eq_true h
theorem rhas_not {r : LS} {key : Int} (h : rhas r key = false) : ¬ rpos r.rs key < r.rs.length := of_decide_eq_false h
theorem key_unique {l : List El} (hs : Rising l) {x y : El} (hx : x ∈ l) (hy : y ∈ l) (e : x.f0 = y.f0) : x = y := by
  obtain ⟨i, hi, rfl⟩ := mem_nth hx
  obtain ⟨j, hj, rfl⟩ := mem_nth hy
  rcases Nat.lt_trichotomy i j with hl | hl | hl
  · have := hs i j hl hj; omega
  · rw [hl]
  · have := hs j i hl hi; omega
theorem has_at {s : LS} {key : Int} (h : has s key = true) : pos s.rs key < s.rs.length ∧ (nth s.rs (pos s.rs key)).f0 = key := by unfold has isAt at h; simpa using h
theorem Rel.at {s r : LS} (h : Rel s r) {key : Int} (hh : has s key = true) : nth r.rs (rpos r.rs key) = nth s.rs (pos s.rs key) := by
  have hr : rhas r key = true := by rw [h.rh, hh]
  have h1 := rhas_lt hr
  obtain ⟨h2, h3⟩ := has_at hh
  refine key_unique h.ok.up (h.perm.mem_iff.1 (nth_mem h1)) (nth_mem h2) ?_
  rw [(rpos_spec key r.rs).2.1 h1, h3]
theorem Rel.ae {s r : LS} (h : Rel s r) (key : Int) : raddE r key = addE s key := by
  unfold raddE addE; rw [h.rh, h.len]
theorem perm_nth (l : List El) {i : Nat} (hi : i < l.length) : l.Perm (nth l i :: cut l i) := by
  conv => lhs; rw [← List.take_append_drop i l, drop_nth hi]
  exact List.perm_middle
theorem perm_cut {l m : List El} (h : l.Perm m) {i j : Nat} (hi : i < l.length) (hj : j < m.length) (e : nth l i = nth m j) : (cut l i).Perm (cut m j) := by
  have h1 := (perm_nth l hi).symm.trans (h.trans (perm_nth m hj))
  rw [e] at h1
  exact List.Perm.cons_inv h1
theorem rel_add {s r : LS} (h : Rel s r) (key : Int) : Rel (addS s key) (raddS r key) := by
  by_cases he : addE s key = 0
  · have hr : raddE r key = 0 := by rw [h.ae, he]
    have e1 : raddS r key = { r with rs := r.rs ++ [⟨key, 0, r.added⟩], added := r.added + 1 } := by unfold raddS; rw [if_pos hr]
    refine ⟨ok_add h.ok key, ?_, ?_, ?_, ?_, ?_⟩
    · rw [e1, addS_of he]; exact h.age
    · rw [e1, addS_of he]; exact h.head
    · rw [e1, addS_of he]; simp only []; rw [h.added]
    · rw [e1, addS_of he]
      simp only []
      unfold insR
      rw [h.added]
      refine List.perm_append_singleton _ _ |>.trans ?_
      refine (List.Perm.cons _ h.perm).trans ?_
      conv => lhs; rw [← List.take_append_drop (pos s.rs key) s.rs]
      exact List.perm_middle.symm
    · rw [e1]
      simp only []
      rw [List.map_append, List.pairwise_append]
      refine ⟨h.came, by simp, fun a ha b hb => ?_⟩
      obtain ⟨x, hx, rfl⟩ := List.mem_map.1 ha
      simp at hb
      subst hb
      rw [h.added]
      exact (h.ok.came x (h.perm.mem_iff.1 hx)).2
  · have hr : raddE r key ≠ 0 := by rw [h.ae]; exact he
    have e1 : raddS r key = r := by unfold raddS; rw [if_neg hr]
    rw [e1, addS_no he]
    exact h
theorem rel_drop {s r : LS} (h : Rel s r) (key : Int) : Rel (dropS s key) (rdropS r key) := by
  have hok := ok_drop h.ok key
  by_cases hh : has s key = true
  · have hrh : rhas r key = true := by rw [h.rh, hh]
    have h1 := rhas_lt hrh
    have h2 := (has_at hh).1
    unfold rdropS
    unfold dropS at hok ⊢
    rw [if_pos hh] at hok ⊢
    rw [if_pos h1]
    exact ⟨hok, h.age, h.head, h.added, perm_cut h.perm h1 h2 (h.at hh), h.came.sublist ((cut_sub _ _).map El.f2)⟩
  · have hh' : has s key = false := by simpa using hh
    have hrh : rhas r key = false := by rw [h.rh, hh']
    unfold rdropS dropS
    rw [if_neg (rhas_not hrh), if_neg hh]
    exact h
/-- One is served ahead of another. -/
def ltE (a h : Int) (x y : El) : Prop :=
  (a ≤ x.f1 ∧ ¬ a ≤ y.f1) ∨ (a ≤ x.f1 ∧ a ≤ y.f1 ∧ x.f2 < y.f2) ∨ (¬ a ≤ x.f1 ∧ ¬ a ≤ y.f1 ∧ ((h ≤ x.f0 ∧ ¬ h ≤ y.f0) ∨ ((h ≤ x.f0 ↔ h ≤ y.f0) ∧ x.f0 < y.f0)))
theorem ltE_asym {a h : Int} {x y : El} (h1 : ltE a h x y) (h2 : ltE a h y x) : False := by unfold ltE at h1 h2; omega
theorem betP_trans {a h : Int} {x y z : El} {i j k : Nat} (h1 : betP a h x y i j) (h2 : betP a h y z j k) : betP a h x z i k := by unfold betP at *; omega
theorem betP_total {a h : Int} {x y : El} {i j : Nat} (hij : i ≠ j) (hxy : x.f0 ≠ y.f0) (h1 : ¬ betP a h x y i j) : betP a h y x j i := by unfold betP at *; omega
theorem rising_nodup {l : List El} (h : Rising l) : (l.map El.f0).Nodup := by
  have h1 := (rising_iff l).1 h
  unfold List.Nodup
  rw [List.pairwise_map]
  exact h1.imp (fun {a b} hab => by omega)
theorem nodup_ne {l : List El} (h : (l.map El.f0).Nodup) {i j : Nat} (hi : i < l.length) (hj : j < l.length) (hij : i ≠ j) : (nth l i).f0 ≠ (nth l j).f0 := by
  intro e
  rw [nth_el hi, nth_el hj] at e
  exact hij ((List.getElem_inj (h₀ := by simpa using hi) (h₁ := by simpa using hj) h).1 (by simpa using e))
theorem rbest_inv {r : LS} (hn : (r.rs.map El.f0).Nodup) : ∀ n, 0 < n → n ≤ r.rs.length → ∀ j, j < n → j ≠ rbest r n → betP r.age r.head (nth r.rs (rbest r n)) (nth r.rs j) (rbest r n) j := by
  intro n
  induction n with
  | zero => intro h; omega
  | succ n ih =>
    intro _ hl j hj hne
    by_cases h0 : n = 0
    · subst h0
      have : rbest r 1 = 0 := by simp [rbest]
      rw [this] at hne
      omega
    · have hb := rbest_lt r n (by omega)
      have hstep : rbest r (n + 1) = if n ≠ 0 ∧ bet r n (rbest r n) = true then n else rbest r n := rfl
      by_cases hc : bet r n (rbest r n) = true
      · rw [if_pos ⟨h0, hc⟩] at hstep
        rw [hstep] at hne ⊢
        have hcp := of_decide_eq_true hc
        by_cases hjb : j = rbest r n
        · rw [hjb]; exact hcp
        · exact betP_trans hcp (ih (by omega) (by omega) j (by omega) hjb)
      · rw [if_neg (fun e => hc e.2)] at hstep
        rw [hstep] at hne ⊢
        by_cases hjn : j = n
        · rw [hjn]
          have hcn : ¬ betP r.age r.head (nth r.rs n) (nth r.rs (rbest r n)) n (rbest r n) := fun e => hc (decide_eq_true e)
          exact betP_total (by omega) (nodup_ne hn (by omega) (by omega) (by omega)) hcn
        · exact ih (by omega) (by omega) j (by omega) hne
theorem came_lt {l : List El} (h : (l.map El.f2).Pairwise (· < ·)) {i j : Nat} (hij : i < j) (hj : j < l.length) : (nth l i).f2 < (nth l j).f2 := by
  have := List.pairwise_iff_getElem.1 h i j (by simp; omega) (by simpa using hj) hij
  simp only [List.getElem_map] at this
  rw [nth_el (show i < l.length by omega), nth_el hj]
  exact this
theorem choose_first {s r : LS} (h : Rel s r) (h0 : 0 < s.rs.length) {y : El} (hy : y ∈ s.rs) (hne : y ≠ nth s.rs (chooseP s)) : ltE s.age s.head (nth s.rs (chooseP s)) y := by
  have hcl := chooseP_lt h.ok.up h0
  obtain ⟨l1, l2⟩ := lateK_spec s s.rs.length
  obtain ⟨j, hj, rfl⟩ := mem_nth hy
  have hfx : (nth s.rs (chooseP s)).f2 ≠ (nth s.rs j).f2 := fun e => by
    obtain ⟨i1, hi1, e1⟩ := mem_nth (h.perm.mem_iff.2 (nth_mem hcl))
    obtain ⟨i2, hi2, e2⟩ := mem_nth (h.perm.mem_iff.2 hy)
    rw [← e1, ← e2] at e
    rcases Nat.lt_trichotomy i1 i2 with hl | hl | hl
    · have := came_lt h.came hl hi2; omega
    · rw [hl] at e1; exact hne (e2.symm.trans e1)
    · have := came_lt h.came hl hi1; omega
  cases hb : (lateK s s.rs.length).2
  · have hnl := l1 hb
    have hx := hnl _ hcl
    have hyl := hnl j hj
    have hcp : chooseP s = if pos s.rs s.head = s.rs.length then 0 else pos s.rs s.head := by unfold chooseP; rw [if_neg (by simp [hb])]
    obtain ⟨p1, p2, p3⟩ := pos_find s.rs s.head h.ok.up
    by_cases hp : pos s.rs s.head = s.rs.length
    · rw [if_pos hp] at hcp
      rw [hcp] at hx hne hfx ⊢
      have q0 := p2 0 (by omega)
      have qj := p2 j (by omega)
      have hj0 : j ≠ 0 := fun e => hne (by rw [e])
      have := h.ok.up 0 j (by omega) hj
      unfold ltE; omega
    · rw [if_neg hp] at hcp
      rw [hcp] at hx hne hfx ⊢
      have q0 := p3 (pos s.rs s.head) (Nat.le_refl _) (by omega)
      have hjp : j ≠ pos s.rs s.head := fun e => hne (by rw [e])
      by_cases hlt : j < pos s.rs s.head
      · have qj := p2 j hlt
        unfold ltE; omega
      · have qj := p3 j (by omega) hj
        have := h.ok.up (pos s.rs s.head) j (by omega) hj
        unfold ltE; omega
  · have hcp : chooseP s = (lateK s s.rs.length).1 := by unfold chooseP; rw [if_pos hb]
    obtain ⟨q1, q2⟩ := l2 hb
    rw [← hcp] at q1 q2
    by_cases hly : s.age ≤ (nth s.rs j).f1
    · have := q2 j hj hly
      unfold ltE; omega
    · unfold ltE; omega
/-- The reference serves the same one. -/
theorem rel_best {s r : LS} (h : Rel s r) (h0 : 0 < s.rs.length) : nth r.rs (rbest r r.rs.length) = nth s.rs (chooseP s) := by
  have hr0 : 0 < r.rs.length := by rw [h.len]; exact h0
  have hbl := rbest_lt r _ hr0
  have hcl := chooseP_lt h.ok.up h0
  have hnd : (r.rs.map El.f0).Nodup := (h.perm.map El.f0).nodup_iff.2 (rising_nodup h.ok.up)
  have hinv := rbest_inv hnd r.rs.length hr0 (Nat.le_refl _)
  by_cases he : nth r.rs (rbest r r.rs.length) = nth s.rs (chooseP s)
  · exact he
  · exfalso
    have h1 := choose_first h h0 (h.perm.mem_iff.1 (nth_mem hbl)) he
    obtain ⟨j, hj, ej⟩ := mem_nth (h.perm.mem_iff.2 (nth_mem hcl))
    have hjb : j ≠ rbest r r.rs.length := fun e => he (by rw [← ej, e])
    have h2 := hinv j hj hjb
    rw [h.age, h.head] at h2
    rw [← ej] at h1
    refine ltE_asym h1 ?_
    have hlt : rbest r r.rs.length < j → (nth r.rs (rbest r r.rs.length)).f2 < (nth r.rs j).f2 := fun hl => came_lt h.came hl hj
    unfold betP at h2
    unfold ltE
    omega
theorem rel_pickK {s r : LS} (h : Rel s r) : rpickK r = pickK s := by
  unfold rpickK pickK
  by_cases h0 : 0 < s.rs.length
  · rw [if_pos h0, if_pos (by rw [h.len]; exact h0), rel_best h h0]
  · rw [if_neg h0, if_neg (by rw [h.len]; exact h0)]
theorem rel_pick {s r : LS} (h : Rel s r) : Rel (pickS s) (rpickS r) := by
  have hok := ok_pick h.ok
  by_cases h0 : 0 < s.rs.length
  · have hr0 : 0 < r.rs.length := by rw [h.len]; exact h0
    have hk := rel_pickK h
    unfold rpickS
    unfold pickS at hok ⊢
    rw [if_pos h0] at hok ⊢
    rw [if_pos hr0, hk]
    refine ⟨hok, h.age, rfl, h.added, (perm_cut h.perm (rbest_lt r _ hr0) (chooseP_lt h.ok.up h0) (rel_best h h0)).map inc, ?_⟩
    simp only [List.map_map]
    have : (El.f2 ∘ inc) = El.f2 := by funext x; rfl
    rw [this]
    exact h.came.sublist ((cut_sub _ _).map El.f2)
  · unfold rpickS pickS
    rw [if_neg h0, if_neg (by rw [h.len]; exact h0)]
    exact h
theorem rfind_iff (r : LS) (key : Int) : decide (rfind r key ≥ 0) = rhas r key := by
  unfold rfind rhas
  by_cases h : rpos r.rs key < r.rs.length
  · rw [if_pos h]; simp [h]
  · rw [if_neg h]; simp [h]
end Go.Proofs.Ythhigmkheccfpaa
