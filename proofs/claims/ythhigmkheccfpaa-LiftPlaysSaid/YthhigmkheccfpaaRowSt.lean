/- Rows of structs of three cells, by lists; found by their keys, rising. -/
import Derived.Test.YthhigmkheccfpaaRowIns
import Derived.Tactics
import Derived.Lib.MinMax
import Derived.Deep.LoopGhost
import Derived.Deep.QuietTactic
set_option linter.unusedVariables false
set_option linter.unusedSimpArgs false
namespace Go.Proofs.Ythhigmkheccfpaa
open Go.RowKit
theorem wp_gen {P : Program} {c : Code} {Q : Exit → Act → World → Prop} {a : Act} {w : World} (Φ : World → Prop) (hΦ : Φ w) (h : ∀ W, Φ W → c.wp P Q a W) : c.wp P Q a w := h w hΦ
theorem calls_gen {P : Program} {f : FuncId} {args : Array Value} {R : Ending → World → Prop} {w : World} (Φ : World → Prop) (hΦ : Φ w) (h : ∀ W, Φ W → Calls P f args W R) : Calls P f args w R := h w hΦ
def Bel (w w' : World) : Prop := Below w.heap.size w w'
theorem Bel.refl (w : World) : Bel w w := Below.refl _ w
theorem Bel.trans {w w1 w2 : World} (h : Bel w w1) (k : Bel w1 w2) : Bel w w2 := ⟨k.os.trans h.os, k.tape.trans h.tape, k.output.trans h.output, Nat.le_trans h.size k.size, fun i hi => (k.block i (Nat.lt_of_lt_of_le hi h.size)).trans (h.block i hi)⟩
theorem Bel.alloc (w : World) (o : Obj) : Bel w (w.alloc o) := (Below.refl _ w).alloc (Nat.le_refl _) o
theorem Bel.drew (w : World) : Bel w w.drew := ⟨rfl, rfl, rfl, Nat.le_refl _, fun _ _ => rfl⟩
theorem Bel.drewN (w : World) : ∀ n, Bel w (w.drewN n)
  | n => ⟨rfl, rfl, rfl, Nat.le_refl _, fun _ _ => rfl⟩
theorem blk_lt {w : World} {k : Nat} {o : Obj} (h : w.heap[k]? = some o) : k < w.heap.size := (Array.getElem?_eq_some_iff.1 h).1
theorem blk_below {w w1 : World} {g : Nat} {o : Obj} (h : w.heap[g]? = some o) (k : Bel w w1) : w1.heap[g]? = some o := (k.block g (blk_lt h)).trans h
theorem blk_cell {w : World} {g : Nat} {cs : Array Value} {t : TypeId} (h : w.heap[g]? = some (.cells cs t (0, 0))) (j : Nat) : w.cell? ⟨g, j, none⟩ = cs[j]? := by simp [World.cell?, h]
theorem blk_frozen {w : World} {g : Nat} {cs : Array Value} {t : TypeId} (h : w.heap[g]? = some (.cells cs t (0, 0))) (j : Nat) : w.frozen? ⟨g, j, none⟩ = false := by simp [World.frozen?, h]
theorem cellB {w w1 : World} (h : Bel w w1) {a : Addr} {v : Value} (hc : w.cell? a = some v) : w1.cell? a = some v :=
  (World.cell?_of_block (h.block a.block (World.block_lt_of_cell? w a hc))).trans hc
theorem bel_grown {w w1 : World} (h : Bel w w1) (r : Option Nat) : w.grownBy w1 r := ⟨h.os, h.tape, h.output, h.size, fun k hk _ => h.block k hk⟩
theorem w64i {x : Int} (h1 : -9223372036854775808 ≤ x) (h2 : x ≤ 9223372036854775807) : IntKind.i64.wrap x = x := by
  rw [IntKind.wrap_i64]; omega
/-- An element. -/
structure El where
  f0 : Int
  f1 : Int
  f2 : Int
def enc (x : El) : List Value := [.int .i64 x.f0, .int .i64 x.f1, .int .i64 x.f2]
def flat (l : List El) : List Value := l.flatMap enc
theorem flat_nil : flat [] = [] := rfl
theorem flat_cons (x : El) (l : List El) : flat (x :: l) = enc x ++ flat l := rfl
theorem flat_append (l m : List El) : flat (l ++ m) = flat l ++ flat m := by unfold flat; simp
theorem flat_len (l : List El) : (flat l).length = l.length * 3 := by
  induction l with
  | nil => rfl
  | cons x l ih => rw [flat_cons, List.length_append, ih]; simp [enc]; omega
theorem flat_take (l : List El) (i : Nat) : (flat l).take (i * 3) = flat (l.take i) := by
  induction l generalizing i with
  | nil => simp [flat]
  | cons x l ih =>
    cases i with
    | zero => simp [flat]
    | succ i =>
      rw [flat_cons, List.take_succ_cons, flat_cons, ← ih i]
      have : (i + 1) * 3 = (enc x).length + i * 3 := by simp [enc]; omega
      rw [this, List.take_length_add_append]
theorem flat_drop (l : List El) (i : Nat) : (flat l).drop (i * 3) = flat (l.drop i) := by
  induction l generalizing i with
  | nil => simp [flat]
  | cons x l ih =>
    cases i with
    | zero => simp
    | succ i =>
      rw [flat_cons, List.drop_succ_cons, ← ih i]
      have : (i + 1) * 3 = (enc x).length + i * 3 := by simp [enc]; omega
      rw [this, List.drop_length_add_append]
theorem enc_one (x : El) : ∀ u ∈ enc x, u.oneCell' = true := by
  intro u hu
  simp only [enc, List.mem_cons, List.mem_nil_iff, or_false] at hu
  rcases hu with rfl | rfl | rfl <;> rfl
theorem flat_one (l : List El) : ∀ u ∈ flat l, u.oneCell' = true := by
  intro u hu
  unfold flat at hu
  obtain ⟨x, _, h⟩ := List.mem_flatMap.1 hu
  exact enc_one x u h
def el0 : El := ⟨0, 0, 0⟩
def nth (l : List El) (i : Nat) : El := l.getD i el0
theorem nth_get {l : List El} {i : Nat} (h : i < l.length) : l[i]? = some (nth l i) := by
  unfold nth; rw [List.getD_eq_getElem?_getD, List.getElem?_eq_getElem h]; rfl
theorem nth_mem {l : List El} {i : Nat} (h : i < l.length) : nth l i ∈ l := List.mem_of_getElem? (nth_get h)
theorem drop_nth {l : List El} {i : Nat} (h : i < l.length) : l.drop i = nth l i :: l.drop (i + 1) := by
  rw [List.drop_eq_getElem_cons h]
  congr 1
  have := nth_get h
  rw [List.getElem?_eq_getElem h] at this
  exact Option.some.inj this
/-- A row of the call's own. -/
def Row (w : World) (base : Nat) (v : Value) (l : List El) : Prop := w.ownsRow base 51 3 v l.length (flat l)
/-- A row that is read. -/
def RC (w : World) (A : Option Addr) (l : List El) : Prop := ∀ i, i < l.length → ∃ ad, A = some ad ∧ w.cell? (ad.add (i * 3)) = some (.int .i64 (nth l i).f0) ∧ w.cell? ⟨(ad.add (i * 3)).block, (ad.add (i * 3)).off + 1, none⟩ = some (.int .i64 (nth l i).f1) ∧ w.cell? ⟨(ad.add (i * 3)).block, (ad.add (i * 3)).off + 2, none⟩ = some (.int .i64 (nth l i).f2)
theorem RC.below {w w1 : World} {A : Option Addr} {l : List El} (h : RC w A l) (k : Bel w w1) : RC w1 A l := fun i hi => by
  obtain ⟨ad, e, h1, h2, h3⟩ := h i hi
  exact ⟨ad, e, cellB k h1, cellB k h2, cellB k h3⟩
theorem Row.nil (w : World) (base : Nat) : Row w base (.slice none 0 0) [] := World.ownsRow_nil w base 51 3
theorem Row.reads {w : World} {base : Nat} {v : Value} {l : List El} (h : Row w base v l) : ∃ A c, v = .slice A l.length c ∧ l.length ≤ c ∧ RC w A l := by
  obtain ⟨hl, ⟨rfl, h0⟩ | ⟨g, cap, cur, rfl, hb, hg, hn, hc, hs, hx⟩⟩ := h
  · refine ⟨none, 0, by rw [h0], by omega, fun i hi => by omega⟩
  · refine ⟨_, _, rfl, hn, fun i hi => ⟨_, rfl, ?_⟩⟩
    have key : ∀ j u, (enc (nth l i))[j]? = some u → w.cell? ⟨g, i * 3 + j, none⟩ = some u := by
      intro j u hu
      have hj : j < 3 := by have := (List.getElem?_eq_some_iff.1 hu).1; simpa [enc] using this
      have h1 : (flat l)[i * 3 + j]? = some u := by
        rw [← List.getElem?_drop, flat_drop, drop_nth hi, flat_cons, List.getElem?_append_left (by simp [enc]; omega)]
        exact hu
      rw [← hx, List.getElem?_take] at h1
      split at h1
      · rw [blk_cell hg]; simpa using h1
      · simp at h1
    rw [cells_add]
    exact ⟨by simpa using key 0 _ rfl, by simpa using key 1 _ rfl, by simpa using key 2 _ rfl⟩
theorem Row.bel {w w1 : World} {base : Nat} {v : Value} {l : List El} (h : Row w base v l) (k : Bel w w1) : Row w1 base v l :=
  World.ownsRow.kept h (bel_grown k none) (by cases hv : v.ownBlock <;> simp)
theorem Row.blk {w : World} {base : Nat} {v : Value} {l : List El} (h : Row w base v l) {k : Nat} (hk : v.ownBlock = some k) : base ≤ k ∧ ∃ cs, w.heap[k]? = some (.cells cs 51 (0, 0)) := by
  obtain ⟨hl, ⟨rfl, h0⟩ | ⟨g, cap, cur, rfl, hb, hg, hn, hc, hs, hx⟩⟩ := h
  · simp [Value.ownBlock] at hk
  · simp [Value.ownBlock] at hk
    subst hk
    exact ⟨hb, _, hg⟩
theorem Row.len {w : World} {base : Nat} {v : Value} {l : List El} (h : Row w base v l) : ∃ A c, v = .slice A l.length c := by
  obtain ⟨A, c, h1, _⟩ := h.reads; exact ⟨A, c, h1⟩
/-- What else there is (but for block g, and rows of ours) stays. -/
structure Kp (base g : Nat) (w w' : World) : Prop where
  os : w'.os = w.os
  tape : w'.tape = w.tape
  output : w'.output = w.output
  size : w.heap.size ≤ w'.heap.size
  blk : ∀ k, k < w.heap.size → k ≠ g → (k < base ∨ ∀ cs, w.heap[k]? ≠ some (.cells cs 51 (0, 0))) → w'.heap[k]? = w.heap[k]?
theorem Kp.of_bel {base g : Nat} {w w' : World} (h : Bel w w') : Kp base g w w' := ⟨h.os, h.tape, h.output, h.size, fun k hk _ _ => h.block k hk⟩
theorem Kp.trans {base g : Nat} {a b c : World} (h : Kp base g a b) (k : Kp base g b c) : Kp base g a c :=
  ⟨k.os.trans h.os, k.tape.trans h.tape, k.output.trans h.output, Nat.le_trans h.size k.size, fun i hi hne hq => by
    have e := h.blk i hi hne hq
    rw [← e]
    exact k.blk i (Nat.lt_of_lt_of_le hi h.size) hne (by rw [e]; exact hq)⟩
theorem Kp.of_grown {base g : Nat} {w w' : World} {v : Value} {l : List El} (h : w.grownBy w' v.ownBlock) (hr : Row w base v l) : Kp base g w w' :=
  ⟨h.os, h.tape, h.output, h.size, fun k hk _ hq => h.block k hk (fun e => by
    obtain ⟨h1, cs, h2⟩ := hr.blk e.symm
    rcases hq with hq | hq
    · omega
    · exact hq cs h2)⟩
theorem Kp.of_set {base g : Nat} {w : World} (p : Addr) (hp : p.block = g) (u : Value) : Kp base g w (w.setCell p u) :=
  ⟨rfl, rfl, rfl, (((Below.refl 0 w).setCell (p := p) (Nat.zero_le _) u).size), fun k hk hne _ => Below.heap_setCell w p u k (by rw [hp]; exact hne)⟩
theorem Kp.refl (base g : Nat) (w : World) : Kp base g w w := Kp.of_bel (Bel.refl w)
theorem Kp.below {base g : Nat} {w w' : World} (h : Kp base g w w') (hg : base ≤ g) (hb : base = w.heap.size) : Bel w w' :=
  ⟨h.os, h.tape, h.output, h.size, fun k hk => h.blk k hk (by omega) (.inl (by omega))⟩
theorem Kp.below' {base g : Nat} {w w1 w2 : World} (hb : Bel w w1) (h : Kp w.heap.size g w1 w2) (hg : w.heap.size ≤ g) : Bel w w2 :=
  ⟨h.os.trans hb.os, h.tape.trans hb.tape, h.output.trans hb.output, Nat.le_trans hb.size h.size, fun k hk => (h.blk k (Nat.lt_of_lt_of_le hk hb.size) (by omega) (.inl hk)).trans (hb.block k hk)⟩
/-- A block of another type, kept. -/
theorem Kp.keep {base g : Nat} {w w' : World} (h : Kp base g w w') {k : Nat} {cs : Array Value} {t : TypeId} (hk : w.heap[k]? = some (.cells cs t (0, 0))) (hne : k ≠ g) (ht : t ≠ 51) : w'.heap[k]? = some (.cells cs t (0, 0)) := by
  rw [h.blk k (blk_lt hk) hne (.inr fun cs' e => ?_)]
  · exact hk
  · rw [hk] at e
    simp at e
    exact ht e.2
theorem insRow (w : World) (base vb i : Nat) (v : Value) (l : List El) (x : El) (h : Row w base v l) (hi : i ≤ l.length) (hb : base ≤ w.heap.size) (hsm : l.length ≤ 100000) (hvb : w.heap[vb]? = some (.cells (enc x).toArray 51 (0, 0))) (hne : some vb ≠ v.ownBlock) :
    Calls Try.prog 25 #[v, .int .i64 i, .slice (some ⟨vb, 0, none⟩) 1 1] w fun e w' => ∃ v', e = .returned v' ∧ Row w' base v' (l.take i ++ x :: l.drop i) ∧ w.grownBy w' v.ownBlock := by
  refine (insC w base vb l.length i v (flat l) (enc x) h hi hb hsm (flat_one l) rfl (enc_one x) hvb hne).mono ?_
  rintro e w' ⟨v', rfl, h1, h2⟩
  refine ⟨v', rfl, ?_, h2⟩
  unfold Row
  rw [flat_append, flat_cons, ← flat_take, ← flat_drop, ← List.append_assoc]
  have : (l.take i ++ x :: l.drop i).length = l.length + 1 := by simp; omega
  rw [this]
  exact h1
theorem delRow (w : World) (base i : Nat) (v : Value) (l : List El) (h : Row w base v l) (hi : i < l.length) :
    Calls Try.prog 23 #[v, .int .i64 i, .int .i64 ((i : Int) + 1)] w fun e w' => ∃ v', e = .returned v' ∧ Row w' base v' (l.take i ++ l.drop (i + 1)) ∧ w.grownBy w' v.ownBlock := by
  refine (delC w base v l.length (flat l) h i hi (flat_one l)).mono ?_
  rintro e w' ⟨v', rfl, h1, h2, _⟩
  refine ⟨v', rfl, ?_, h2⟩
  unfold Row
  rw [flat_append, ← flat_take, ← flat_drop]
  have : (l.take i ++ l.drop (i + 1)).length = l.length - 1 := by simp; omega
  rw [this]
  exact h1
/-! ### found by keys -/
theorem isNaN (a : Int) (w : World) : Calls Try.prog 34 #[.int .i64 a] w fun e w' => e = .returned (.bool false) ∧ w = w' := by
  go_enter Try.func34, Try.ntmps34
  go_wp2_with fail
  go_ret
  exact ⟨by simp, rfl⟩
def cmpF (a b : Int) : Int := if a < b then -1 else if b < a then 1 else 0
set_option maxHeartbeats 1000000 in
theorem compare (a b : Int) (w : World) : Calls Try.prog 31 #[.int .i64 a, .int .i64 b] w fun e w' => e = .returned (.int .i64 (cmpF a b)) ∧ w = w' := by
  have K := Lib.hid isNaN
  unfold cmpF
  by_cases h1 : a < b
  · rw [if_pos h1]
    go_enter Try.func31, Try.ntmps31
    go_wp2_with fail
    refine (K.out _ _).mono ?_
    rintro e w1 ⟨rfl, rfl⟩
    go_wp2_with fail
    refine (K.out _ _).mono ?_
    rintro e w1 ⟨rfl, rfl⟩
    go_wp2_with fail
    go_ret
    exact ⟨rfl, rfl⟩
  · rw [if_neg h1]
    by_cases h2 : b < a
    · rw [if_pos h2]
      go_enter Try.func31, Try.ntmps31
      go_wp2_with fail
      refine (K.out _ _).mono ?_
      rintro e w1 ⟨rfl, rfl⟩
      go_wp2_with fail
      refine (K.out _ _).mono ?_
      rintro e w1 ⟨rfl, rfl⟩
      go_wp2_with fail
      go_ret
      exact ⟨rfl, rfl⟩
    · rw [if_neg h2]
      go_enter Try.func31, Try.ntmps31
      go_wp2_with fail
      refine (K.out _ _).mono ?_
      rintro e w1 ⟨rfl, rfl⟩
      go_wp2_with fail
      refine (K.out _ _).mono ?_
      rintro e w1 ⟨rfl, rfl⟩
      go_wp2_with fail
      go_ret
      exact ⟨rfl, rfl⟩
set_option maxHeartbeats 1000000 in
theorem closure (x : El) (t : Int) (w : World) : Calls Try.prog 30 #[.agg #[.int .i64 x.f0, .int .i64 x.f1, .int .i64 x.f2], .int .i64 t] w fun e w' => e = .returned (.int .i64 (cmpF x.f0 t)) ∧ Bel w w' := by
  obtain ⟨a, b, c⟩ := x
  have K := Lib.hid (compare a t)
  go_enter Try.func30, Try.ntmps30
  go_wp2_with fail
  refine (K.out _).mono ?_
  rintro e w1 ⟨rfl, rfl⟩
  go_wp2_with fail
  go_ret
  exact ⟨rfl, Bel.alloc _ _⟩
/-- Place i parts the keys below t from the others. -/
def FindAt (l : List El) (t : Int) (i : Nat) : Prop := i ≤ l.length ∧ (∀ j : Nat, j < i → (nth l j).f0 < t) ∧ (∀ j : Nat, i ≤ j → j < l.length → t ≤ (nth l j).f0)
def Rising (l : List El) : Prop := ∀ i j : Nat, i < j → j < l.length → (nth l i).f0 < (nth l j).f0
/-- Is it there? -/
def isAt (l : List El) (t : Int) (i : Nat) : Bool := decide (i < l.length) && decide ((nth l i).f0 = t)
set_option maxHeartbeats 4000000 in
set_option maxRecDepth 100000 in
theorem bsf (A : Option Addr) (c : Nat) (l : List El) (t : Int) (hs : Rising l) (hlen : l.length ≤ 1000000) (w : World) (hC : RC w A l) :
    Calls Try.prog 29 #[.slice A l.length c, .int .i64 t, .func (.func 30) #[] #[]] w fun e w' => ∃ (i : Nat), e = .returned (.tuple #[.int .i64 i, .bool (isAt l t i)]) ∧ FindAt l t i ∧ Bel w w' := by
  have K := Lib.hid (fun x => closure x t)
  have HC := Lib.hid hC
  have HS := Lib.hid hs
  have hll : Hid (l.length = l.length) := Lib.hid rfl
  clear hC hs
  go_enter Try.func29, Try.ntmps29
  go_wp2_with fail
  have hlm : (0 : Int) ≤ l.length := by omega
  go_loopw [9, 10] (fun v9 v10 wr => ∃ (lo hi : Nat), v9 = .int .i64 lo ∧ v10 = .int .i64 hi ∧ lo ≤ hi ∧ hi ≤ l.length ∧ Hid (Bel w wr ∧ (∀ j : Nat, j < lo → (nth l j).f0 < t) ∧ (∀ j : Nat, hi ≤ j → j < l.length → t ≤ (nth l j).f0))) (fun v9 v10 _ => (intOf v10 - intOf v9).toNat)
  case atStart => exact ⟨0, l.length, rfl, rfl, by omega, by omega, Lib.hid ⟨Bel.refl _, fun j hj => absurd hj (by omega), fun j h1 h2 => absurd h1 (by omega)⟩⟩
  case round =>
    obtain ⟨wo, rfl⟩ : ∃ wo : World, wo = wr := ⟨_, rfl⟩
    obtain ⟨lo, hi, rfl, rfl, hlh, hin, HI⟩ := hrel
    have hC' := HC.out.below HI.out.1
    by_cases hlt : lo < hi
    · obtain ⟨ad, rfl, x0, x1, x2⟩ := hC' ((lo + hi) / 2) (by omega)
      generalize hy : nth l ((lo + hi) / 2) = y at x0 x1 x2
      have HCl := Lib.hid (fun wx => K.out y wx)
      obtain ⟨y0, y1, y2⟩ := y
      simp only [] at x0 x1 x2 HCl
      have HY := Lib.hid hy
      clear hy hC'
      by_cases hc : y0 < t
      · have hcm : cmpF y0 t = -1 := by unfold cmpF; rw [if_pos (by omega)]
        rw [hcm] at HCl
        clear hcm
        go_wp2_with fail
        refine (HCl.out _).mono ?_
        rintro e w' ⟨rfl, hb⟩
        go_wp2_with fail
        have hfin : Hid (Bel w w' ∧ (∀ j : Nat, j < (lo + hi) / 2 + 1 → (nth l j).f0 < t) ∧ (∀ j : Nat, hi ≤ j → j < l.length → t ≤ (nth l j).f0)) := Lib.hid ⟨HI.out.1.trans hb, fun j hj => by
          by_cases hjm : j = (lo + hi) / 2
          · rw [hjm, HY.out]; exact hc
          · have := HS.out j ((lo + hi) / 2) (by omega) (by omega)
            rw [HY.out] at this
            exact Int.lt_trans this hc, HI.out.2.2⟩
        exact ⟨⟨(lo + hi) / 2 + 1, hi, by first | (congr 1; done) | (congr 1; omega), rfl, by omega, by omega, hfin⟩, by simp [intOf]; omega⟩
      · have hcm : 0 ≤ cmpF y0 t := by unfold cmpF; rw [if_neg (by omega)]; split <;> omega
        generalize cmpF y0 t = q at *
        go_wp2_with fail
        refine (HCl.out _).mono ?_
        rintro e w' ⟨rfl, hb⟩
        go_wp2_with fail
        have hfin : Hid (Bel w w' ∧ (∀ j : Nat, j < lo → (nth l j).f0 < t) ∧ (∀ j : Nat, (lo + hi) / 2 ≤ j → j < l.length → t ≤ (nth l j).f0)) := Lib.hid ⟨HI.out.1.trans hb, HI.out.2.1, fun j h1 h2 => by
          by_cases hjm : j = (lo + hi) / 2
          · rw [hjm, HY.out]; simp only []; omega
          · have := HS.out ((lo + hi) / 2) j (by omega) h2
            rw [HY.out] at this
            simp only [] at this
            omega⟩
        exact ⟨⟨lo, (lo + hi) / 2, rfl, by first | (congr 1; done) | (congr 1; omega), by omega, by omega, hfin⟩, by simp [intOf]; omega⟩
    · have hle : hi = lo := by omega
      subst hle
      have hfa : Hid (FindAt l t hi) := Lib.hid ⟨hin, HI.out.2.1, HI.out.2.2⟩
      have hbw := HI.out.1
      by_cases hn : hi < l.length
      · obtain ⟨ad, rfl, x0, x1, x2⟩ := hC' hi hn
        have hia : Hid (isAt l t hi = decide ((nth l hi).f0 = t)) := Lib.hid (by unfold isAt; simp [hn])
        have hge := hfa.out.2.2 hi (Nat.le_refl _) hn
        generalize nth l hi = y at *
        have HCl := Lib.hid (fun wx => K.out y wx)
        obtain ⟨y0, y1, y2⟩ := y
        simp only [] at x0 x1 x2 HCl hge hia
        have hcd : (cmpF y0 t = 0) ↔ (y0 = t) := by unfold cmpF; constructor <;> intro h <;> (repeat' split at h) <;> first | omega | (repeat' split) <;> omega
        have hcb : Hid (decide (cmpF y0 t = 0) = decide (y0 = t)) := Lib.hid (decide_eq_decide.2 hcd)
        have hcb2 : Hid ((cmpF y0 t == 0) = decide (y0 = t)) := Lib.hid (by rw [← hcb.out]; rfl)
        clear hcd hge
        generalize cmpF y0 t = q at *
        clear hC' HI
        go_wp2_with fail
        refine (HCl.out _).mono ?_
        rintro e w' ⟨rfl, hb⟩
        go_wp2_with fail
        go_ret2
        exact ⟨hi, by rw [hia.out]; first | (rw [← hcb.out]; rfl) | (rw [← hcb2.out]; rfl), hfa.out, hbw.trans hb⟩
      · have hia : Hid (isAt l t hi = false) := Lib.hid (by unfold isAt; simp [hn])
        clear hC' HI
        go_wp2_with fail
        go_ret2
        exact ⟨hi, by rw [hia.out]; rfl, hfa.out, hbw⟩
end Go.Proofs.Ythhigmkheccfpaa
