/- Rows of the call's own, of whatever elements of plain cells. -/
import Derived.Test.YthhigmkheccfpaaRowSt
import Derived.Laws.AppendOwn
set_option linter.unusedVariables false
set_option linter.unusedSimpArgs false
namespace Go.Proofs.Ythhigmkheccfpaa
open Go.RowKit
structure Enc (α : Type) where
  enc : α → List Value
  m : Nat
  E : TypeId
  len : ∀ x, (enc x).length = m
  one : ∀ x, ∀ u ∈ enc x, u.oneCell' = true
  pos : 0 < m
  dflt : α
section
variable {α : Type} (K : Enc α)
def Enc.flat (l : List α) : List Value := l.flatMap K.enc
theorem Enc.flat_len (l : List α) : (K.flat l).length = l.length * K.m := by
  induction l with
  | nil => simp [Enc.flat]
  | cons x l ih => unfold Enc.flat at ih ⊢; rw [List.flatMap_cons, List.length_append, ih, K.len, List.length_cons, Nat.succ_mul]; omega
theorem Enc.flat_append (l r : List α) : K.flat (l ++ r) = K.flat l ++ K.flat r := by unfold Enc.flat; simp
theorem Enc.flat_one (l : List α) : ∀ u ∈ K.flat l, u.oneCell' = true := by
  intro u hu
  unfold Enc.flat at hu
  obtain ⟨x, _, h⟩ := List.mem_flatMap.1 hu
  exact K.one x u h
def Enc.nth (l : List α) (i : Nat) : α := l.getD i K.dflt
theorem Enc.nth_el {l : List α} {i : Nat} (h : i < l.length) : K.nth l i = l[i] := by
  unfold Enc.nth; rw [List.getD_eq_getElem?_getD, List.getElem?_eq_getElem h]; rfl
theorem Enc.nth_mem {l : List α} {i : Nat} (h : i < l.length) : K.nth l i ∈ l := by rw [K.nth_el h]; exact List.getElem_mem h
theorem Enc.mem_nth {l : List α} {x : α} (h : x ∈ l) : ∃ i, i < l.length ∧ K.nth l i = x := by
  obtain ⟨i, hi, rfl⟩ := List.getElem_of_mem h
  exact ⟨i, hi, K.nth_el hi⟩
theorem Enc.flat_get (l : List α) (i j : Nat) (hi : i < l.length) (hj : j < K.m) : (K.flat l)[i * K.m + j]? = (K.enc (K.nth l i))[j]? := by
  have e : l = l.take i ++ K.nth l i :: l.drop (i + 1) := by
    rw [K.nth_el hi, List.getElem_cons_drop, List.take_append_drop]
  conv => lhs; rw [e]
  rw [K.flat_append]
  have h1 : (K.flat (l.take i)).length = i * K.m := by rw [K.flat_len, List.length_take, Nat.min_eq_left (by omega)]
  rw [List.getElem?_append_right (by omega), h1, show i * K.m + j - i * K.m = j by omega]
  unfold Enc.flat
  rw [List.flatMap_cons, List.getElem?_append_left (by rw [K.len]; exact hj)]
/-- A row of the call's own. -/
def Enc.Row (w : World) (base : Nat) (v : Value) (l : List α) : Prop := w.ownsRow base K.E K.m v l.length (K.flat l)
/-- A row that is read. -/
def Enc.RC (w : World) (A : Option Addr) (l : List α) : Prop := ∀ i, i < l.length → ∃ ad, A = some ad ∧ ∀ j u, (K.enc (K.nth l i))[j]? = some u → w.cell? (⟨(ad.add (i * K.m)).block, (ad.add (i * K.m)).off + j, none⟩ : Addr) = some u
variable {K}
theorem Enc.Row.nil (w : World) (base : Nat) : K.Row w base (.slice none 0 0) [] := World.ownsRow_nil w base K.E K.m
theorem Enc.Row.reads {w : World} {base : Nat} {v : Value} {l : List α} (h : K.Row w base v l) : ∃ A c, v = .slice A l.length c ∧ l.length ≤ c ∧ K.RC w A l := by
  obtain ⟨hl, ⟨rfl, h0⟩ | ⟨g, cap, cur, rfl, hb, hg, hn, hc, hs, hx⟩⟩ := h
  · refine ⟨none, 0, by rw [h0], by omega, fun i hi => by omega⟩
  · refine ⟨_, _, rfl, hn, fun i hi => ⟨_, rfl, fun j u hu => ?_⟩⟩
    have hj : j < K.m := by have := (List.getElem?_eq_some_iff.1 hu).1; rwa [K.len] at this
    rw [← K.flat_get l i j hi hj, ← hx, List.getElem?_take] at hu
    split at hu
    · rw [show (⟨g, 0, none⟩ : Addr).add (i * K.m) = ⟨g, i * K.m, none⟩ by rw [cells_add, Nat.zero_add], blk_cell hg]; simpa using hu
    · simp at hu
theorem Enc.RC.below {w w1 : World} {A : Option Addr} {l : List α} (h : K.RC w A l) (k : Bel w w1) : K.RC w1 A l := fun i hi => by
  obtain ⟨ad, e, h1⟩ := h i hi
  exact ⟨ad, e, fun j u hu => cellB k (h1 j u hu)⟩
theorem Enc.RC.some {w : World} {A : Option Addr} {l : List α} (h : K.RC w A l) (h0 : 0 < l.length) : ∃ ad, A = some ad ∧ ∀ i, i < l.length → ∀ j u, (K.enc (K.nth l i))[j]? = some u → w.cell? (⟨(ad.add (i * K.m)).block, (ad.add (i * K.m)).off + j, none⟩ : Addr) = some u := by
  obtain ⟨ad, rfl, _⟩ := h 0 h0
  refine ⟨ad, rfl, fun i hi => ?_⟩
  obtain ⟨ad', e, h1⟩ := h i hi
  obtain rfl := Option.some.inj e
  exact h1
theorem Enc.Row.bel {w w1 : World} {base : Nat} {v : Value} {l : List α} (h : K.Row w base v l) (k : Bel w w1) : K.Row w1 base v l :=
  World.ownsRow.kept h (bel_grown k none) (by cases hv : v.ownBlock <;> simp)
theorem Enc.Row.blk {w : World} {base : Nat} {v : Value} {l : List α} (h : K.Row w base v l) {k : Nat} (hk : v.ownBlock = some k) : base ≤ k ∧ ∃ cs, w.heap[k]? = some (.cells cs K.E (0, 0)) := by
  obtain ⟨hl, ⟨rfl, h0⟩ | ⟨g, cap, cur, rfl, hb, hg, hn, hc, hs, hx⟩⟩ := h
  · simp [Value.ownBlock] at hk
  · simp [Value.ownBlock] at hk
    subst hk
    exact ⟨hb, _, hg⟩
theorem Enc.Row.ne_new {w : World} {base : Nat} {v : Value} {l : List α} (h : K.Row w base v l) {k : Nat} (hk : w.heap.size ≤ k) : some k ≠ v.ownBlock := fun e => by
  obtain ⟨_, cs, h2⟩ := h.blk e.symm
  have := blk_lt h2
  omega
theorem Enc.Row.off {w w' : World} {base : Nat} {r : Option Nat} {v : Value} {l : List α} (h : K.Row w base v l) (k : w.grownBy w' r) (hne : v.ownBlock = none ∨ v.ownBlock ≠ r) : K.Row w' base v l :=
  World.ownsRow.kept (row := r) h k hne
theorem Enc.Row.bel_grown {w0 w w' : World} {base : Nat} {v : Value} {l : List α} (h : K.Row w base v l) (hb : Bel w0 w) (hg : w.grownBy w' v.ownBlock) (h0 : w0.heap.size ≤ base) : Bel w0 w' :=
  ⟨hg.os.trans hb.os, hg.tape.trans hb.tape, hg.output.trans hb.output, Nat.le_trans hb.size hg.size, fun k hk => (hg.block k (Nat.lt_of_lt_of_le hk hb.size) (fun e => by
    obtain ⟨h1, _⟩ := h.blk e.symm
    omega)).trans (hb.block k hk)⟩
/-- append(s, p), p in a new block of one element. -/
theorem Enc.Row.append {ops : Array Oper} {rest : List Oper} {o : Oper} {a : Act} {Q : Exit → Act → World → Prop} {W : World} {base : Nat} {v : Value} {l : List α} (hown : K.Row W base v l) (p : α) (hgd : o.guard = none) (s x : Operand) (t : TypeId)
    (ho : o.op = .call { callee := .builtin .append, args := #[s, x], argTypes := #[t, t] }) (z : Value) (bytes : Nat) (ht : Try.prog.underlying t = some (.slice K.E)) (hi : (Try.prog.info? K.E).map (fun i => (i.zero, i.size, i.bytes)) = some (some z, K.m, bytes))
    (hzs : z.cells.size = K.m) (hby : bytes ≤ 64) (hs : a.eval s = v) (hx : a.eval x = .slice (some ⟨W.heap.size, 0, none⟩) 1 1) (hlen : l.length ≤ 1000000) (hbase : base ≤ W.heap.size)
    (h : ∀ v' w', K.Row w' base v' (l ++ [p]) → W.grownBy w' v.ownBlock → wpList Try.prog ops Q rest (a.put o.dst v') w') :
    wpList Try.prog ops Q (o :: rest) a (W.alloc (.cells (K.enc p).toArray K.E (0, 0))) := by
  obtain ⟨i, hi1, hi2, hi3, hi4⟩ : ∃ i, Try.prog.info? K.E = some i ∧ i.zero = some z ∧ i.size = K.m ∧ i.bytes = bytes := by
    cases hh : Try.prog.info? K.E with
    | none => rw [hh] at hi; simp at hi
    | some i => rw [hh] at hi; simp at hi; exact ⟨i, rfl, hi.1, hi.2.1, hi.2.2⟩
  have hb : Bel W (W.alloc (.cells (K.enc p).toArray K.E (0, 0))) := Bel.alloc _ _
  have hcell := heap_alloc_new W (.cells (K.enc p).toArray K.E (0, 0))
  have hbb : (l.length + 1) * bytes ≤ 140737488355328 := by
    have : (l.length + 1) * bytes ≤ 1000001 * 64 := Nat.mul_le_mul (by omega) hby
    omega
  refine wpList_append_own _ hgd s x t ho base K.E i z K.m bytes ht hi1 hi2 hi3 hi4 hzs K.pos v l.length (K.flat l) hs (hown.bel hb) ⟨W.heap.size, 0, none⟩ 1 1 (K.enc p) hx (by rw [K.len]; omega) (fun j u hu => ?_) (K.one p) (by have : maxLen = 9223372036854775807 := rfl; omega) hbb (by have := hb.size; omega) (fun v' w' h1 h2 _ => h v' w' ?_ ?_)
  · rw [show (⟨W.heap.size, 0, none⟩ : Addr).add j = ⟨W.heap.size, j, none⟩ by rw [cells_add, Nat.zero_add], blk_cell hcell]; simpa using hu
  · unfold Enc.Row
    rw [K.flat_append, List.length_append]
    simpa [Enc.flat] using h1
  · exact ⟨h2.os, h2.tape, h2.output, Nat.le_trans hb.size h2.size, fun k hk hne => (h2.block k (Nat.lt_of_lt_of_le hk hb.size) hne).trans (hb.block k hk)⟩
theorem Enc.flat_set (l : List α) (k j : Nat) (x : α) (u : Value) (hk : k < l.length) (hj : j < K.m) (he : K.enc x = (K.enc (K.nth l k)).set j u) : (K.flat l).set (k * K.m + j) u = K.flat (l.set k x) := by
  have e : l = l.take k ++ K.nth l k :: l.drop (k + 1) := by
    rw [K.nth_el hk, List.getElem_cons_drop, List.take_append_drop]
  have e2 : l.set k x = l.take k ++ x :: l.drop (k + 1) := by rw [List.set_eq_take_append_cons_drop, if_pos hk]
  have h1 : (K.flat (l.take k)).length = k * K.m := by rw [K.flat_len, List.length_take, Nat.min_eq_left (by omega)]
  rw [e2, K.flat_append]
  conv => lhs; rw [e]
  rw [K.flat_append, List.set_append_right _ _ (by omega), h1, show k * K.m + j - k * K.m = j by omega]
  unfold Enc.flat
  rw [List.flatMap_cons, List.flatMap_cons, List.set_append_left _ _ (by rw [K.len]; exact hj), he]
/-- A cell of an element is set. -/
theorem Enc.Row.setW {w : World} {base : Nat} {v : Value} {l : List α} (h : K.Row w base v l) {k j : Nat} (hk : k < l.length) (hj : j < K.m) (x : α) (u : Value) (he : K.enc x = (K.enc (K.nth l k)).set j u) :
    ∃ g' c, v = .slice (some ⟨g', 0, none⟩) l.length c ∧ base ≤ g' ∧ w.frozen? ⟨g', k * K.m + j, none⟩ = false ∧ K.Row (w.setCell ⟨g', k * K.m + j, none⟩ u) base v (l.set k x) ∧ w.grownBy (w.setCell ⟨g', k * K.m + j, none⟩ u) v.ownBlock := by
  obtain ⟨hl, ⟨_, h0⟩ | ⟨g', cap, cur, rfl, hb, hg, hn, hc, hs, hx⟩⟩ := h
  · omega
  · refine ⟨g', cap, rfl, hb, blk_frozen hg _, ?_, ?_⟩
    · rw [setCell_eq_setRow w g' _ cur K.E (0, 0) _ hg]
      unfold Enc.Row
      refine ⟨by rw [K.flat_len], .inr ⟨g', cap, _, by simp, hb, setRow_heap w g' _ _ K.E (0, 0) hg, by simpa using hn, hc, by simpa using hs, ?_⟩⟩
      rw [← K.flat_set l k j x u hk hj he, ← hx, Array.toList_setIfInBounds, List.length_set, List.take_set]
    · rw [setCell_eq_setRow w g' _ cur K.E (0, 0) _ hg]
      exact grown_setRow w g' _
end
end Go.Proofs.Ythhigmkheccfpaa
