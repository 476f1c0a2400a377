/- The ground of the proofs about the engine: frames, rows of the call's own. -/
import Derived.Test.YtgpkpheejefiiaaGreatDoorProg
import Derived.WalkKit
import Derived.KernelRfl
import Derived.Below
import Derived.Lib.Hide
import Derived.Laws.AppendOwn
import Derived.Laws.CopyOwn
import Derived.Laws.IdiomCopy
import Derived.Laws.MakeOwn
import Derived.Laws.Externs
import Derived.Lib.AppendZeros
import Derived.Lib.AppendZerosOnto
import Derived.Lib.Overlaps
import Derived.Lib.SliceRun
import Derived.Deep.RegionLaw
import Derived.Deep.OwnRows
import Derived.Shelf.RegionOpenPlain
import Derived.ArgAppend
import Derived.OrdersHeld
import Derived.Tactics
import Derived.Lib.MinMax
import Derived.Deep.LoopGhost
import Derived.Deep.QuietTactic
import Derived.Deep.RegionHeld3
import Derived.BigRegion
import Derived.RegionTactic
set_option linter.unusedVariables false
set_option linter.unusedSimpArgs false
namespace Go.Proofs.YtgpkpheejefiiaaGreatDoor
open Go.RowKit
theorem wp_gen {P : Program} {c : Code} {Q : Exit → Go.Act → World → Prop} {a : Go.Act} {w : World} (Φ : World → Prop) (hΦ : Φ w) (h : ∀ W, Φ W → c.wp P Q a W) : c.wp P Q a w := h w hΦ
theorem calls_gen {P : Program} {f : FuncId} {args : Array Value} {R : Ending → World → Prop} {w : World} (Φ : World → Prop) (hΦ : Φ w) (h : ∀ W, Φ W → Calls P f args W R) : Calls P f args w R := h w hΦ
def Bel (w w' : World) : Prop := Below w.heap.size w w'
theorem Bel.refl (w : World) : Bel w w := Below.refl _ w
theorem Bel.trans {w w1 w2 : World} (h : Bel w w1) (k : Bel w1 w2) : Bel w w2 := ⟨k.os.trans h.os, k.tape.trans h.tape, k.output.trans h.output, Nat.le_trans h.size k.size, fun i hi => (k.block i (Nat.lt_of_lt_of_le hi h.size)).trans (h.block i hi)⟩
theorem Bel.alloc (w : World) (o : Obj) : Bel w (w.alloc o) := (Below.refl _ w).alloc (Nat.le_refl _) o
theorem Bel.drew (w : World) : Bel w w.drew := ⟨rfl, rfl, rfl, Nat.le_refl _, fun _ _ => rfl⟩
theorem Bel.drewN (w : World) : ∀ n, Bel w (w.drewN n)
  | n => ⟨rfl, rfl, rfl, Nat.le_refl _, fun _ _ => rfl⟩
theorem blk_lt {w : World} {k : Nat} {o : Obj} (h : w.heap[k]? = some o) : k < w.heap.size := (Array.getElem?_eq_some_iff.1 h).1
theorem blk_below {w w1 : World} {g : Nat} {o : Obj} (h : w.heap[g]? = some o) (k : Bel w w1) : w1.heap[g]? = some o := (k.block g (blk_lt h)).trans h
theorem blk_cell {w : World} {g : Nat} {cs : Array Value} {t : TypeId} (h : w.heap[g]? = some (.cells cs t (0, 0))) (j : Nat) : w.cell? ⟨g, j, none⟩ = cs[j]? := by simp [World.cell?, h]
theorem blk_frozen {w : World} {g : Nat} {cs : Array Value} {t : TypeId} (h : w.heap[g]? = some (.cells cs t (0, 0))) (j : Nat) : w.frozen? ⟨g, j, none⟩ = false := by simp [World.frozen?, h]
theorem cellB {w w1 : World} (h : Bel w w1) {a : Addr} {v : Value} (hc : w.cell? a = some v) : w1.cell? a = some v :=
  (World.cell?_of_block (h.block a.block (World.block_lt_of_cell? w a hc))).trans hc
theorem bel_grown {w w1 : World} (h : Bel w w1) (r : Option Nat) : w.grownBy w1 r := ⟨h.os, h.tape, h.output, h.size, fun k hk _ => h.block k hk⟩
theorem w64i {x : Int} (h1 : -9223372036854775808 ≤ x) (h2 : x ≤ 9223372036854775807) : IntKind.i64.wrap x = x := by
  rw [IntKind.wrap_i64]; omega
theorem inb_gen {n : Nat} {Q : Exit → Go.Act → World → Prop} {x : Exit} {a : Go.Act} {w : World} (Φ : World → Prop) (hΦ : Φ w) (h : ∀ W, Φ W → Exit.inBlock n Q x a W) : Exit.inBlock n Q x a w := h w hΦ
theorem then_gen {K : Go.Act → World → Prop} {Q : Exit → Go.Act → World → Prop} {x : Exit} {a : Go.Act} {w : World} (Φ : World → Prop) (hΦ : Φ w) (h : ∀ W, Φ W → Exit.then K Q x a W) : Exit.then K Q x a w := h w hΦ
theorem cells_add (g o j : Nat) : (⟨g, o, none⟩ : Addr).add j = ⟨g, o + j, none⟩ := by unfold Addr.add; split <;> simp_all
theorem cell_row {w : World} {g : Nat} {cur : List Value} {t : TypeId} (hg : w.heap[g]? = some (.cells cur.toArray t (0, 0))) (j : Nat) : w.cell? ⟨g, j, none⟩ = cur[j]? := by
  simp [World.cell?, hg]
structure Enc (α : Type) where
  enc : α → List Value
  m : Nat
  E : TypeId
  len : ∀ x, (enc x).length = m
  one : ∀ x, ∀ u ∈ enc x, u.oneCell' = true
  pos : 0 < m
  dflt : α
section
variable {α : Type} (K : Enc α)
def Enc.flat (l : List α) : List Value := l.flatMap K.enc
theorem Enc.flat_len (l : List α) : (K.flat l).length = l.length * K.m := by
  induction l with
  | nil => simp [Enc.flat]
  | cons x l ih => unfold Enc.flat at ih ⊢; rw [List.flatMap_cons, List.length_append, ih, K.len, List.length_cons, Nat.succ_mul]; omega
theorem Enc.flat_append (l r : List α) : K.flat (l ++ r) = K.flat l ++ K.flat r := by unfold Enc.flat; simp
theorem Enc.flat_one (l : List α) : ∀ u ∈ K.flat l, u.oneCell' = true := by
  intro u hu
  unfold Enc.flat at hu
  obtain ⟨x, _, h⟩ := List.mem_flatMap.1 hu
  exact K.one x u h
def Enc.nth (l : List α) (i : Nat) : α := l.getD i K.dflt
theorem Enc.nth_el {l : List α} {i : Nat} (h : i < l.length) : K.nth l i = l[i] := by
  unfold Enc.nth; rw [List.getD_eq_getElem?_getD, List.getElem?_eq_getElem h]; rfl
theorem Enc.nth_mem {l : List α} {i : Nat} (h : i < l.length) : K.nth l i ∈ l := by rw [K.nth_el h]; exact List.getElem_mem h
theorem Enc.mem_nth {l : List α} {x : α} (h : x ∈ l) : ∃ i, i < l.length ∧ K.nth l i = x := by
  obtain ⟨i, hi, rfl⟩ := List.getElem_of_mem h
  exact ⟨i, hi, K.nth_el hi⟩
theorem Enc.flat_get (l : List α) (i j : Nat) (hi : i < l.length) (hj : j < K.m) : (K.flat l)[i * K.m + j]? = (K.enc (K.nth l i))[j]? := by
  have e : l = l.take i ++ K.nth l i :: l.drop (i + 1) := by
    rw [K.nth_el hi, List.getElem_cons_drop, List.take_append_drop]
  conv => lhs; rw [e]
  rw [K.flat_append]
  have h1 : (K.flat (l.take i)).length = i * K.m := by rw [K.flat_len, List.length_take, Nat.min_eq_left (by omega)]
  rw [List.getElem?_append_right (by omega), h1, show i * K.m + j - i * K.m = j by omega]
  unfold Enc.flat
  rw [List.flatMap_cons, List.getElem?_append_left (by rw [K.len]; exact hj)]
theorem grown_setRow (w : World) (g : Nat) (cs : Array Value) : w.grownBy (w.setRow g cs) (some g) :=
  ⟨rfl, rfl, rfl, by simp, fun k hk hne => setRow_other w g k cs (fun e => hne (by rw [e]))⟩
/-- A row of the call's own. -/
def Enc.Row (w : World) (base : Nat) (v : Value) (l : List α) : Prop := w.ownsRow base K.E K.m v l.length (K.flat l)
/-- A row that is read. -/
def Enc.RC (w : World) (A : Option Addr) (l : List α) : Prop := ∀ i, i < l.length → ∃ ad, A = some ad ∧ ∀ j u, (K.enc (K.nth l i))[j]? = some u → w.cell? (⟨(ad.add (i * K.m)).block, (ad.add (i * K.m)).off + j, none⟩ : Addr) = some u
variable {K}
theorem Enc.Row.nil (w : World) (base : Nat) : K.Row w base (.slice none 0 0) [] := World.ownsRow_nil w base K.E K.m
theorem Enc.Row.reads {w : World} {base : Nat} {v : Value} {l : List α} (h : K.Row w base v l) : ∃ A c, v = .slice A l.length c ∧ l.length ≤ c ∧ K.RC w A l := by
  obtain ⟨hl, ⟨rfl, h0⟩ | ⟨g, cap, cur, rfl, hb, hg, hn, hc, hs, hx⟩⟩ := h
  · refine ⟨none, 0, by rw [h0], by omega, fun i hi => by omega⟩
  · refine ⟨_, _, rfl, hn, fun i hi => ⟨_, rfl, fun j u hu => ?_⟩⟩
    have hj : j < K.m := by have := (List.getElem?_eq_some_iff.1 hu).1; rwa [K.len] at this
    rw [← K.flat_get l i j hi hj, ← hx, List.getElem?_take] at hu
    split at hu
    · rw [show (⟨g, 0, none⟩ : Addr).add (i * K.m) = ⟨g, i * K.m, none⟩ by rw [cells_add, Nat.zero_add], blk_cell hg]; simpa using hu
    · simp at hu
theorem Enc.RC.below {w w1 : World} {A : Option Addr} {l : List α} (h : K.RC w A l) (k : Bel w w1) : K.RC w1 A l := fun i hi => by
  obtain ⟨ad, e, h1⟩ := h i hi
  exact ⟨ad, e, fun j u hu => cellB k (h1 j u hu)⟩
theorem Enc.RC.some {w : World} {A : Option Addr} {l : List α} (h : K.RC w A l) (h0 : 0 < l.length) : ∃ ad, A = some ad ∧ ∀ i, i < l.length → ∀ j u, (K.enc (K.nth l i))[j]? = some u → w.cell? (⟨(ad.add (i * K.m)).block, (ad.add (i * K.m)).off + j, none⟩ : Addr) = some u := by
  obtain ⟨ad, rfl, _⟩ := h 0 h0
  refine ⟨ad, rfl, fun i hi => ?_⟩
  obtain ⟨ad', e, h1⟩ := h i hi
  obtain rfl := Option.some.inj e
  exact h1
theorem Enc.Row.bel {w w1 : World} {base : Nat} {v : Value} {l : List α} (h : K.Row w base v l) (k : Bel w w1) : K.Row w1 base v l :=
  World.ownsRow.kept h (bel_grown k none) (by cases hv : v.ownBlock <;> simp)
theorem Enc.Row.blk {w : World} {base : Nat} {v : Value} {l : List α} (h : K.Row w base v l) {k : Nat} (hk : v.ownBlock = some k) : base ≤ k ∧ ∃ cs, w.heap[k]? = some (.cells cs K.E (0, 0)) := by
  obtain ⟨hl, ⟨rfl, h0⟩ | ⟨g, cap, cur, rfl, hb, hg, hn, hc, hs, hx⟩⟩ := h
  · simp [Value.ownBlock] at hk
  · simp [Value.ownBlock] at hk
    subst hk
    exact ⟨hb, _, hg⟩
theorem Enc.Row.ne_new {w : World} {base : Nat} {v : Value} {l : List α} (h : K.Row w base v l) {k : Nat} (hk : w.heap.size ≤ k) : some k ≠ v.ownBlock := fun e => by
  obtain ⟨_, cs, h2⟩ := h.blk e.symm
  have := blk_lt h2
  omega
theorem Enc.Row.off {w w' : World} {base : Nat} {r : Option Nat} {v : Value} {l : List α} (h : K.Row w base v l) (k : w.grownBy w' r) (hne : v.ownBlock = none ∨ v.ownBlock ≠ r) : K.Row w' base v l :=
  World.ownsRow.kept (row := r) h k hne
theorem Enc.Row.bel_grown {w0 w w' : World} {base : Nat} {v : Value} {l : List α} (h : K.Row w base v l) (hb : Bel w0 w) (hg : w.grownBy w' v.ownBlock) (h0 : w0.heap.size ≤ base) : Bel w0 w' :=
  ⟨hg.os.trans hb.os, hg.tape.trans hb.tape, hg.output.trans hb.output, Nat.le_trans hb.size hg.size, fun k hk => (hg.block k (Nat.lt_of_lt_of_le hk hb.size) (fun e => by
    obtain ⟨h1, _⟩ := h.blk e.symm
    omega)).trans (hb.block k hk)⟩
/-- append(s, p), p in a new block of one element. -/
theorem Enc.Row.append {ops : Array Oper} {rest : List Oper} {o : Oper} {a : Go.Act} {Q : Exit → Go.Act → World → Prop} {W : World} {base : Nat} {v : Value} {l : List α} (hown : K.Row W base v l) (p : α) (hgd : o.guard = none) (s x : Operand) (t : TypeId)
    (ho : o.op = .call { callee := .builtin .append, args := #[s, x], argTypes := #[t, t] }) (z : Value) (bytes : Nat) (ht : Tryz.prog.underlying t = some (.slice K.E)) (hi : (Tryz.prog.info? K.E).map (fun i => (i.zero, i.size, i.bytes)) = some (some z, K.m, bytes))
    (hzs : z.cells.size = K.m) (hby : bytes ≤ 64) (hs : a.eval s = v) (hx : a.eval x = .slice (some ⟨W.heap.size, 0, none⟩) 1 1) (hlen : l.length ≤ 1000000) (hbase : base ≤ W.heap.size)
    (h : ∀ v' w', K.Row w' base v' (l ++ [p]) → W.grownBy w' v.ownBlock → wpList Tryz.prog ops Q rest (a.put o.dst v') w') :
    wpList Tryz.prog ops Q (o :: rest) a (W.alloc (.cells (K.enc p).toArray K.E (0, 0))) := by
  obtain ⟨i, hi1, hi2, hi3, hi4⟩ : ∃ i, Tryz.prog.info? K.E = some i ∧ i.zero = some z ∧ i.size = K.m ∧ i.bytes = bytes := by
    cases hh : Tryz.prog.info? K.E with
    | none => rw [hh] at hi; simp at hi
    | some i => rw [hh] at hi; simp at hi; exact ⟨i, rfl, hi.1, hi.2.1, hi.2.2⟩
  have hb : Bel W (W.alloc (.cells (K.enc p).toArray K.E (0, 0))) := Bel.alloc _ _
  have hcell := heap_alloc_new W (.cells (K.enc p).toArray K.E (0, 0))
  have hbb : (l.length + 1) * bytes ≤ 140737488355328 := by
    have : (l.length + 1) * bytes ≤ 1000001 * 64 := Nat.mul_le_mul (by omega) hby
    omega
  refine wpList_append_own _ hgd s x t ho base K.E i z K.m bytes ht hi1 hi2 hi3 hi4 hzs K.pos v l.length (K.flat l) hs (hown.bel hb) ⟨W.heap.size, 0, none⟩ 1 1 (K.enc p) hx (by rw [K.len]; omega) (fun j u hu => ?_) (K.one p) (by have : maxLen = 9223372036854775807 := rfl; omega) hbb (by have := hb.size; omega) (fun v' w' h1 h2 _ => h v' w' ?_ ?_)
  · rw [show (⟨W.heap.size, 0, none⟩ : Addr).add j = ⟨W.heap.size, j, none⟩ by rw [cells_add, Nat.zero_add], blk_cell hcell]; simpa using hu
  · unfold Enc.Row
    rw [K.flat_append, List.length_append]
    simpa [Enc.flat] using h1
  · exact ⟨h2.os, h2.tape, h2.output, Nat.le_trans hb.size h2.size, fun k hk hne => (h2.block k (Nat.lt_of_lt_of_le hk hb.size) hne).trans (hb.block k hk)⟩
theorem Enc.flat_set (l : List α) (k j : Nat) (x : α) (u : Value) (hk : k < l.length) (hj : j < K.m) (he : K.enc x = (K.enc (K.nth l k)).set j u) : (K.flat l).set (k * K.m + j) u = K.flat (l.set k x) := by
  have e : l = l.take k ++ K.nth l k :: l.drop (k + 1) := by
    rw [K.nth_el hk, List.getElem_cons_drop, List.take_append_drop]
  have e2 : l.set k x = l.take k ++ x :: l.drop (k + 1) := by rw [List.set_eq_take_append_cons_drop, if_pos hk]
  have h1 : (K.flat (l.take k)).length = k * K.m := by rw [K.flat_len, List.length_take, Nat.min_eq_left (by omega)]
  rw [e2, K.flat_append]
  conv => lhs; rw [e]
  rw [K.flat_append, List.set_append_right _ _ (by omega), h1, show k * K.m + j - k * K.m = j by omega]
  unfold Enc.flat
  rw [List.flatMap_cons, List.flatMap_cons, List.set_append_left _ _ (by rw [K.len]; exact hj), he]
/-- A cell of an element is set. -/
theorem Enc.Row.setW {w : World} {base : Nat} {v : Value} {l : List α} (h : K.Row w base v l) {k j : Nat} (hk : k < l.length) (hj : j < K.m) (x : α) (u : Value) (he : K.enc x = (K.enc (K.nth l k)).set j u) :
    ∃ g' c, v = .slice (some ⟨g', 0, none⟩) l.length c ∧ base ≤ g' ∧ w.frozen? ⟨g', k * K.m + j, none⟩ = false ∧ K.Row (w.setCell ⟨g', k * K.m + j, none⟩ u) base v (l.set k x) ∧ w.grownBy (w.setCell ⟨g', k * K.m + j, none⟩ u) v.ownBlock := by
  obtain ⟨hl, ⟨_, h0⟩ | ⟨g', cap, cur, rfl, hb, hg, hn, hc, hs, hx⟩⟩ := h
  · omega
  · refine ⟨g', cap, rfl, hb, blk_frozen hg _, ?_, ?_⟩
    · rw [setCell_eq_setRow w g' _ cur K.E (0, 0) _ hg]
      unfold Enc.Row
      refine ⟨by rw [K.flat_len], .inr ⟨g', cap, _, by simp, hb, setRow_heap w g' _ _ K.E (0, 0) hg, by simpa using hn, hc, by simpa using hs, ?_⟩⟩
      rw [← K.flat_set l k j x u hk hj he, ← hx, Array.toList_setIfInBounds, List.length_set, List.take_set]
    · rw [setCell_eq_setRow w g' _ cur K.E (0, 0) _ hg]
      exact grown_setRow w g' _
end
structure Kt (E : TypeId) (base g : Nat) (w w' : World) : Prop where
  os : w'.os = w.os
  tape : w'.tape = w.tape
  output : w'.output = w.output
  size : w.heap.size ≤ w'.heap.size
  blk : ∀ k, k < w.heap.size → k ≠ g → (k < base ∨ ∀ cs, w.heap[k]? ≠ some (.cells cs E (0, 0))) → w'.heap[k]? = w.heap[k]?
theorem Kt.of_bel {E : TypeId} {base g : Nat} {w w' : World} (h : Bel w w') : Kt E base g w w' := ⟨h.os, h.tape, h.output, h.size, fun k hk _ _ => h.block k hk⟩
theorem Kt.refl (E : TypeId) (base g : Nat) (w : World) : Kt E base g w w := Kt.of_bel (Bel.refl w)
theorem Kt.trans {E : TypeId} {base g : Nat} {a b c : World} (h : Kt E base g a b) (k : Kt E base g b c) : Kt E base g a c :=
  ⟨k.os.trans h.os, k.tape.trans h.tape, k.output.trans h.output, Nat.le_trans h.size k.size, fun i hi hne hq => by
    have e := h.blk i hi hne hq
    rw [← e]
    exact k.blk i (Nat.lt_of_lt_of_le hi h.size) hne (by rw [e]; exact hq)⟩
theorem Kt.of_grown {α : Type} {K : Enc α} {base g : Nat} {w w' : World} {v : Value} {l : List α} (h : w.grownBy w' v.ownBlock) (hr : K.Row w base v l) : Kt K.E base g w w' :=
  ⟨h.os, h.tape, h.output, h.size, fun k hk _ hq => h.block k hk (fun e => by
    obtain ⟨h1, cs, h2⟩ := hr.blk e.symm
    rcases hq with hq | hq
    · omega
    · exact hq cs h2)⟩
theorem Kt.of_set {E : TypeId} {base g : Nat} {w : World} (p : Addr) (hp : p.block = g) (u : Value) : Kt E base g w (w.setCell p u) :=
  ⟨rfl, rfl, rfl, (((Below.refl 0 w).setCell (p := p) (Nat.zero_le _) u).size), fun k hk hne _ => Below.heap_setCell w p u k (by rw [hp]; exact hne)⟩
/-- A cell of a block that is new. -/
theorem Kt.set_new {E : TypeId} {base g : Nat} {w w1 : World} (h : Kt E base g w w1) (p : Addr) (hp : w.heap.size ≤ p.block) (u : Value) : Kt E base g w (w1.setCell p u) :=
  ⟨h.os, h.tape, h.output, Nat.le_trans h.size (((Below.refl 0 w1).setCell (p := p) (Nat.zero_le _) u).size), fun k hk hne hq => (Below.heap_setCell w1 p u k (by omega)).trans (h.blk k hk hne hq)⟩
theorem Kt.below' {E : TypeId} {g : Nat} {w w1 w2 : World} (hb : Bel w w1) (h : Kt E w.heap.size g w1 w2) (hg : w.heap.size ≤ g) : Bel w w2 :=
  ⟨h.os.trans hb.os, h.tape.trans hb.tape, h.output.trans hb.output, Nat.le_trans hb.size h.size, fun k hk => (h.blk k (Nat.lt_of_lt_of_le hk hb.size) (by omega) (.inl hk)).trans (hb.block k hk)⟩
theorem Kt.keep {E : TypeId} {base g : Nat} {w w' : World} (h : Kt E base g w w') {k : Nat} {cs : Array Value} {t : TypeId} (hk : w.heap[k]? = some (.cells cs t (0, 0))) (hne : k ≠ g) (ht : t ≠ E) : w'.heap[k]? = some (.cells cs t (0, 0)) := by
  rw [h.blk k (blk_lt hk) hne (.inr fun cs' e => ?_)]
  · exact hk
  · rw [hk] at e
    simp at e
    exact ht e.2
theorem owns_blk {w w' : World} {base : Nat} {E : TypeId} {m : Nat} {v : Value} {n : Nat} {cs : List Value} (h : w.ownsRow base E m v n cs) (hb : ∀ k, v.ownBlock = some k → w'.heap[k]? = w.heap[k]?) : w'.ownsRow base E m v n cs := by
  obtain ⟨hl, ⟨rfl, h0⟩ | ⟨g, cap, cur, rfl, hbb, hg, r⟩⟩ := h
  · exact ⟨hl, .inl ⟨rfl, h0⟩⟩
  · exact ⟨hl, .inr ⟨g, cap, cur, rfl, hbb, (hb g (by simp [Value.ownBlock])).trans hg, r⟩⟩
/-- A row of another type stays. -/
theorem Enc.Row.kt {α : Type} {K : Enc α} {E : TypeId} {base b g : Nat} {w w' : World} {v : Value} {l : List α} (h : K.Row w b v l) (k : Kt E base g w w') (hne : v.ownBlock ≠ some g) (ht : K.E ≠ E) : K.Row w' b v l :=
  owns_blk h (fun i hi => by
    obtain ⟨_, cs, h2⟩ := h.blk hi
    exact (k.keep h2 (fun e => hne (by rw [hi, e])) ht).trans h2.symm)
theorem Enc.Row.ne_blk {α : Type} {K : Enc α} {b g : Nat} {w : World} {v : Value} {l : List α} (h : K.Row w b v l) {cs : Array Value} {t : TypeId} (hg : w.heap[g]? = some (.cells cs t (0, 0))) (ht : K.E ≠ t) : v.ownBlock ≠ some g := fun e => by
  obtain ⟨_, cs', h2⟩ := h.blk e
  rw [hg] at h2
  simp at h2
  exact ht h2.2.symm
theorem Enc.Row.ne_map {α : Type} {K : Enc α} {b g : Nat} {w : World} {v : Value} {l : List α} (h : K.Row w b v l) {es : _} {clock : _} (hg : w.heap[g]? = some (.map es clock)) : v.ownBlock ≠ some g := fun e => by
  obtain ⟨_, cs', h2⟩ := h.blk e
  rw [hg] at h2
  simp at h2
/-- A cell of a block that isn't the row's is set. -/
theorem Enc.Row.set_off {α : Type} {K : Enc α} {b : Nat} {w : World} {v : Value} {l : List α} (h : K.Row w b v l) (p : Addr) (hp : v.ownBlock ≠ some p.block) (u : Value) : K.Row (w.setCell p u) b v l :=
  owns_blk h (fun i hi => Below.heap_setCell w p u i (fun e => hp (by rw [hi, e])))
theorem Enc.Row.lower {α : Type} {K : Enc α} {w : World} {b c : Nat} {v : Value} {l : List α} (h : K.Row w b v l) (hc : c ≤ b) : K.Row w c v l := by
  obtain ⟨hl, h1 | ⟨g, cap, cur, e, hb, r⟩⟩ := h
  · exact ⟨hl, .inl h1⟩
  · exact ⟨hl, .inr ⟨g, cap, cur, e, Nat.le_trans hc hb, r⟩⟩
theorem setc_blk {w : World} {g i : Nat} {cs : Array Value} {t : TypeId} (h : w.heap[g]? = some (.cells cs t (0, 0))) (u : Value) : (w.setCell ⟨g, i, none⟩ u).heap[g]? = some (.cells (cs.setIfInBounds i u) t (0, 0)) := by
  rw [setCell_eq_setRow w g i _ t (0, 0) u h]; exact setRow_heap w g _ _ t (0, 0) h
theorem setc_off {w : World} {g h i : Nat} {o : Obj} (hg : w.heap[g]? = some o) (hne : g ≠ h) (u : Value) : (w.setCell ⟨h, i, none⟩ u).heap[g]? = some o := (Below.heap_setCell w ⟨h, i, none⟩ u g hne).trans hg
/-- append(s, p) as a run, p in a new block of one element. -/
theorem Enc.Row.append_run {α : Type} {K : Enc α} {W : World} {base : Nat} {v : Value} {l : List α} (hown : K.Row W base v l) (p : α) (t ty : TypeId)
    (z : Value) (bytes : Nat) (ht : Tryz.prog.underlying t = some (.slice K.E)) (hi : (Tryz.prog.info? K.E).map (fun i => (i.zero, i.size, i.bytes)) = some (some z, K.m, bytes))
    (hzs : z.cells.size = K.m) (hby : bytes ≤ 64) (hlen : l.length ≤ 1000000) (hbase : base ≤ W.heap.size) :
    ∃ v' w', (Builtin.append_ #[t, t] ty #[v, .slice (some ⟨W.heap.size, 0, none⟩) 1 1]).run Tryz.prog (W.alloc (.cells (K.enc p).toArray K.E (0, 0))) = .ok v' w' ∧ K.Row w' base v' (l ++ [p]) ∧ W.grownBy w' v.ownBlock := by
  obtain ⟨i, hi1, hi2, hi3, hi4⟩ : ∃ i, Tryz.prog.info? K.E = some i ∧ i.zero = some z ∧ i.size = K.m ∧ i.bytes = bytes := by
    cases hh : Tryz.prog.info? K.E with
    | none => rw [hh] at hi; simp at hi
    | some i => rw [hh] at hi; simp at hi; exact ⟨i, rfl, hi.1, hi.2.1, hi.2.2⟩
  have hb : Bel W (W.alloc (.cells (K.enc p).toArray K.E (0, 0))) := Bel.alloc _ _
  have hcell := heap_alloc_new W (.cells (K.enc p).toArray K.E (0, 0))
  have hbb : (l.length + 1) * bytes ≤ 140737488355328 := by
    have : (l.length + 1) * bytes ≤ 1000001 * 64 := Nat.mul_le_mul (by omega) hby
    omega
  obtain ⟨v', w', h1, h2, h3, _⟩ := run_append_own (P := Tryz.prog) (W.alloc (.cells (K.enc p).toArray K.E (0, 0))) base t ty K.E i z K.m bytes ht hi1 hi2 hi3 hi4 hzs K.pos v l.length (K.flat l) (hown.bel hb) ⟨W.heap.size, 0, none⟩ 1 1 (K.enc p) (by rw [K.len]; omega) (fun j u hu => by
    rw [show (⟨W.heap.size, 0, none⟩ : Addr).add j = ⟨W.heap.size, j, none⟩ by rw [cells_add, Nat.zero_add], blk_cell hcell]; simpa using hu) (K.one p) (by have : maxLen = 9223372036854775807 := rfl; omega) hbb (by have := hb.size; omega)
  refine ⟨v', w', h1, ?_, ?_⟩
  · unfold Enc.Row
    rw [K.flat_append, List.length_append]
    simpa [Enc.flat] using h2
  · exact ⟨h3.os, h3.tape, h3.output, Nat.le_trans hb.size h3.size, fun k hk hne => (h3.block k (Nat.lt_of_lt_of_le hk hb.size) hne).trans (hb.block k hk)⟩
/-- append(s, p) as a run, and where the row stands then. -/
theorem Enc.Row.append_at {α : Type} {K : Enc α} {W : World} {base : Nat} {v : Value} {l : List α} (hown : K.Row W base v l) (p : α) (t ty : TypeId)
    (z : Value) (bytes : Nat) (ht : Tryz.prog.underlying t = some (.slice K.E)) (hi : (Tryz.prog.info? K.E).map (fun i => (i.zero, i.size, i.bytes)) = some (some z, K.m, bytes))
    (hzs : z.cells.size = K.m) (hby : bytes ≤ 64) (hlen : l.length ≤ 1000000) (hbase : base ≤ W.heap.size) :
    ∃ v' w', (Builtin.append_ #[t, t] ty #[v, .slice (some ⟨W.heap.size, 0, none⟩) 1 1]).run Tryz.prog (W.alloc (.cells (K.enc p).toArray K.E (0, 0))) = .ok v' w' ∧ K.Row w' base v' (l ++ [p]) ∧ W.grownBy w' v.ownBlock ∧
      (v'.ownBlock = v.ownBlock ∨ ∃ k, W.heap.size ≤ k ∧ v'.ownBlock = some k) := by
  obtain ⟨v', w', h1, h2, h3⟩ := hown.append_run p t ty z bytes ht hi hzs hby hlen hbase
  refine ⟨v', w', h1, h2, h3, ?_⟩
  obtain ⟨i, hi1, hi2, hi3, hi4⟩ : ∃ i, Tryz.prog.info? K.E = some i ∧ i.zero = some z ∧ i.size = K.m ∧ i.bytes = bytes := by
    cases hh : Tryz.prog.info? K.E with
    | none => rw [hh] at hi; simp at hi
    | some i => rw [hh] at hi; simp at hi; exact ⟨i, rfl, hi.1, hi.2.1, hi.2.2⟩
  have hcell := heap_alloc_new W (.cells (K.enc p).toArray K.E (0, 0))
  have hnews : ∀ j u, (K.enc p)[j]? = some u → (W.alloc (.cells (K.enc p).toArray K.E (0, 0))).cell? ((⟨W.heap.size, 0, none⟩ : Addr).add j) = some u := fun j u hu => by
    rw [show (⟨W.heap.size, 0, none⟩ : Addr).add j = ⟨W.heap.size, j, none⟩ by rw [cells_add, Nat.zero_add], blk_cell hcell]; simpa using hu
  have hl1 : (K.enc p).length = 1 * i.size := by rw [K.len, hi3]; omega
  have hbb : (l.length + 1) * i.bytes ≤ 140737488355328 := by
    rw [hi4]
    have : (l.length + 1) * bytes ≤ 1000001 * 64 := Nat.mul_le_mul (by omega) hby
    omega
  have hby1 : 1 * i.bytes ≤ 281474976710656 := by rw [hi4]; omega
  obtain ⟨hll, ⟨rfl, h0⟩ | ⟨g, cap, cur, rfl, hbg, hg, hnc, hcm, hcs, hx⟩⟩ := hown.bel (Bel.alloc W (.cells (K.enc p).toArray K.E (0, 0)))
  · have hr := run_append_nil (P := Tryz.prog) (W.alloc (.cells (K.enc p).toArray K.E (0, 0))) t ty K.E i z ht hi1 hi2 ⟨W.heap.size, 0, none⟩ 1 1 (K.enc p) hl1 hnews (by omega) (by omega) hby1
    rw [hr] at h1
    simp only [Result.ok.injEq] at h1
    rw [← h1.1]
    exact .inr ⟨(W.alloc (.cells (K.enc p).toArray K.E (0, 0))).heap.size, by simp, rfl⟩
  · by_cases hroom : l.length + 1 ≤ cap
    · have hr := run_append_room (P := Tryz.prog) (W.alloc (.cells (K.enc p).toArray K.E (0, 0))) t ty K.E i ht hi1 g l.length cap cur hg ⟨W.heap.size, 0, none⟩ 1 1 (K.enc p) hl1 hnews (K.one p) hroom (by rw [hi3, K.len, hcs, ← Nat.succ_mul]; exact Nat.mul_le_mul_right _ hroom)
      rw [hr] at h1
      simp only [Result.ok.injEq] at h1
      rw [← h1.1]
      exact .inl (by simp [Value.ownBlock])
    · have holds : ∀ j u, (K.flat l)[j]? = some u → (W.alloc (.cells (K.enc p).toArray K.E (0, 0))).cell? ((⟨g, 0, none⟩ : Addr).add j) = some u := (hown.bel (Bel.alloc W (.cells (K.enc p).toArray K.E (0, 0)))).cells (g := g) rfl
      have hr := run_append_grow (P := Tryz.prog) (W.alloc (.cells (K.enc p).toArray K.E (0, 0))) t ty K.E i z ht hi1 hi2 ⟨g, 0, none⟩ l.length cap (K.flat l) (by rw [K.flat_len, hi3]) holds ⟨W.heap.size, 0, none⟩ 1 1 (K.enc p) hl1 hnews (by omega) (by omega) (growslice_fits (by omega) hbb)
      rw [hr] at h1
      simp only [Result.ok.injEq] at h1
      rw [← h1.1]
      exact .inr ⟨(W.alloc (.cells (K.enc p).toArray K.E (0, 0))).heap.size, by simp, rfl⟩
theorem append_exec {P : Program} {oi : Oper} {a : Go.Act} {w w' : World} {v' v x : Value} (s y : Operand) (t : TypeId) (ho : oi.op = .call { callee := .builtin .append, args := #[s, y], argTypes := #[t, t] })
    (hs : a.eval s = v) (hy : a.eval y = x) (hr : (Builtin.append_ #[t, t] oi.type #[v, x]).run P w = .ok v' w') : (execOp a.eval oi).run P w = .ok (.value v') w' := by
  unfold execOp
  simp only [ho, resolve, invoke, builtin, Sem.run_bind, Sem.run_pure, Result.andThen_ok, List.map_toArray, List.map_cons, List.map_nil, hs, hy, hr]
theorem wpList_append_run {P : Program} {w w' : World} {v' v u : Value} {ops : Array Oper} {rest : List Oper} {o : Oper} {a : Go.Act} {Q : Exit → Go.Act → World → Prop} (hgd : o.guard = none) (s x : Operand) (t : TypeId)
    (ho : o.op = .call { callee := .builtin .append, args := #[s, x], argTypes := #[t, t] }) (hs : a.eval s = v) (hx : a.eval x = u)
    (hr : (Builtin.append_ #[t, t] o.type #[v, u]).run P w = .ok v' w') (h : wpList P ops Q rest (a.put o.dst v') w') : wpList P ops Q (o :: rest) a w := by
  refine wpList_plain hgd fun K hK => ?_
  unfold Oper.wp execOp
  simp only [ho, resolve, invoke, builtin, Sem.run_bind, Sem.run_pure, Result.andThen_ok, List.map_toArray, List.map_cons, List.map_nil, hs, hx, hr]
  exact hK _ _ h
/-- append(s, p), p in a new block of one element; where the row stands then. -/
theorem Enc.Row.append2 {α : Type} {K : Enc α} {ops : Array Oper} {rest : List Oper} {o : Oper} {a : Go.Act} {Q : Exit → Go.Act → World → Prop} {W : World} {base : Nat} {v : Value} {l : List α} (hown : K.Row W base v l) (p : α) (hgd : o.guard = none) (s x : Operand) (t : TypeId)
    (ho : o.op = .call { callee := .builtin .append, args := #[s, x], argTypes := #[t, t] }) (z : Value) (bytes : Nat) (ht : Tryz.prog.underlying t = some (.slice K.E)) (hi : (Tryz.prog.info? K.E).map (fun i => (i.zero, i.size, i.bytes)) = some (some z, K.m, bytes))
    (hzs : z.cells.size = K.m) (hby : bytes ≤ 64) (hs : a.eval s = v) (hx : a.eval x = .slice (some ⟨W.heap.size, 0, none⟩) 1 1) (hlen : l.length ≤ 1000000) (hbase : base ≤ W.heap.size)
    (h : ∀ v' w', K.Row w' base v' (l ++ [p]) → W.grownBy w' v.ownBlock → (v'.ownBlock = v.ownBlock ∨ ∃ k, W.heap.size ≤ k ∧ v'.ownBlock = some k) → wpList Tryz.prog ops Q rest (a.put o.dst v') w') :
    wpList Tryz.prog ops Q (o :: rest) a (W.alloc (.cells (K.enc p).toArray K.E (0, 0))) := by
  obtain ⟨v', w', h1, h2, h3, h4⟩ := hown.append_at p t o.type z bytes ht hi hzs hby hlen hbase
  exact wpList_append_run hgd s x t ho hs hx h1 (h v' w' h2 h3 h4)
/-- What a call on an object changes: nothing outside of what it stands on; it may stand on new blocks behind. -/
structure Upd (F : Nat → Prop) (w : World) (F' : Nat → Prop) (w' : World) : Prop where
  os : w'.os = w.os
  tape : w'.tape = w.tape
  output : w'.output = w.output
  size : w.heap.size ≤ w'.heap.size
  blk : ∀ k, k < w.heap.size → ¬ F k → w'.heap[k]? = w.heap[k]?
  foot : ∀ k, F' k → F k ∨ w.heap.size ≤ k
theorem Upd.of_bel {F : Nat → Prop} {w w' : World} (h : Bel w w') : Upd F w F w' := ⟨h.os, h.tape, h.output, h.size, fun k hk _ => h.block k hk, fun _ h => .inl h⟩
theorem Upd.refl (F : Nat → Prop) (w : World) : Upd F w F w := Upd.of_bel (Bel.refl w)
theorem Upd.trans {F G H : Nat → Prop} {a b c : World} (h : Upd F a G b) (k : Upd G b H c) : Upd F a H c :=
  ⟨k.os.trans h.os, k.tape.trans h.tape, k.output.trans h.output, Nat.le_trans h.size k.size, fun i hi hn => (k.blk i (Nat.lt_of_lt_of_le hi h.size) (fun e => (h.foot i e).elim hn (fun e => by omega))).trans (h.blk i hi hn), fun i hi => (k.foot i hi).elim (fun e => h.foot i e) (fun e => .inr (Nat.le_trans h.size e))⟩
theorem Upd.bel {F G : Nat → Prop} {a b c : World} (h : Upd F a G b) (k : Bel b c) : Upd F a G c := h.trans (Upd.of_bel k)
/-- A frame that is wider. -/
theorem Upd.wide {F F' G : Nat → Prop} {a b : World} (h : Upd F a F' b) (hG : ∀ k, G k → k < a.heap.size) : Upd (fun k => F k ∨ G k) a (fun k => F' k ∨ G k) b :=
  ⟨h.os, h.tape, h.output, h.size, fun k hk hn => h.blk k hk (fun e => hn (.inl e)), fun k hk => hk.elim (fun e => (h.foot k e).elim (fun e => .inl (.inl e)) .inr) (fun e => .inl (.inr e))⟩
theorem Upd.keep {F F' G : Nat → Prop} {a b : World} (h : Upd F a F' b) (hG : ∀ k, G k → k < a.heap.size) (hd : ∀ k, G k → ¬ F k) : ∀ k, G k → b.heap[k]? = a.heap[k]? := fun k hk => h.blk k (hG k hk) (hd k hk)
theorem Upd.disj {F F' G : Nat → Prop} {a b : World} (h : Upd F a F' b) (hG : ∀ k, G k → k < a.heap.size) (hd : ∀ k, G k → ¬ F k) : ∀ k, G k → ¬ F' k := fun k hk e => (h.foot k e).elim (hd k hk) (fun e => by have := hG k hk; omega)
theorem Upd.below {F F' : Nat → Prop} {w a b : World} (hb : Bel w a) (h : Upd F a F' b) (hF : ∀ k, F k → w.heap.size ≤ k) : Bel w b :=
  ⟨h.os.trans hb.os, h.tape.trans hb.tape, h.output.trans hb.output, Nat.le_trans hb.size h.size, fun k hk => (h.blk k (Nat.lt_of_lt_of_le hk hb.size) (fun e => by have := hF k e; omega)).trans (hb.block k hk)⟩
theorem Upd.of_set {F : Nat → Prop} {w : World} (p : Addr) (hp : F p.block) (u : Value) : Upd F w F (w.setCell p u) :=
  ⟨rfl, rfl, rfl, (((Below.refl 0 w).setCell (p := p) (Nat.zero_le _) u).size), fun k hk hn => Below.heap_setCell w p u k (fun e => hn (by rw [e]; exact hp)), fun _ h => .inl h⟩
theorem Upd.of_grown {F : Nat → Prop} {w w' : World} {r : Option Nat} (h : w.grownBy w' r) (hr : ∀ k, r = some k → F k) : Upd F w F w' :=
  ⟨h.os, h.tape, h.output, h.size, fun k hk hn => h.block k hk (fun e => hn (hr k e.symm)), fun _ h => .inl h⟩
theorem Upd.foot_of {F G H : Nat → Prop} {a b : World} (h : Upd F a G b) (hs : ∀ k, H k → G k ∨ a.heap.size ≤ k) : Upd F a H b :=
  ⟨h.os, h.tape, h.output, h.size, h.blk, fun k hk => (hs k hk).elim (h.foot k) .inr⟩
/-- An own row's foot. -/
def ownF (v : Value) : Nat → Prop := fun k => v.ownBlock = some k
theorem Enc.Row.agree {α : Type} {K : Enc α} {w w' : World} {b : Nat} {v : Value} {l : List α} (h : K.Row w b v l) (ha : ∀ k, ownF v k → w'.heap[k]? = w.heap[k]?) : K.Row w' b v l := owns_blk h ha
theorem Enc.Row.foot_lt {α : Type} {K : Enc α} {w : World} {b : Nat} {v : Value} {l : List α} (h : K.Row w b v l) : ∀ k, ownF v k → k < w.heap.size := fun k hk => by
  obtain ⟨_, cs, h2⟩ := h.blk hk
  exact blk_lt h2
end Go.Proofs.YtgpkpheejefiiaaGreatDoor
