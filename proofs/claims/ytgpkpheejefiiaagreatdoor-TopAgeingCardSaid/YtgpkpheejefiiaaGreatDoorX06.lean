/- A checked evaluator: copies, appends; all effects. | A checked evaluator: append. | A checked evaluator: all effects. | A checked evaluator: all effects, joined. | A checked evaluator: operations in order. | A checked evaluator: code, functions, calls. | A checked evaluator: functions and calls. -/
import Derived.Test.YtgpkpheejefiiaaGreatDoorX05
import Derived.Laws.AppendOwn
import Derived.Lib.ConvBytes
import Derived.Lib.UnsafeStr
import Derived.LoopN
import Derived.Orders
import Derived.Deep.RegionHeld3
section
set_option linter.unusedVariables false
set_option linter.unusedSimpArgs false
namespace Go.Proofs.YtgpkpheejefiiaaGreatDoor
open Go.RowKit
variable {P : Program}
/-- What is copied or appended: so many elements, these cells, in whatever world has the same blocks. -/
structure Src (P : Program) (w : World) (m : Nat) (v : Value) (k : Nat) (vs : List Value) : Prop where
  len : ∀ w', (Builtin.lenOf v).run P w' = .ok k w'
  cells : ∀ w', w'.heap = w.heap → ∀ n, n ≤ k → (Builtin.firstCells m n v).run P w' = .ok (vs.take (n * m)).toArray w'
  size : vs.length = k * m
theorem mapB_eq (l : List Nat) : mapB l = l.map byteS := by
  induction l with
  | nil => rfl
  | cons b l ih => show byteS b :: mapB l = _; rw [ih]; rfl
theorem mapB_ok {r : Pl} : ∀ (l : List Nat), (∀ b ∈ l, b < 256) → EmbL r (mapB l) ((bytesOf l).data.toList.map fun b => Value.int .u8 b.toNat)
  | [], _ => by simp [bytesOf]; exact .nil
  | b :: l, h => by
    have ih := mapB_ok (r := r) l (fun c hc => h c (by simp [hc]))
    have e : ((b.toUInt8.toNat : Nat) : Int) = (b : Int) := by have := h b (by simp); simp; omega
    have e2 : ((bytesOf (b :: l)).data.toList.map fun b => Value.int .u8 b.toNat) = Value.int .u8 (b : Int) :: ((bytesOf l).data.toList.map fun b => Value.int .u8 b.toNat) := by
      simp only [bytesOf, List.map_cons]
      rw [e]
    rw [e2]
    exact .cons _ _ _ _ (.int .u8 b) ih
theorem lit_take (w' : World) (a : Addr) (vs : List Value) (m n k : Nat) (hk : vs.length = k * m) (hn : n ≤ k) (h : ∀ j u, vs[j]? = some u → w'.cell? (a.add j) = some u) (l c : Nat) :
    (Builtin.firstCells m n (.slice (some a) l c)).run P w' = .ok (vs.take (n * m)).toArray w' := by
  refine run_firstCells_some (P := P) w' m n a l c (vs.take (n * m)) ?_ (fun j u hu => ?_)
  · have : n * m ≤ k * m := Nat.mul_le_mul_right _ hn
    simp; omega
  · have := List.getElem?_eq_some_iff.1 hu
    obtain ⟨h1, h2⟩ := this
    refine h j u ?_
    rw [List.getElem?_take] at hu
    split at hu
    · exact hu
    · cases hu
theorem srcAt_ok {r : Pl} {S : Tr} {nx : Nat} {w : World} (hs : Sim r S nx w) {m g o n : Nat} {q : Nat × List SV} (h : srcAt m g o n S = some q) {b d : Nat} (hr : r g = some (b, d)) (o' c : Nat) (ho : n ≠ 0 → o' = o) :
    ∃ vs, EmbL r q.2 vs ∧ Src P w m (.slice (some ⟨b, o', none⟩) n c) q.1 vs := by
  obtain ⟨l, hl, h⟩ := oB_some h
  obtain ⟨hn, h⟩ := bI_some h
  obtain rfl := Option.some.inj h
  obtain ⟨b', c', vs, q1, q2, q3, q4⟩ := hs.readN hl o (n * m) hn
  rw [hr] at q1
  obtain ⟨rfl, rfl⟩ : b = b' ∧ d = c' := by simpa using q1
  refine ⟨vs, q2, fun w' => rfl, fun w' hw k hk => ?_, q3⟩
  refine lit_take w' ⟨b, o', none⟩ vs m k n q3 hk (fun j u hu => ?_) n c
  have hj : j < n * m := by have := (List.getElem?_eq_some_iff.1 hu).1; omega
  have hn0 : n ≠ 0 := fun e => by rw [e] at hj; simp at hj
  rw [cells_add, ho hn0]
  have : w'.cell? ⟨b, o + j, none⟩ = w.cell? ⟨b, o + j, none⟩ := by simp [World.cell?, hw]
  rw [this, q4 j hj]
  exact hu
variable {T : Tab P}
theorem srcF_ok (hT : TabOK T) {r : Pl} {S : Tr} {nx : Nat} {w : World} (hs : Sim r S nx w) {m : Nat} {t2 : TypeId} {f : SV → Tr → Option (Nat × List SV)} (hf : srcF T m t2 = some f) {y : SV} {v : Value} (hy : Emb r y v) {q : Nat × List SV} (h : f y S = some q) :
    ∃ vs, EmbL r q.2 vs ∧ Src P w m v q.1 vs ∧ ∃ d, P.underlying t2 = some d ∧ ∀ k, d ≠ .int k := by
  unfold srcF at hf
  split at hf
  · rename_i e hd
    have hu := hT.und _ _ hd
    obtain rfl := Option.some.inj hf
    replace h := onSl_some h
    rcases h with ⟨rfl, h⟩ | ⟨g, o, n, c, rfl, h⟩ | ⟨g, o, n, j, rfl, h⟩
    · obtain rfl := Option.some.inj h
      cases hy
      exact ⟨[], .nil, ⟨fun w' => rfl, fun w' _ n hn => by simp [Builtin.firstCells], by simp⟩, _, hu, by simp⟩
    · cases hy with
      | slice _ _ _ _ b d hr hnc =>
        obtain ⟨vs, k1, k2⟩ := srcAt_ok (P := P) hs h hr o c (fun _ => rfl)
        exact ⟨vs, k1, k2, _, hu, by simp⟩
    · cases hy with
      | own _ _ _ _ b d hr hnd =>
        obtain ⟨vs, k1, k2⟩ := srcAt_ok (P := P) hs h hr (if d ≤ j then 0 else o) (d - j) (fun hn => if_neg (by omega))
        exact ⟨vs, k1, k2, _, hu, by simp⟩
  · rename_i hd
    have hu := hT.und _ _ hd
    obtain ⟨hm, hf⟩ := bI_some hf
    obtain rfl := Nat.eq_of_beq_eq_true hm
    obtain rfl := Option.some.inj hf
    replace h := onStr_some h
    obtain ⟨l, rfl, h⟩ := h
    obtain rfl := Option.some.inj h
    cases hy with
    | str _ hl =>
      refine ⟨_, mapB_ok l hl, ⟨fun w' => by rw [lenN_eq, ← bytesOf_size]; rfl, fun w' _ n hn => ?_, ?_⟩, _, hu, by simp⟩
      · simp only [Builtin.firstCells, Sem.run_pure]
        congr 1
        apply Array.ext'
        simp [bytesOf, List.extract]
      · rw [lenN_eq]; simp [bytesOf]
  · exact nosome hf
theorem elemOf_ok (hT : TabOK T) {ty : TypeId} {i : TypeId × Nat × List SV} (h : elemOf T ty = some i) : ∃ ti zv, P.underlying ty = some (.slice i.1) ∧ P.info? i.1 = some ti ∧ ti.size = i.2.1 ∧ ti.zero = some zv ∧ zv.cells.size = i.2.1 ∧ (∀ r, EmbL r i.2.2 zv.cells.toList) ∧ ti.bytes ≤ 1000000 ∧ i.2.1 ≠ 0 ∧ i.2.2.all SV.one = true := by
  unfold elemOf at h
  split at h
  · rename_i e hd
    split at h
    · rename_i m z hi
      obtain ⟨hc, h⟩ := bI_some h
      obtain rfl := Option.some.inj h
      obtain ⟨c1, c2⟩ := aB_true hc
      rw [allS_eq] at c2
      obtain ⟨ti, zv, e1, e2, e3, e4, e5, e6⟩ := infP hT hi
      exact ⟨ti, zv, hT.und _ _ hd, e1, e2, e3, e4, e5, e6, fun (e : m = 0) => by have := nB_true c1; rw [e] at this; exact boolno this.symm, c2⟩
    · exact nosome h
  · exact nosome h
theorem copyAt_ok {r : Pl} {S : Tr} {nx : Nat} {w : World} (hs : Sim r S nx w) {m : Nat} {q : Nat × List SV} {v : Value} {vs : List Value} (hv : EmbL r q.2 vs) (hsrc : Src P w m v q.1 vs) (hone : q.2.all SV.one = true) {t1 t2 rt e : TypeId} {i : TypeInfo} (ht : P.underlying t1 = some (.slice e)) (hi : P.info? e = some i) (hsz : i.size = m)
    {g o n j b d : Nat} (hr : r g = some (b, d)) (o' c : Nat) (ho : n ≠ 0 → o' = o) {tl : List TypeId} {mm : Sem Next} (hrun : ∀ x w', (Builtin.copy_ (t1 :: tl).toArray rt #[.slice (some ⟨b, o', none⟩) n c, v]).run P w = .ok x w' → mm.run P w = .ok (.value x) w') :
    EffOK P r S nx w mm (copyAt m S nx q g o n j) := by
  refine rB_stuck fun ob hg => rB_stuck fun l hl => bI_stuck fun hc => ?_
  obtain ⟨c1, c2⟩ := aB_true hc
  have hmin : minN q.1 n = min q.1 n := min_bI _ _
  rw [hmin] at c2 ⊢
  rw [longS_eq] at c2
  have c2 : o + min q.1 n * m ≤ l.length := of_decide_eq_true c2
  have hlen := hv.len
  have hqs := hsrc.size
  have hle : min q.1 n * m ≤ q.1 * m := Nat.mul_le_mul_right _ (Nat.min_le_left _ _)
  have hss : EmbL r (takeS q.2 (min q.1 n * m)) (vs.take (min q.1 n * m)) := by rw [takeS_eq]; exact hv.take _
  have hsl : (takeS q.2 (min q.1 n * m)).length = min q.1 n * m := by rw [takeS_eq]; simp; omega
  have hvl : (vs.take (min q.1 n * m)).length = min q.1 n * m := by simp; omega
  obtain ⟨b', c', yy, q1, q2, q3⟩ := hs.obj g ob hg
  rw [hr] at q1
  obtain ⟨rfl, rfl⟩ : b = b' ∧ d = c' := by simpa using q1
  obtain ⟨cur, t, zz, rfl, z1, z2, z3⟩ := q3.write hl c1 hss (by omega)
  have hone' : ∀ u ∈ vs.take (min q.1 n * m), u.oneCell' = true := fun u hu => hv.ones hone u (List.mem_of_mem_take hu)
  have hst := run_storeCells_fr P b o zz t z1 (vs.take (min q.1 n * m)) 0 cur w q2 (by simpa using z2) hone'
  simp only [Nat.add_zero] at hst
  obtain ⟨k1, k2⟩ := hs.turnT hg hr z3 (Turn.setRow q2 _)
  refine ⟨r, _, _, Pl.le_refl r, k1, .int .i64 _, k2, .inl (hrun _ _ ?_)⟩
  have hst' : (storeCells ⟨b, o', none⟩ (vs.take (min q.1 n * m))).run P w = .ok () (w.setRow b (cur.toList.take o ++ vs.take (min q.1 n * m) ++ cur.toList.drop (o + (vs.take (min q.1 n * m)).length)).toArray) := by
    by_cases hn : n = 0
    · subst hn
      simp only [Nat.min_zero, Nat.zero_mul, List.take_zero, List.append_nil, List.length_nil, Nat.add_zero, List.take_append_drop, Array.toArray_toList, storeCells]
      rw [setRow_self w b cur t (0, zz) q2]
      rfl
    · rw [ho hn]; exact hst
  simp only [Builtin.copy_, List.getElem?_toArray, List.getElem?_cons_zero, List.getElem?_cons_succ, Sem.run_bind, run_underlying ht, Result.andThen_ok, hsrc.len, run_sizeOf' hi, hsz]
  have hmn : Nat.min q.1 n = min q.1 n := rfl
  rw [hmn, hsrc.cells w rfl _ (Nat.min_le_left _ _)]
  simp only [Result.andThen_ok, hst', Sem.run_pure, goInt]
  rfl
end Go.Proofs.YtgpkpheejefiiaaGreatDoor
end
section
set_option linter.unusedVariables false
set_option linter.unusedSimpArgs false
namespace Go.Proofs.YtgpkpheejefiiaaGreatDoor
open Go.RowKit
variable {P : Program}
theorem noInt (d : TypeDesc) : (∀ k, d ≠ .int k) → (match d with | .int _ => true | _ => false) = false := by
  intro h
  cases d <;> first | rfl | exact absurd rfl (h _)
theorem run_append_in {t1 t2 rt e : TypeId} {i : TypeInfo} {d2 : TypeDesc} (ht : P.underlying t1 = some (.slice e)) (h2 : P.underlying t2 = some d2) (hd2 : ∀ k, d2 ≠ .int k) (hi : P.info? e = some i) {w w' : World} {v : Value} {k : Nat} {vs : List Value} (hs : Src P w i.size v k vs)
    {a : Addr} {n c : Nat} (hroom : n + k ≤ c) (hst : (storeCells (a.add (n * i.size)) vs).run P w = .ok () w') (tl : List TypeId) :
    (Builtin.append_ (t1 :: t2 :: tl).toArray rt #[.slice (some a) n c, v]).run P w = .ok (.slice (some a) (n + k) c) w' := by
  have hz := noInt d2 hd2
  have hc := hs.cells w rfl k (Nat.le_refl _)
  rw [List.take_of_length_le (by rw [hs.size]; exact Nat.le_refl _)] at hc
  simp only [Builtin.append_, List.getElem?_toArray, List.getElem?_cons_zero, List.getElem?_cons_succ, Sem.run_bind, run_underlying ht, Result.andThen_ok, run_sizeOf' hi, run_underlying h2, Sem.run_pure, hz]
  simp only [Bool.false_eq_true, if_false, hs.len, Result.andThen_ok, hroom, if_true, Bool.not_false, Sem.run_bind, hc, hst, Sem.run_pure]
theorem run_append_out {t1 t2 rt e : TypeId} {i : TypeInfo} {z : Value} {d2 : TypeDesc} (ht : P.underlying t1 = some (.slice e)) (h2 : P.underlying t2 = some d2) (hd2 : ∀ k, d2 ≠ .int k) (hi : P.info? e = some i) (hz : i.zero = some z) {w : World} {v : Value} {k : Nat} {vs : List Value} (hs : Src P w i.size v k vs)
    {base : Option Addr} {n c : Nat} {olds : List Value} (holds : ∀ w', w'.heap = w.heap → (Builtin.firstCells i.size n (.slice base n c)).run P w' = .ok olds.toArray w') (hg : c < n + k) (hn : n + k ≤ 200000) (hb : i.bytes ≤ 1000000) (tl : List TypeId) :
    (Builtin.append_ (t1 :: t2 :: tl).toArray rt #[.slice base n c, v]).run P w = .ok (.slice (some ⟨w.heap.size, 0, none⟩) (n + k) (grownCap w (n + k) c e))
      (w.drew.alloc (.cells (olds.toArray ++ vs.toArray ++ Builtin.zeroCells z.cells (grownCap w (n + k) c e - (n + k))) e)) := by
  have hzz := noInt d2 hd2
  have hc := hs.cells w.drew rfl k (Nat.le_refl _)
  rw [List.take_of_length_le (by rw [hs.size]; exact Nat.le_refl _)] at hc
  have ho := holds w.drew rfl
  have hbb : (n + k) * i.bytes ≤ 140737488355328 := by
    have : (n + k) * i.bytes ≤ 200000 * 1000000 := Nat.mul_le_mul hn hb
    omega
  have hfit := growslice_fits hg hbb
  have hnr : ¬ (n + k ≤ c) := by omega
  have h63' : ¬ (9223372036854775807 < ((n : Int) + (k : Int))) := by omega
  have h48' : ¬ (281474976710656 < Builtin.nextslicecap (n + k) c * i.bytes) := by omega
  simp only [Builtin.append_, List.getElem?_toArray, List.getElem?_cons_zero, List.getElem?_cons_succ, Sem.run_bind, run_underlying ht, Result.andThen_ok, run_sizeOf' hi, run_underlying h2, Sem.run_pure, hzz]
  simp only [Bool.false_eq_true, if_false, hs.len, Result.andThen_ok, hnr, Bool.not_false, if_true]
  simp [Sem.run_bind, hs.len, hnr, typeInfo, zeroValue, hi, hz, h63', h48', Question.forced, hc, ho, newRow, grownCap]
  congr 2
  apply Array.ext'
  simp [List.append_assoc]
theorem zeroCells_one {r : Pl} {z : List SV} {v : Array Value} (h : EmbL r z v.toList) (hz : z.all SV.one = true) (n : Nat) (hv : v.size ≠ 0) : ∀ u ∈ (Builtin.zeroCells v n).toList, u.oneCell' = true := by
  intro u hu
  simp [Builtin.zeroCells] at hu
  obtain ⟨i, hi, rfl⟩ := hu
  have hlt : i % v.size < v.size := Nat.mod_lt _ (by omega)
  rw [getElem!_pos v _ hlt]
  exact h.ones hz _ (by simp)
/-- A new row behind an append that has no room. -/
theorem Sim.newRow {r : Pl} {S : Tr} {nx : Nat} {w : World} (h : Sim r S nx w) {l : List SV} {u x : List Value} {m c z : Nat} {t : TypeId} (hl : EmbL r l u) (hx : ∀ v ∈ x, v.oneCell' = true) (hc : u.length + x.length = c * m) (hz : z ≤ u.length) :
    Sim (r.new nx w.heap.size c) (updT S nx (some (.row l m t z))) (nx + 1) (w.drew.alloc (.cells (u ++ x).toArray t (0, 0))) ∧
    Upd (feet r) w (feet (r.new nx w.heap.size c)) (w.drew.alloc (.cells (u ++ x).toArray t (0, 0))) := by
  have hd : Sim r S nx w.drew := h.drew
  obtain ⟨k1, k2⟩ := hd.new (o := .row l m t z) (c := c) (y := .cells (u ++ x).toArray t (0, 0)) (.row l m t z u x hl c hx hc hz 0 (by omega))
  exact ⟨k1, (Upd.of_bel (Bel.drew w)).trans k2⟩
/-- A row takes a new name, with its block. -/
theorem Sim.rename {r : Pl} {S : Tr} {nx : Nat} {w w' : World} (h : Sim r S nx w) {g b d : Nat} {o : SO} (hg : atT S g = some o) (hr : r g = some (b, d)) {o' : SO} {y' : Obj} (ho : ObjR r o' d y') (ht : Turn w b y' w') :
    Sim (r.new nx b d) (updT (updT S g none) nx (some o')) (nx + 1) w' ∧ Upd (feet r) w (feet (r.new nx b d)) w' := by
  have hle := h.le_new b d
  have old : ∀ j p, atT (updT S g none) j = some p → j ≠ g ∧ atT S j = some p := fun j p hj => by
    rcases at_upd _ _ _ _ hj with ⟨_, e⟩ | ⟨n, e⟩
    · simp at e
    · exact ⟨n, e⟩
  have rold : ∀ j p, atT S j = some p → (r.new nx b d) j = r j := fun j p hj => by
    obtain ⟨b', c', y, q1, _, _⟩ := h.obj j p hj
    have := (h.dom _ _ _ q1).2
    simp only [Pl.new]
    rw [if_neg (by omega)]
  refine ⟨⟨?_, ?_, ?_⟩, ?_⟩
  · intro j p hj
    rcases at_upd _ _ _ _ hj with ⟨rfl, e⟩ | ⟨hne, e⟩
    · obtain rfl := Option.some.inj e
      exact ⟨b, d, _, Pl.new_self _ _ _ _, ht.at', ho.up hle⟩
    · obtain ⟨n1, e⟩ := old j p e
      obtain ⟨b', c', y, q1, q2, q3⟩ := h.obj j p e
      refine ⟨b', c', y, hle _ _ q1, ?_, q3.up hle⟩
      rw [ht.ne b' (fun eb => n1 (h.inj j g p o b c' d e hg (eb ▸ q1) hr))]
      exact q2
  · intro j j' p p' b' c' d' e1 e2 f1 f2
    rcases at_upd _ _ _ _ e1 with ⟨rfl, e⟩ | ⟨hne, e⟩ <;> rcases at_upd _ _ _ _ e2 with ⟨rfl, e'⟩ | ⟨hne', e'⟩
    · rfl
    · obtain ⟨n1, e'⟩ := old _ _ e'
      rw [rold _ _ e'] at f2
      rw [Pl.new_self] at f1
      simp at f1
      obtain ⟨rfl, rfl⟩ := f1
      exact absurd (h.inj j' g p' o b d' d e' hg f2 hr) n1
    · obtain ⟨n1, e⟩ := old _ _ e
      rw [rold _ _ e] at f1
      rw [Pl.new_self] at f2
      simp at f2
      obtain ⟨rfl, rfl⟩ := f2
      exact absurd (h.inj j g p o b c' d e hg f1 hr) n1
    · obtain ⟨n1, e⟩ := old _ _ e
      obtain ⟨n2, e'⟩ := old _ _ e'
      rw [rold _ _ e] at f1
      rw [rold _ _ e'] at f2
      exact h.inj j j' p p' b' c' d' e e' f1 f2
  · intro j b' c' e
    rw [ht.size]
    simp only [Pl.new] at e
    split at e
    · simp at e
      have := h.dom g b d hr
      omega
    · have := h.dom j b' c' e
      omega
  · refine ⟨ht.os, ht.tape, ht.output, by rw [ht.size]; exact Nat.le_refl _, fun k hk hn => ht.ne k (fun e => hn ⟨g, d, by rw [e]; exact hr⟩), fun k hk => ?_⟩
    obtain ⟨j, c, e⟩ := hk
    simp only [Pl.new] at e
    split at e
    · simp at e; exact .inl ⟨g, d, by rw [hr, e.1]⟩
    · exact .inl ⟨j, c, e⟩
theorem old_cells {r : Pl} {g : Nat} {so : SO} {w : World} (hk : KeepObj r g so w) {l : List SV} (hl : so.list = some l) {o n m : Nat} (hn : longS l (Nat.add o (Nat.mul n m)) = true) {b d : Nat} (hr : r g = some (b, d)) (c : Nat) :
    ∃ vs, EmbL r (takeS (dropS l o) (Nat.mul n m)) vs ∧ vs.length = n * m ∧ ∀ w', w'.heap = w.heap → (Builtin.firstCells m n (.slice (some ⟨b, o, none⟩) n c)).run P w' = .ok vs.toArray w' := by
  obtain ⟨b', c', vs, q1, q2, q3, q4⟩ := hk.readN hl o (n * m) hn
  rw [hr] at q1
  obtain ⟨rfl, rfl⟩ : b = b' ∧ d = c' := by simpa using q1
  refine ⟨vs, q2, q3, fun w' hw => ?_⟩
  have := lit_take (P := P) w' ⟨b, o, none⟩ vs m n n q3 (Nat.le_refl _) (fun j u hu => ?_) n c
  · rw [List.take_of_length_le (by omega)] at this
    exact this
  · have hj : j < n * m := by have := (List.getElem?_eq_some_iff.1 hu).1; omega
    rw [cells_add]
    have : w'.cell? ⟨b, o + j, none⟩ = w.cell? ⟨b, o + j, none⟩ := by simp [World.cell?, hw]
    rw [this, q4 j hj]
    exact hu
theorem grow_same {w : World} {b n n' C : Nat} {A A' : Array Value} {e : TypeId} (h1 : n = n') (h2 : A = A') :
    (Result.ok (.slice (some ⟨b, 0, none⟩) n C) (w.alloc (.cells A e)) : Result Value) = .ok (.slice (some ⟨b, if C ≤ 0 then 0 else 0, none⟩) n' (C - 0)) (w.alloc (.cells A' e (0, 0))) := by
  subst h1 h2
  simp
variable {T : Tab P}
theorem appV_ok (hT : TabOK T) {r : Pl} {S : Tr} {nx : Nat} {w : World} (hs : Sim r S nx w) {t1 t2 rt : TypeId} {d2 : TypeDesc} (h2 : P.underlying t2 = some d2) (hd2 : ∀ k, d2 ≠ .int k) {i : TypeId × Nat × List SV} (hi : elemOf T t1 = some i) {x : SV} {a v : Value} (hx : Emb r x a)
    {q : Nat × List SV} {vs : List Value} (hv : EmbL r q.2 vs) (hsrc : Src P w i.2.1 v q.1 vs) (hone : q.2.all SV.one = true) {tl : List TypeId} {mm : Sem Next} (hrun : ∀ x w', (Builtin.append_ (t1 :: t2 :: tl).toArray rt #[a, v]).run P w = .ok x w' → mm.run P w = .ok (.value x) w') :
    EffOK P r S nx w mm (appV i.1 i.2.1 x S nx q) := by
  obtain ⟨ti, zv, hu, e1, e2, e3, e4, e5, e6, hm, hz1⟩ := elemOf_ok hT hi
  obtain ⟨e, m, z⟩ := i
  obtain ⟨k, news⟩ := q
  simp only at hu e1 e2 e4 e5 hm hz1 hv hsrc hone ⊢
  refine bI_stuck fun hk => ?_
  have hk : k ≤ 100000 := Nat.le_of_ble_eq_true hk
  have hones : ∀ u ∈ vs, u.oneCell' = true := hv.ones hone
  have hsz := hsrc.size
  have hnl := hv.len
  have hzs : zv.cells.size ≠ 0 := by omega
  have hzc := fun n => zeroCells_one (e5 r) hz1 n hzs
  have hsrc' : Src P w ti.size v k vs := by rw [e2]; exact hsrc
  cases x <;> first | trivial | skip
  case nils =>
    cases hx
    show EffOK P r S nx w mm (appNil e m k news S nx)
    unfold appNil
    rw [bI_eq]
    split
    · rename_i h0
      obtain rfl := Nat.eq_of_beq_eq_true h0
      refine ⟨_, .nils, hrun _ _ ?_⟩
      have hzz := noInt d2 hd2
      simp only [Builtin.append_, List.getElem?_toArray, List.getElem?_cons_zero, List.getElem?_cons_succ, Sem.run_bind, run_underlying hu, Result.andThen_ok, run_sizeOf' e1, run_underlying h2, Sem.run_pure, hzz]
      simp only [Bool.false_eq_true, if_false, hsrc.len, Result.andThen_ok, Nat.add_zero, Nat.le_refl, if_true, Bool.not_false, Sem.run_bind, hsrc'.cells w rfl 0 (Nat.le_refl _), Sem.run_pure]
    · rename_i h0
      have h0 : k ≠ 0 := fun e => h0 (by rw [e]; rfl)
      have hr := run_append_out (rt := rt) hu h2 hd2 e1 e3 hsrc' (base := none) (n := 0) (c := 0) (olds := []) (fun w' _ => by simp [Builtin.firstCells]) (by omega) (by omega) e6 tl
      have hgc := grownCap_ge w (0 + k) 0 e
      obtain ⟨k1, k2⟩ := hs.newRow (m := m) (z := 0) (c := grownCap w (0 + k) 0 e) (t := e) (x := (Builtin.zeroCells zv.cells (grownCap w (0 + k) 0 e - (0 + k))).toList) hv (hzc _) (by
        have hzl : (Builtin.zeroCells zv.cells (grownCap w (0 + k) 0 e - (0 + k))).toList.length = (grownCap w (0 + k) 0 e - (0 + k)) * m := by rw [Array.length_toList, size_zeroCells, e4]
        rw [hzl, hsz, ← Nat.add_mul]
        congr 1
        omega) (by omega)
      have hown : Emb (r.new nx w.heap.size (grownCap w (0 + k) 0 e)) (.own nx 0 k 0) (.slice (some ⟨w.heap.size, if grownCap w (0 + k) 0 e ≤ 0 then 0 else 0, none⟩) k (grownCap w (0 + k) 0 e - 0)) := .own nx 0 k 0 _ _ (Pl.new_self _ _ _ _) (by omega)
      refine ⟨_, _, _, hs.le_new _ _, k1, hown, k2, .inl (hrun _ _ ?_)⟩
      rw [hr]
      exact grow_same (by simp) (by apply Array.ext'; simp)
  case slice g o n c =>
    cases hx with
    | slice _ _ _ _ b d hrg hnc =>
      show EffOK P r S nx w mm (bI (Nat.ble n 100000) (appSl e m k news S nx g o n c) (.stuck 36))
      refine bI_stuck fun hn => rB_stuck fun ob hg => rB_stuck fun l hl => ?_
      have hn : n ≤ 100000 := Nat.le_of_ble_eq_true hn
      obtain ⟨b', c', yy, q1, q2, q3⟩ := hs.obj g ob hg
      rw [hrg] at q1
      obtain ⟨rfl, rfl⟩ : b = b' ∧ d = c' := by simpa using q1
      rw [bI_eq]
      split
      · rename_i hroom
        have hroom : n + k ≤ c := Nat.le_of_ble_eq_true hroom
        refine bI_stuck fun hlong => ?_
        rw [longS_eq] at hlong
        have hlong : o + (n + k) * m ≤ l.length := of_decide_eq_true hlong
        rw [bI_eq]
        split
        · rename_i h0
          obtain rfl := Nat.eq_of_beq_eq_true h0
          have hvs : vs = [] := by have : vs.length = 0 := by rw [hsz]; simp
                                   exact List.length_eq_zero_iff.1 this
          refine ⟨_, .slice g o n c b d hrg hnc, hrun _ _ (run_append_in hu h2 hd2 e1 hsrc' hroom ?_ tl)⟩
          rw [hvs]
          rfl
        · refine bI_stuck fun hop => ?_
          have hnk : (n + k) * m = n * m + k * m := Nat.add_mul _ _ _
          obtain ⟨cur, t, zz, rfl, z1, z2, z3⟩ := q3.write hl hop hv (by show o + n * m + news.length ≤ _; omega)
          have z1 : zz ≤ o + n * m := z1
          have hst := run_storeCells_fr P b (o + n * m) zz t z1 vs 0 cur w q2 (by simpa using z2) hones
          simp only [Nat.add_zero] at hst
          obtain ⟨k1, k2⟩ := hs.turnT hg hrg z3 (Turn.setRow q2 _)
          refine ⟨r, _, _, Pl.le_refl r, k1, .slice g o (n + k) c b d hrg hroom, k2, .inl (hrun _ _ (run_append_in hu h2 hd2 e1 hsrc' hroom ?_ tl))⟩
          rw [e2, cells_add]
          exact hst
      · rename_i hroom
        have hroom : ¬ n + k ≤ c := fun e => hroom (Nat.ble_eq_true_of_le e)
        refine bI_stuck fun hlong => ?_
        obtain ⟨olds, o1, o2, o3⟩ := old_cells (P := P) (hs.keep hg) hl hlong hrg c
        have hr := run_append_out (rt := rt) hu h2 hd2 e1 e3 hsrc' (base := some ⟨b, o, none⟩) (n := n) (c := c) (olds := olds) (by rw [e2]; exact o3) (by omega) (by omega) e6 tl
        have hgc := grownCap_ge w (n + k) c e
        obtain ⟨k1, k2⟩ := hs.newRow (m := m) (z := 0) (c := grownCap w (n + k) c e) (t := e) (l := appS (takeS (dropS l o) (Nat.mul n m)) news) (x := (Builtin.zeroCells zv.cells (grownCap w (n + k) c e - (n + k))).toList) (by rw [appS_eq]; exact o1.append hv) (hzc _) (by
          have hzl : (Builtin.zeroCells zv.cells (grownCap w (n + k) c e - (n + k))).toList.length = (grownCap w (n + k) c e - (n + k)) * m := by rw [Array.length_toList, size_zeroCells, e4]
          rw [hzl, List.length_append, hsz, o2, ← Nat.add_mul, ← Nat.add_mul]
          congr 1
          omega) (by omega)
        have hown : Emb (r.new nx w.heap.size (grownCap w (n + k) c e)) (.own nx 0 (n + k) 0) (.slice (some ⟨w.heap.size, if grownCap w (n + k) c e ≤ 0 then 0 else 0, none⟩) (n + k) (grownCap w (n + k) c e - 0)) := .own nx 0 (n + k) 0 _ _ (Pl.new_self _ _ _ _) (by omega)
        refine ⟨_, _, _, hs.le_new _ _, k1, hown, k2, .inl (hrun _ _ ?_)⟩
        rw [hr]
        exact grow_same rfl (by apply Array.ext'; simp)
  case own g o n j =>
    cases hx with
    | own _ _ _ _ b d hrg hnd =>
      show EffOK P r S nx w mm (bI (Nat.ble n 100000) (appOwn e m k news S nx g o n j) (.stuck 36))
      refine bI_stuck fun hn => bI_stuck fun hoj => rB_stuck fun ob hg => ?_
      have hn : n ≤ 100000 := Nat.le_of_ble_eq_true hn
      obtain ⟨ho, hj⟩ := aB_true hoj
      obtain rfl := Nat.eq_of_beq_eq_true ho
      obtain rfl := Nat.eq_of_beq_eq_true hj
      obtain ⟨b', c', yy, q1, q2, q3⟩ := hs.obj g ob hg
      rw [hrg] at q1
      obtain ⟨rfl, rfl⟩ : b = b' ∧ d = c' := by simpa using q1
      have hcap : d - 0 = d := by omega
      have hoff : (if d ≤ 0 then 0 else 0) = 0 := by split <;> rfl
      cases ob <;> first | trivial | skip
      rename_i l m' t' hh
      show EffOK P r S nx w mm (bI (aB (Nat.beq m m') (Nat.beq e t')) _ _)
      refine bI_stuck fun hmm => ?_
      obtain ⟨m1, m2⟩ := aB_true hmm
      obtain rfl := Nat.eq_of_beq_eq_true m1
      obtain rfl := Nat.eq_of_beq_eq_true m2
      cases q3 with
      | row _ _ _ _ us xs ku _ hxs hcs hzz z0 hz0 =>
        have hul := ku.len
        rw [bI_eq]
        split
        · rename_i h0
          obtain rfl := Nat.eq_of_beq_eq_true h0
          have hvs : vs = [] := by have : vs.length = 0 := by rw [hsz]; simp
                                   exact List.length_eq_zero_iff.1 this
          refine ⟨_, .own g 0 n 0 b d hrg hnd, hrun _ _ ?_⟩
          rw [hcap, hoff]
          refine run_append_in hu h2 hd2 e1 hsrc' (by omega) ?_ tl
          rw [hvs]
          rfl
        · refine bI_stuck fun hh1 => ?_
          have hh1 : hh ≤ n * m := Nat.le_of_ble_eq_true hh1
          rw [bI_eq]
          split
          · rename_i hlong
            rw [longS_eq] at hlong
            have hlong : (n + k) * m ≤ l.length := of_decide_eq_true hlong
            have hnk : (n + k) * m = n * m + k * m := Nat.add_mul _ _ _
            have hle : (n + k) * m ≤ d * m := by omega
            have hroom : n + k ≤ d := Nat.le_of_mul_le_mul_right hle (Nat.pos_of_ne_zero hm)
            obtain ⟨cur, t, zz, ec, z1, z2, z3⟩ := (ObjR.row (r := r) l m e hh us xs ku d hxs hcs hzz z0 hz0).write (i := Nat.mul n m) rfl (Nat.ble_eq_true_of_le hh1) hv (by show n * m + news.length ≤ _; omega)
            obtain ⟨rfl, rfl, ez⟩ : (us ++ xs).toArray = cur ∧ e = t ∧ (0, z0) = (0, zz) := by simpa using ec
            obtain rfl : z0 = zz := by simpa using ez
            have hst := run_storeCells_fr P b (n * m) z0 e z1 vs 0 _ w q2 (by simpa using z2) hones
            simp only [Nat.add_zero] at hst
            obtain ⟨k1, k2⟩ := hs.turnT hg hrg z3 (Turn.setRow q2 _)
            refine ⟨r, _, _, Pl.le_refl r, k1, .own g 0 (n + k) 0 b d hrg (by omega), k2, .inl (hrun _ _ ?_)⟩
            rw [hcap, hoff]
            refine run_append_in hu h2 hd2 e1 hsrc' hroom ?_ tl
            rw [e2, cells_add, Nat.zero_add]
            exact hst
          · refine bI_stuck fun hln => ?_
            rw [lenS_eq] at hln
            have hln : l.length = n * m := Nat.eq_of_beq_eq_true hln
            rw [appS_eq]
            by_cases hroom : n + k ≤ d
            · have hle : (n + k) * m ≤ d * m := Nat.mul_le_mul_right _ hroom
              rw [Nat.add_mul] at hle
              have hst := run_storeCells_fr P b (n * m) z0 e (by omega) vs 0 (us ++ xs).toArray w q2 (by simp; omega) hones
              simp only [Nat.add_zero] at hst
              have e9 : ((us ++ xs).toArray.toList.take (n * m) ++ vs ++ (us ++ xs).toArray.toList.drop (n * m + vs.length)) = (us ++ vs) ++ xs.drop (k * m) := by
                simp only []
                have h1 : us.length = n * m := by omega
                rw [List.take_append_of_le_length (by omega), List.take_of_length_le (by omega), List.drop_append, List.drop_of_length_le (by omega)]
                rw [List.nil_append]
                have h2 : n * m + vs.length - us.length = k * m := by omega
                rw [h2]
              rw [e9] at hst
              obtain ⟨k1, k2⟩ := hs.rename hg hrg (o' := .row (l ++ news) m e hh) (.row _ m e hh (us ++ vs) (xs.drop (k * m)) (ku.append hv) d (fun q hq => hxs q (List.mem_of_mem_drop hq)) (by simp; omega) (by simp; omega) z0 hz0) (Turn.setRow q2 _)
              refine ⟨_, _, _, hs.le_new _ _, k1, .own nx 0 (n + k) 0 b d (Pl.new_self _ _ _ _) (by omega), k2, .inl (hrun _ _ ?_)⟩
              rw [hcap, hoff]
              refine run_append_in hu h2 hd2 e1 hsrc' hroom ?_ tl
              rw [e2, cells_add, Nat.zero_add]
              exact hst
            · have hlong0 : longS l (Nat.add 0 (Nat.mul n m)) = true := by
                rw [longS_eq]
                exact decide_eq_true (by show 0 + n * m ≤ l.length; omega)
              obtain ⟨olds, o1, o2, o3⟩ := old_cells (P := P) (hs.keep hg) (l := l) rfl hlong0 hrg d
              have hr := run_append_out (rt := rt) hu h2 hd2 e1 e3 hsrc' (base := some ⟨b, 0, none⟩) (n := n) (c := d) (olds := olds) (by rw [e2]; exact o3) (by omega) (by omega) e6 tl
              have hgc := grownCap_ge w (n + k) d e
              have hll : takeS (dropS l 0) (Nat.mul n m) = l := by
                rw [takeS_eq, dropS_eq, List.drop_zero]
                exact List.take_of_length_le (by show l.length ≤ n * m; omega)
              rw [hll] at o1
              obtain ⟨k1, k2⟩ := (hs.drop g).newRow (m := m) (z := hh) (c := grownCap w (n + k) d e) (t := e) (l := l ++ news) (x := (Builtin.zeroCells zv.cells (grownCap w (n + k) d e - (n + k))).toList) (o1.append hv) (hzc _) (by
                have hzl : (Builtin.zeroCells zv.cells (grownCap w (n + k) d e - (n + k))).toList.length = (grownCap w (n + k) d e - (n + k)) * m := by rw [Array.length_toList, size_zeroCells, e4]
                rw [hzl, List.length_append, hsz, o2, ← Nat.add_mul, ← Nat.add_mul]
                congr 1
                omega) (by simp; omega)
              have hown : Emb (r.new nx w.heap.size (grownCap w (n + k) d e)) (.own nx 0 (n + k) 0) (.slice (some ⟨w.heap.size, if grownCap w (n + k) d e ≤ 0 then 0 else 0, none⟩) (n + k) (grownCap w (n + k) d e - 0)) := .own nx 0 (n + k) 0 _ _ (Pl.new_self _ _ _ _) (by omega)
              refine ⟨_, _, _, hs.le_new _ _, k1, hown, k2, .inl (hrun _ _ ?_)⟩
              rw [hcap, hoff, hr]
              exact grow_same rfl (by apply Array.ext'; simp)
end Go.Proofs.YtgpkpheejefiiaaGreatDoor
end
section
set_option linter.unusedVariables false
set_option linter.unusedSimpArgs false
namespace Go.Proofs.YtgpkpheejefiiaaGreatDoor
open Go.RowKit
variable {P : Program}
theorem bytesWorld_alloc (w : World) (e : TypeId) (s : ByteArray) :
    Lib.bytesWorld w e s = w.drew.alloc (.cells (Lib.bytesCells w e s) e ((Lib.bytesCells w e s).size, (Lib.bytesCells w e s).size + 1)) := by
  have hh : ∀ (w' : World), w'.heap = (w.drew.alloc (.cells (Lib.bytesCells w e s) e ((Lib.bytesCells w e s).size, (Lib.bytesCells w e s).size + 1))).heap → w'.tape = w.tape → w'.drawn = w.drew.drawn → w'.os = w.os → w'.output = w.output →
      w' = w.drew.alloc (.cells (Lib.bytesCells w e s) e ((Lib.bytesCells w e s).size, (Lib.bytesCells w e s).size + 1)) := by
    intro w' h1 h2 h3 h4 h5
    cases w'
    cases w
    simp_all [World.alloc, World.drew, -World.alloc_eq, -World.drew_eq]
  refine hh _ ?_ rfl rfl rfl rfl
  apply Array.ext_getElem?
  intro j
  by_cases hj : j = w.heap.size
  · subst hj
    rw [Lib.bytesWorld_at_new]
    simp [World.alloc, World.drew, -World.alloc_eq, -World.drew_eq]
  · by_cases hlt : j < w.heap.size
    · rw [Lib.bytesWorld_at_old w e s j hlt]
      simp [World.alloc, World.drew, -World.alloc_eq, -World.drew_eq, Array.getElem?_push, hj]
    · rw [Array.getElem?_eq_none (by rw [Lib.bytesWorld_size]; omega)]
      simp [World.alloc, World.drew, -World.alloc_eq, -World.drew_eq, Array.getElem?_push, hj]
      omega
theorem freeze_eq {w : World} {b z n : Nat} {c : Array Value} {t : TypeId} (h : w.heap[b]? = some (.cells c t (0, z))) (hn : n ≠ 0) : Turn w b (.cells c t (0, max z n)) (w.freeze ⟨b, 0, none⟩ n) := by
  have hlt := blk_lt h
  have e : w.freeze ⟨b, 0, none⟩ n = { w with heap := w.heap.setIfInBounds b (.cells c t (0, max z n)) } := by
    unfold World.freeze
    rw [if_neg hn]
    congr 1
    apply Array.ext_getElem?
    intro j
    by_cases hj : b = j
    · subst hj
      rw [Array.getElem?_modify, if_pos rfl, h]
      simp [hlt]
      by_cases hz : z = 0
      · subst hz; simp
      · intro h0; exact absurd h0.symm hz
    · rw [Array.getElem?_modify, if_neg hj]
      simp [hj]
  rw [e]
  exact Turn.set hlt _
variable {T : Tab P}
theorem onStr_stuck {x : SV} {n : Nat} {k : List Nat → Rs} {r : Pl} {S : Tr} {nx : Nat} {w : World} {m : Sem Next} (h : ∀ l, x = .str l → EffOK P r S nx w m (k l)) : EffOK P r S nx w m (x.onStr (.stuck n) k) := by
  cases x <;> first | trivial | exact h _ rfl
theorem bytesV_ok (hT : TabOK T) {r : Pl} {S : Tr} {nx : Nat} {w : World} (hs : Sim r S nx w) {src dst : TypeId} (h1 : isStrT T src = true) (h2 : isByS T dst = true) {x : SV} {a : Value} (hx : Emb r x a) {mm : Sem Next}
    (hrun : ∀ x w', (convert src dst a).run P w = .ok x w' → mm.run P w = .ok (.value x) w') : EffOK P r S nx w mm (bytesV x S nx) := by
  refine onStr_stuck fun l hl => ?_
  subst hl
  obtain ⟨e, t1, t2⟩ := isByS_ok hT h2
  have t3 := isStrT_ok hT h1
  cases hx with
  | str _ hl =>
    have hr := Lib.run_convert_string_bytes (P := P) w src dst e (bytesOf l) t3 t1 t2
    rw [bytesWorld_alloc, bytesOf_size] at hr
    have hgc := grownCap_ge w l.length 0 e
    generalize hcc : grownCap w l.length 0 e = C at hr hgc
    have hu : ∃ u x, EmbL r (mapB l) u ∧ Lib.bytesCells w e (bytesOf l) = (u ++ x).toArray := by
      refine ⟨_, (Array.replicate (grownCap w (bytesOf l).size 0 e - (bytesOf l).size) (.int .u8 0)).toList, mapB_ok l hl, ?_⟩
      apply Array.ext'
      simp [Lib.bytesCells]
    obtain ⟨u, xs, u1, u2⟩ := hu
    rw [u2] at hr
    have hd : Sim r S nx w.drew := hs.drew
    obtain ⟨k1, k2⟩ := hd.new (o := .ro (mapB l)) (c := C) (y := .cells (u ++ xs).toArray e ((u ++ xs).toArray.size, (u ++ xs).toArray.size + 1)) (.ro _ C u xs e _ u1)
    have hown : Emb (r.new nx w.heap.size C) (.own nx 0 (lenN l) 0) (.slice (some ⟨w.heap.size, if C ≤ 0 then 0 else 0, none⟩) (lenN l) (C - 0)) := .own nx 0 (lenN l) 0 _ _ (Pl.new_self _ _ _ _) (by rw [lenN_eq]; omega)
    refine ⟨_, _, _, hs.le_new _ _, k1, hown, (Upd.of_bel (Bel.drew w)).trans k2, .inl (hrun _ _ ?_)⟩
    rw [hr, lenN_eq]
    simp
theorem strU_ok (hT : TabOK T) {r : Pl} {S : Tr} {nx : Nat} {w : World} (hs : Sim r S nx w) {t1 : TypeId} (h1 : isBytP T t1 = true) {x y : SV} {a u : Value} (hx : Emb r x a) (hy : Emb r y u) {mm : Sem Next} {tl : List TypeId} {rt : TypeId}
    (hrun : ∀ x w', (Builtin.unsafeString_ (t1 :: tl).toArray rt #[a, u]).run P w = .ok x w' → mm.run P w = .ok (.value x) w') : EffOK P r S nx w mm (strU x y S nx) := by
  have hp : P.underlying t1 = some (.pointer 5) ∧ P.cellsOf 5 = 1 := by
    unfold isBytP at h1
    split at h1
    · rename_i hd
      refine ⟨hT.und _ _ hd, ?_⟩
      split at h1
      · rename_i m z hi
        obtain ⟨i, zv, e1, e2, _⟩ := infP hT hi
        obtain rfl := Nat.eq_of_beq_eq_true h1
        simp [Program.cellsOf, e1, e2]
      · exact boolno h1
    · exact boolno h1
  obtain ⟨p1, p2⟩ := hp
  cases y <;> first | trivial | skip
  rename_i k n
  show EffOK P r S nx w mm (bI (aB (kEq k .i64) (inI n 100000)) _ _)
  refine bI_stuck fun hc => ?_
  obtain ⟨c1, c2⟩ := aB_true hc
  obtain rfl := kEq_true c1
  obtain ⟨n0, n1⟩ := inI_true c2
  cases hy
  rw [bI_eq]
  split
  · rename_i hnil
    refine bI_stuck fun hn => ?_
    rw [eqI_eq] at hn
    obtain rfl : n = 0 := by simpa using hn
    cases x <;> first | exact boolno hnil | skip
    cases hx
    refine ⟨_, .str [] (by simp), hrun _ _ ?_⟩
    have hsame : ∀ v, Builtin.unsafeString_ (t1 :: tl).toArray rt v = Builtin.unsafeString_ #[t1, t1] rt v := fun v => rfl
    rw [hsame]
    exact Lib.run_unsafeString_none w _ _ _ none
  · rename_i hnp
    clear hnp
    cases x <;> first | trivial | skip
    rename_i g o
    show EffOK P r S nx w mm (bI (aB (Nat.beq o 0) (nB (eqI n 0))) _ _)
    refine bI_stuck fun hc2 => rB_stuck fun ob hg => ?_
    obtain ⟨c3, c4⟩ := aB_true hc2
    obtain rfl := Nat.eq_of_beq_eq_true c3
    have hn0 : n ≠ 0 := fun e => by
      have := nB_true c4
      rw [e, eqI_eq] at this
      simp at this
    cases ob <;> first | trivial | skip
    rename_i l m t h
    show EffOK P r S nx w mm (bI (aB (aB (Nat.beq m 1) (Nat.beq t 5)) (longS l n.toNat)) _ _)
    refine bI_stuck fun hc3 => rB_stuck fun s hso => ?_
    obtain ⟨c5, c6⟩ := aB_true hc3
    obtain ⟨c7, c8⟩ := aB_true c5
    obtain rfl := Nat.eq_of_beq_eq_true c7
    obtain rfl := Nat.eq_of_beq_eq_true c8
    rw [longS_eq] at c6
    have c6 : n.toNat ≤ l.length := of_decide_eq_true c6
    obtain ⟨b', c', yy, q1, q2, q3⟩ := hs.obj g _ hg
    cases hx with
    | ptr _ _ b c hb =>
      rw [hb] at q1
      obtain ⟨rfl, rfl⟩ : b = b' ∧ c = c' := by simpa using q1
      cases q3 with
      | row _ _ _ _ us xs ku _ hxs hcs hzz z0 hz0 =>
        have hul := ku.len
        have hnt : n.toNat ≠ 0 := by omega
        rw [takeS_eq] at hso
        obtain ⟨k1, k2⟩ := octs_ok _ s _ hso (ku.take n.toNat)
        have hsl : s.length = n.toNat := by
          have := congrArg List.length k1
          simp at this
          omega
        have hmax : bI (Nat.ble h n.toNat) n.toNat h = max h n.toNat := by
          rw [bI_eq]
          split
          · have := Nat.le_of_ble_eq_true ‹_›; omega
          · rename_i hh
            have : ¬ h ≤ n.toNat := fun e => hh (Nat.ble_eq_true_of_le e)
            omega
        rw [hmax]
        obtain ⟨j1, j2⟩ := hs.turnT (o' := .row l 1 5 (max h n.toNat)) hg hb (.row l 1 5 (max h n.toNat) us xs ku c hxs hcs (by omega) (max z0 n.toNat) (by omega)) (freeze_eq q2 hnt)
        refine ⟨r, _, _, Pl.le_refl r, j1, .str s k2, j2, .inl (hrun _ _ ?_)⟩
        have hl8 : (s.map fun n => n.toUInt8).length = n.toNat := by simp [hsl]
        have hrow := Lib.run_unsafeString_row (P := P) w t1 t1 rt 5 p1 p2 b (us ++ xs).length (by simp [World.shape?, q2]) (s.map fun n => n.toUInt8) (fun e => by rw [e] at hl8; simp at hl8; omega) (by simp; omega) (by omega) (fun j x hj => by
          rw [cells_add, Nat.zero_add, blk_cellF q2]
          have hj2 := List.getElem?_eq_some_iff.1 hj
          obtain ⟨hj3, hj4⟩ := hj2
          simp at hj3
          have hju : j < us.length := by omega
          have e1 : (us.take n.toNat)[j]? = some us[j] := by rw [List.getElem?_take, if_pos (by omega)]; simp [hju]
          rw [k1] at e1
          simp [hj3] at e1
          simp [List.getElem?_append, hju]
          rw [← e1, ← hj4]
          have := k2 _ (List.getElem_mem hj3)
          simp
          omega)
        rw [hl8] at hrow
        have hnn : ((n.toNat : Nat) : Int) = n := by omega
        rw [hnn] at hrow
        have hsame : ∀ v, Builtin.unsafeString_ (t1 :: tl).toArray rt v = Builtin.unsafeString_ #[t1, t1] rt v := fun v => rfl
        rw [hsame, hrow]
        simp [bytesOf]
end Go.Proofs.YtgpkpheejefiiaaGreatDoor
end
section
set_option linter.unusedVariables false
set_option linter.unusedSimpArgs false
namespace Go.Proofs.YtgpkpheejefiiaaGreatDoor
open Go.RowKit
variable {P : Program}
variable {T : Tab P}
theorem clrAt_ok (hT : TabOK T) {r : Pl} {S : Tr} {nx : Nat} {w : World} (hs : Sim r S nx w) {t1 rt : TypeId} {i : TypeId × Nat × List SV} (hi : elemOf T t1 = some i) {tl : List TypeId} {mm : Sem Next}
    {g o n j b d : Nat} (hr : r g = some (b, d)) (o' c : Nat) (ho : n ≠ 0 → o' = o) (hrun : ∀ x w', (Builtin.clear_ (t1 :: tl).toArray rt #[.slice (some ⟨b, o', none⟩) n c]).run P w = .ok x w' → mm.run P w = .ok (.value x) w') :
    EffOK P r S nx w mm (clrAt i.2.2 i.2.1 S nx g o n j) := by
  obtain ⟨ti, zv, hu, e1, e2, e3, e4, e5, e6, hm, hz1⟩ := elemOf_ok hT hi
  obtain ⟨e, m, z⟩ := i
  simp only at hu e1 e2 e4 e5 hm hz1 ⊢
  unfold clrAt
  rw [bI_eq]
  split
  · rename_i h0
    obtain rfl := Nat.eq_of_beq_eq_true h0
    refine ⟨_, .tup [] [] .nil, hrun _ _ ?_⟩
    simp [Builtin.clear_, run_underlying hu]
  · rename_i h0
    have h0 : n ≠ 0 := fun e => h0 (by rw [e]; rfl)
    have hoe := ho h0
    rw [hoe] at hrun
    refine rB_stuck fun ob hg => rB_stuck fun l hl => bI_stuck fun hc => ?_
    obtain ⟨c1, c2⟩ := aB_true hc
    rw [longS_eq] at c2
    have c2 : o + n * m ≤ l.length := of_decide_eq_true c2
    obtain ⟨b', c', yy, q1, q2, q3⟩ := hs.obj g ob hg
    rw [hr] at q1
    obtain ⟨rfl, rfl⟩ : b = b' ∧ d = c' := by simpa using q1
    have hzl := (e5 r).len
    simp at hzl
    have hzz : z.length = m := by omega
    have hz0 : z ≠ [] := fun e => by rw [e] at hzz; simp at hzz; omega
    have hz := zerosS_ok (e5 r) n hz0
    have hsz : zv.cells.size = z.length := by omega
    have hzc : (Builtin.zeroCells zv.cells n).toList = ((Array.range (n * z.length)).map (zv.cells[· % zv.cells.size]!)).toList := by rw [Builtin.zeroCells, hsz]
    rw [← hzc] at hz
    have hzn : (Builtin.zeroCells zv.cells n).toList.length = n * m := by rw [Array.length_toList, size_zeroCells, e4]
    have hlen := hz.len
    obtain ⟨cur, t, zz, rfl, z1, z2, z3⟩ := q3.write hl c1 hz (by omega)
    have hst := run_storeCells_fr P b o zz t z1 (Builtin.zeroCells zv.cells n).toList 0 cur w q2 (by simpa using z2) (zeroCells_one (e5 r) hz1 n (by omega))
    simp only [Nat.add_zero] at hst
    obtain ⟨k1, k2⟩ := hs.turnT hg hr z3 (Turn.setRow q2 _)
    refine ⟨r, _, _, Pl.le_refl r, k1, .tup [] [] .nil, k2, .inl (hrun _ _ ?_)⟩
    obtain ⟨k, rfl⟩ : ∃ k, n = k + 1 := ⟨n - 1, by omega⟩
    simp only [Builtin.clear_, List.getElem?_toArray, List.getElem?_cons_zero, Sem.run_bind, run_underlying hu, Result.andThen_ok, run_zero' e1 e3, hst, Sem.run_pure]
theorem clrV_ok (hT : TabOK T) {r : Pl} {S : Tr} {nx : Nat} {w : World} (hs : Sim r S nx w) {t1 rt : TypeId} {i : TypeId × Nat × List SV} (hi : elemOf T t1 = some i) {tl : List TypeId} {mm : Sem Next} {x : SV} {a : Value} (hx : Emb r x a)
    (hrun : ∀ x w', (Builtin.clear_ (t1 :: tl).toArray rt #[a]).run P w = .ok x w' → mm.run P w = .ok (.value x) w') : EffOK P r S nx w mm (clrV i.2.2 i.2.1 x S nx) := by
  cases x <;> first | trivial | skip
  case nils =>
    cases hx
    obtain ⟨ti, zv, hu, _⟩ := elemOf_ok hT hi
    refine ⟨_, .tup [] [] .nil, hrun _ _ ?_⟩
    simp [Builtin.clear_, run_underlying hu]
  case slice g o n c =>
    cases hx with
    | slice _ _ _ _ b d hr hnc => exact clrAt_ok (j := c) hT hs hi hr o c (fun _ => rfl) hrun
  case own g o n j =>
    cases hx with
    | own _ _ _ _ b d hr hnd => exact clrAt_ok (j := j) hT hs hi hr (if d ≤ j then 0 else o) (d - j) (fun hn => if_neg (by omega)) hrun
theorem copyV_ok (hT : TabOK T) {r : Pl} {S : Tr} {nx : Nat} {w : World} (hs : Sim r S nx w) {t1 rt : TypeId} {i : TypeId × Nat × List SV} (hi : elemOf T t1 = some i) {x : SV} {a v : Value} (hx : Emb r x a)
    {q : Nat × List SV} {vs : List Value} (hv : EmbL r q.2 vs) (hsrc : Src P w i.2.1 v q.1 vs) (hone : q.2.all SV.one = true) {tl : List TypeId} {mm : Sem Next} (hrun : ∀ x w', (Builtin.copy_ (t1 :: tl).toArray rt #[a, v]).run P w = .ok x w' → mm.run P w = .ok (.value x) w') :
    EffOK P r S nx w mm (copyV i.2.1 x S nx q) := by
  obtain ⟨ti, zv, hu, e1, e2, _⟩ := elemOf_ok hT hi
  cases x <;> first | trivial | skip
  case nils =>
    cases hx
    refine ⟨_, .int .i64 0, hrun _ _ ?_⟩
    simp only [Builtin.copy_, List.getElem?_toArray, List.getElem?_cons_zero, List.getElem?_cons_succ, Sem.run_bind, run_underlying hu, Result.andThen_ok, hsrc.len, run_sizeOf' e1, e2]
    have hmn : Nat.min q.1 0 = 0 := Nat.min_zero _
    rw [hmn, hsrc.cells w rfl _ (Nat.zero_le _)]
    simp [goInt]
  case slice g o n c =>
    cases hx with
    | slice _ _ _ _ b d hr hnc => exact copyAt_ok (t2 := t1) (j := c) hs hv hsrc hone hu e1 e2 hr o c (fun _ => rfl) hrun
  case own g o n j =>
    cases hx with
    | own _ _ _ _ b d hr hnd => exact copyAt_ok (t2 := t1) (j := j) hs hv hsrc hone hu e1 e2 hr (if d ≤ j then 0 else o) (d - j) (fun hn => if_neg (by omega)) hrun
theorem eOf_ok (hT : TabOK T) {n : Nat} {o : Oper} {f : EF} (hf : eOf T n o.op = some f) {r : Pl} {e : En} {a : Go.Act} (h : Env n r e a) {S : Tr} {nx : Nat} {w : World} (hs : Sim r S nx w) :
    EffOK P r S nx w (execOp a.eval o) (f e S nx) := by
  obtain ⟨dst, op, ty, pos, after, guard⟩ := o
  simp only at hf
  cases op <;> simp only [eOf] at hf <;> first | exact nosome hf | skip
  case store ty x y =>
    obtain ⟨x', hx, hf⟩ := oB_some hf
    obtain ⟨y', hy, hf⟩ := oB_some hf
    obtain ⟨i, hi, hf⟩ := oB_some hf
    obtain rfl := Option.some.inj hf
    exact storeV_ok hT hs hi (h.opd hx) (h.opd hy) (fun w' hw => by simp [execOp, hw])
  case mapUpdate ty m k v =>
    obtain ⟨hm, hf⟩ := bI_some hf
    obtain ⟨m', hm', hf⟩ := oB_some hf
    obtain ⟨k', hk, hf⟩ := oB_some hf
    obtain ⟨v', hv, hf⟩ := oB_some hf
    obtain rfl := Option.some.inj hf
    exact updV_ok hT hs hm (h.opd hm') (h.opd hk) (h.opd hv) (fun w' hw => by simp [execOp, hw])
  case convert src dst x =>
    obtain ⟨hc, hf⟩ := bI_some hf
    obtain ⟨c1, c2⟩ := aB_true hc
    obtain ⟨x', hx, hf⟩ := oB_some hf
    obtain rfl := Option.some.inj hf
    exact bytesV_ok hT hs c1 c2 (h.opd hx) (fun v w' hw => by simp [execOp, hw])
  case call c =>
    obtain ⟨callee, ⟨args⟩, ⟨tys⟩⟩ := c
    unfold eCall at hf
    simp only at hf
    split at hf
    · rename_i g
      obtain ⟨g', hg, hf⟩ := oB_some hf
      obtain ⟨xs, hxs, hf⟩ := oB_some hf
      obtain rfl := Option.some.inj hf
      have h1 := h.opd hg
      have h2 := h.opdL _ _ hxs
      generalize hq : a.eval g = q at h1
      show EffOK P r S nx w _ (callV (getX g' e) (getL xs e))
      generalize getX g' e = s at h1 ⊢
      cases s <;> first | trivial | skip
      rename_i fn l1 l2
      cases h1 with
      | func _ _ _ u1 u2 k1 k2 =>
        show ∃ args', EmbL r (appS l1 (appS (getL xs e) l2)) args' ∧ _
        rw [appS_eq, appS_eq]
        refine ⟨_, k1.append (h2.append k2), ?_⟩
        simp [execOp, resolve, Deferred.ofValue, hq, invoke]
    · rename_i x y t1 t2 tl
      obtain ⟨x', hx, hf⟩ := oB_some hf
      obtain ⟨y', hy, hf⟩ := oB_some hf
      obtain ⟨i, hi, hf⟩ := oB_some hf
      obtain ⟨g, hg, hf⟩ := oB_some hf
      obtain rfl := Option.some.inj hf
      refine rB_stuck fun q hq => bI_stuck fun hone => ?_
      obtain ⟨vs, k1, k2, d2, k3, k4⟩ := srcF_ok hT hs hg (h.opd hy) hq
      rw [allS_eq] at hone
      exact appV_ok hT hs (rt := ty) (tl := tl) k3 k4 hi (h.opd hx) k1 k2 hone (fun v w' hw => run_builtin a.eval .append #[x, y] _ _ rfl (fun cs => by simp [builtin, hw]))
    · rename_i x y t1 t2 tl
      obtain ⟨x', hx, hf⟩ := oB_some hf
      obtain ⟨y', hy, hf⟩ := oB_some hf
      obtain ⟨i, hi, hf⟩ := oB_some hf
      obtain ⟨g, hg, hf⟩ := oB_some hf
      obtain rfl := Option.some.inj hf
      refine rB_stuck fun q hq => bI_stuck fun hone => ?_
      obtain ⟨vs, k1, k2, d2, k3, k4⟩ := srcF_ok hT hs hg (h.opd hy) hq
      rw [allS_eq] at hone
      exact copyV_ok hT hs (rt := ty) (tl := t2 :: tl) hi (h.opd hx) k1 k2 hone (fun v w' hw => run_builtin a.eval .copy #[x, y] _ _ rfl (fun cs => by simp [builtin, hw]))
    · rename_i x t1 tl
      obtain ⟨x', hx, hf⟩ := oB_some hf
      obtain ⟨i, hi, hf⟩ := oB_some hf
      obtain rfl := Option.some.inj hf
      exact clrV_ok hT hs (rt := ty) (tl := tl) hi (h.opd hx) (fun v w' hw => run_builtin a.eval .clear #[x] _ _ rfl (fun cs => by simp [builtin, hw]))
    · rename_i x y t1 tl
      obtain ⟨h0, hf⟩ := bI_some hf
      obtain ⟨x', hx, hf⟩ := oB_some hf
      obtain ⟨y', hy, hf⟩ := oB_some hf
      obtain rfl := Option.some.inj hf
      exact strU_ok hT hs (rt := ty) (tl := tl) h0 (h.opd hx) (h.opd hy) (fun v w' hw => run_builtin a.eval .unsafeString #[x, y] _ _ rfl (fun cs => by simp [builtin, hw]))
    · rename_i x y t1 tl
      obtain ⟨h0, hf⟩ := bI_some hf
      obtain ⟨x', hx, hf⟩ := oB_some hf
      obtain ⟨y', hy, hf⟩ := oB_some hf
      obtain rfl := Option.some.inj hf
      exact delV_ok hT hs (rt := ty) (tl := tl) h0 (h.opd hx) (h.opd hy) (fun v w' hw => run_builtin a.eval .delete #[x, y] _ _ rfl (fun cs => by simp [builtin, hw]))
    · exact nosome hf
end Go.Proofs.YtgpkpheejefiiaaGreatDoor
end
section
set_option linter.unusedVariables false
set_option linter.unusedSimpArgs false
namespace Go.Proofs.YtgpkpheejefiiaaGreatDoor
open Go.RowKit
variable {P : Program}
/-- What a call comes to. -/
def CallOK (P : Program) (r : Pl) (w : World) (f : Nat) (args' : List Value) (s : SV) (S' : Tr) (nx' : Nat) : Prop :=
    (∃ r' v w', r.le r' ∧ Sim r' S' nx' w' ∧ Emb r' s v ∧ Upd (feet r) w (feet r') w' ∧ (callFunc f args'.toArray).run P w = .ok (.value v) w') ∨
    ((callFunc f args'.toArray).run P w = .ok (.enter f args'.toArray) w ∧ Calls P f args'.toArray w fun e w' => ∃ r' v, e = .returned v ∧ r.le r' ∧ Sim r' S' nx' w' ∧ Emb r' s v ∧ Upd (feet r) w (feet r') w')
/-- A caller that is right. -/
def CBOK (P : Program) (cb : CB) : Prop := ∀ f args S nx s S' nx', cb f args S nx = .val s S' nx' → ∀ r w args', Sim r S nx w → Glob r → EmbL r args args' → CallOK P r w f args' s S' nx'
abbrev Post := Exit → Go.Act → World → Prop
def At (n : Nat) (r : Pl) (w : World) (t : En) (S : Tr) (nx : Nat) (K : Go.Act → World → Prop) : Prop := ∀ r' w' a', r.le r' → Sim r' S nx w' → Env n r' t a' → Upd (feet r) w (feet r') w' → K a' w'
/-- What an outcome grants. -/
def Good (n : Nat) (r : Pl) (w : World) (Q : Post) : Out → Prop
  | .stuck _ => False
  | .norm t S nx => At n r w t S nx (Q .normal)
  | .exit i t S nx => At n r w t S nx (Q (.exit i))
  | .ret t S nx => At n r w t S nx (Q .ret)
theorem At.up {n : Nat} {r r' : Pl} {w w' : World} {t : En} {S : Tr} {nx : Nat} {K : Go.Act → World → Prop} (h : At n r w t S nx K) (hr : r.le r') (hu : Upd (feet r) w (feet r') w') : At n r' w' t S nx K :=
  fun r2 w2 a2 k1 k2 k3 k4 => h r2 w2 a2 (Pl.le_trans hr k1) k2 k3 (hu.trans k4)
theorem Good.up {n : Nat} {r r' : Pl} {w w' : World} {Q : Post} {x : Out} (h : Good n r w Q x) (hr : r.le r') (hu : Upd (feet r) w (feet r') w') : Good n r' w' Q x := by
  cases x with
  | stuck l => exact h
  | norm t S nx => exact At.up h hr hu
  | exit i t S nx => exact At.up h hr hu
  | ret t S nx => exact At.up h hr hu
theorem At.now {n : Nat} {r : Pl} {w : World} {t : En} {S : Tr} {nx : Nat} {K : Go.Act → World → Prop} (h : At n r w t S nx K) {a : Go.Act} (hs : Sim r S nx w) (he : Env n r t a) : K a w := h r w a (Pl.le_refl r) hs he (Upd.refl _ _)
/-- A piece of code is right. -/
def Snd (P : Program) (n : Nat) (k : KF) (W : Post → Go.Act → World → Prop) : Prop :=
  ∀ cb, CBOK P cb → ∀ t S nx r w a Q, Sim r S nx w → Env n r t a → Good n r w Q (k cb t S nx) → W Q a w
theorem evOf_p {T : Tab P} {n : Nat} {o : Op} {f : PF} (h : evOf T n o = .p f) : pOf T n o = some f := by
  unfold evOf at h
  repeat' split at h
  all_goals first | (cases h; done) | (cases h; assumption) | simp at h
theorem evOf_l {T : Tab P} {n : Nat} {o : Op} {f : LF} (h : evOf T n o = .l f) : lOf T n o = some f := by
  unfold evOf at h
  repeat' split at h
  all_goals first | (cases h; done) | (cases h; assumption) | simp at h
theorem evOf_m {T : Tab P} {n : Nat} {o : Op} {f : MF} (h : evOf T n o = .m f) : mOf T n o = some f := by
  unfold evOf at h
  repeat' split at h
  all_goals first | (cases h; done) | (cases h; assumption) | simp at h
theorem evOf_e {T : Tab P} {n : Nat} {o : Op} {f : EF} (h : evOf T n o = .e f) : eOf T n o = some f := by
  unfold evOf at h
  repeat' split at h
  all_goals first | (cases h; done) | (cases h; assumption) | simp at h
theorem dOK_ok {n : Nat} {d : Option Nat} (h : dOK n d = true) (hn : n ≤ 128) : ∀ k, d = some k → k < 128 := by
  intro k e
  subst e
  have : k < n := by
    have h : Nat.blt k n = true := h
    rw [blt_eq] at h
    simpa using h
  omega
theorem guardV_ok {r : Pl} {n : Nat} {t : En} {a : Go.Act} (he : Env n r t a) {d : Nat} (hd : d < n) {want b : Bool} (h : guardV want (getE (dig16 (Nat.div d 8)) (dig8 (Nat.mod d 8)) t) = some b) {all : Array Oper} {o : Oper} {j : Nat} (hg : o.guard = some (j, want)) (hj : (all[j]?).bind (·.dst) = some d) :
    Region.wanted o (yielded all a.tmps) = b := by
  have hv := he.emb d hd
  have hq : getI t d = getE (dig16 (Nat.div d 8)) (dig8 (Nat.mod d 8)) t := rfl
  rw [hq] at hv
  have hlt : d < a.tmps.size := by rw [he.size]; exact hd
  have h3 : a.tmps[d]? = some (a.tmps.getD d Go.undef) := by simp [Array.getD_eq_getD_getElem?, hlt]
  unfold Region.wanted
  rw [hg]
  simp only [yielded, hj, Option.bind_some, h3]
  generalize getE (dig16 (Nat.div d 8)) (dig8 (Nat.mod d 8)) t = s at hv h
  generalize a.tmps.getD d Go.undef = v at hv
  cases s <;> first | exact nosome h | skip
  case undef =>
    obtain rfl := Option.some.inj h
    cases hv
    simp [Go.undef]
  case bool c =>
    obtain rfl := Option.some.inj h
    cases hv
    cases c <;> cases want <;> rfl
theorem tmpOf_ok {all : Array Oper} {j d : Nat} (h : tmpOf all.toList j = some d) : (all[j]?).bind (·.dst) = some d := by
  unfold tmpOf at h
  rw [Array.getElem?_toList] at h
  split at h
  · rename_i o ho; rw [ho]; exact h
  · simp at h
variable {T : Tab P}
theorem doOp_ok (hT : TabOK T) {n : Nat} {cb : CB} (hcb : CBOK P cb) {o : Oper} {k : KF} {t : En} {S : Tr} {nx : Nat} {r : Pl} {w : World} {a : Go.Act} {Q : Post} (hd : dOK n o.dst = true) (hs : Sim r S nx w) (he : Env n r t a)
    (h : Good n r w Q ((doOp T n o k).go cb t S nx)) {K : Go.Act → World → Prop} (hK : ∀ t' S' nx' r' w' a', r.le r' → Sim r' S' nx' w' → Env n r' t' a' → Good n r' w' Q (k cb t' S' nx') → K a' w') : o.wp P a w K Q := by
  have hdk := dOK_ok hd he.le
  unfold doOp at h
  unfold Oper.wp
  cases hev : evOf T n o.op with
  | p f =>
    rw [hev] at h
    replace h : Good n r w Q (doP (o.dst.getD 0) (dstOf o.dst) f k cb t S nx) := h
    unfold doP at h
    cases hv : f t S with
    | none => rw [hv] at h; exact h.elim
    | some s =>
      rw [hv] at h
      obtain ⟨v, k1, k2⟩ := pOf_ok hT (evOf_p hev) hs he hv
      rw [k2]
      exact hK _ _ _ r w _ (Pl.le_refl r) hs (he.put o.dst hdk k1) h
  | l f =>
    rw [hev] at h
    replace h : Good n r w Q (doL (o.dst.getD 0) (dstOf o.dst) f k cb t S nx) := h
    unfold doL at h
    cases hv : f t S with
    | none => rw [hv] at h; exact h.elim
    | some q =>
      obtain ⟨s, g⟩ := q
      rw [hv] at h
      obtain ⟨so, h1, h2⟩ := lOf_ok hT (evOf_l hev) he hv
      obtain ⟨v, k1, k2⟩ := h2 w (hs.keep h1)
      rw [k2]
      exact hK _ _ _ r w _ (Pl.le_refl r) hs (he.put o.dst hdk k1) h
  | m f =>
    rw [hev] at h
    replace h : Good n r w Q (doM (o.dst.getD 0) (dstOf o.dst) f k cb t S nx) := h
    unfold doM at h
    cases hv : f t with
    | none => rw [hv] at h; exact h.elim
    | some q =>
      obtain ⟨so, sh⟩ := q
      rw [hv] at h
      obtain ⟨v, y, k1, k2, k3⟩ := mOf_ok hT (evOf_m hev) he hv
      rw [k1]
      obtain ⟨j1, j2⟩ := hs.new (c := 0) (k2 r (Pl.le_refl r))
      have hle := hs.le_new w.heap.size 0
      exact hK _ _ _ _ _ _ hle j1 ((he.up hle).put o.dst hdk (k3 _ nx _ hle (Pl.new_self _ _ _ _))) (h.up hle j2)
  | e f =>
    rw [hev] at h
    replace h : Good n r w Q (doE (o.dst.getD 0) (dstOf o.dst) f k cb t S nx) := h
    unfold doE at h
    have hok := eOf_ok hT (evOf_e hev) he hs
    cases hv : f t S nx with
    | stuck m => rw [hv] at h; exact h.elim
    | val s =>
      rw [hv] at h hok
      obtain ⟨v, k1, k2⟩ := hok
      rw [k2]
      exact hK _ _ _ r w _ (Pl.le_refl r) hs (he.put o.dst hdk k1) h
    | heap s S' nx' =>
      rw [hv] at h hok
      obtain ⟨r', v, w', h1, h2, h3, h4, h5⟩ := hok
      rcases h5 with h5 | ⟨rfl, h5⟩
      · rw [h5]; exact hK _ _ _ r' w' _ h1 h2 ((he.up h1).put o.dst hdk h3) (Good.up h h1 h4)
      · rw [h5]; exact hK _ _ _ r' w' _ h1 h2 ((he.up h1).put o.dst hdk h3) (Good.up h h1 h4)
    | call f' args =>
      rw [hv] at h hok
      obtain ⟨args', k1, k2⟩ := hok
      rw [k2]
      replace h : Good n r w Q (doCall f' (dstOf o.dst) k cb t (cb f' args S nx)) := h
      unfold doCall at h
      cases hc : cb f' args S nx with
      | stuck l => rw [hc] at h; exact h.elim
      | val s S' nx' =>
        rw [hc] at h
        rcases hcb _ _ _ _ _ _ _ hc r w args' hs he.glob k1 with ⟨r', v, w', h1, h2, h3, h4, h5⟩ | ⟨h5, h6⟩
        · rw [h5]; exact hK _ _ _ r' w' _ h1 h2 ((he.up h1).put o.dst hdk h3) (Good.up h h1 h4)
        · rw [h5]
          refine Calls.mono h6 ?_
          rintro e w' ⟨r', v, rfl, h1, h2, h3, h4⟩
          exact hK _ _ _ r' w' _ h1 h2 ((he.up h1).put o.dst hdk h3) (Good.up h h1 h4)
  | bad =>
    rw [hev] at h
    exact h.elim
theorem runOps_ok (hT : TabOK T) {n : Nat} {all : Array Oper} : ∀ (l : List Oper), Snd P n (runOps T n all.toList l).go (fun Q a w => wpList P all Q l a w)
  | [], cb, hcb, t, S, nx, r, w, a, Q, hs, he, h => At.now h hs he
  | o :: l, cb, hcb, t, S, nx, r, w, a, Q, hs, he, h => by
    have ih := runOps_ok hT (n := n) (all := all) l
    show wpList P all Q (o :: l) a w
    replace h : Good n r w Q ((stepB T n all.toList o (runOps T n all.toList l).go).go cb t S nx) := h
    unfold stepB at h
    rw [bI_eq] at h
    split at h
    case isFalse => exact h.elim
    rename_i hd
    unfold stepI at h
    unfold wpList
    have hdo : Good n r w Q ((doOp T n o (runOps T n all.toList l).go).go cb t S nx) → o.wp P a w (wpList P all Q l) Q := fun h =>
      doOp_ok hT hcb hd hs he h (fun t' S' nx' r' w' a' h1 h2 h3 h4 => ih cb hcb t' S' nx' r' w' a' Q h2 h3 h4)
    split at h
    · rename_i hg
      rw [if_pos (by unfold Region.wanted; rw [hg])]
      exact .inl (hdo h)
    · rename_i j want hg
      split at h
      · rename_i d hj
        rw [bI_eq] at h
        split at h
        case isFalse => exact h.elim
        rename_i hdn
        rw [blt_eq] at hdn
        have hdn : d < n := by simpa using hdn
        replace h : Good n r w Q (guarded (dig16 (Nat.div d 8)) (dig8 (Nat.mod d 8)) want (doOp T n o (runOps T n all.toList l).go).go (skipOp (dstOf o.dst) (runOps T n all.toList l).go) cb t S nx) := h
        unfold guarded at h
        cases hv : guardV want (getE (dig16 (Nat.div d 8)) (dig8 (Nat.mod d 8)) t) with
        | none => rw [hv] at h; exact h.elim
        | some b =>
          rw [hv] at h
          have hw := guardV_ok he hdn hv hg (tmpOf_ok hj)
          cases b with
          | true => rw [if_pos hw]; exact .inl (hdo h)
          | false =>
            rw [if_neg (by rw [hw]; simp)]
            exact ih cb hcb _ S nx r w _ Q hs (he.put o.dst (dOK_ok hd he.le) .undef) h
      · exact h.elim
end Go.Proofs.YtgpkpheejefiiaaGreatDoor
end
section
set_option linter.unusedVariables false
set_option linter.unusedSimpArgs false
namespace Go.Proofs.YtgpkpheejefiiaaGreatDoor
open Go.RowKit
variable {P : Program}
/-- The drawn regions of a piece of code are right. -/
def AnyOK (T : Tab P) (n : Nat) (pl : Nat → Option (List PI)) : Code → Prop
  | .region id ops true => Snd P n (runAny T n (pl id) ops.toList).go (fun Q a w => (Code.region id ops true).wp P Q a w)
  | .seq a b => AnyOK T n pl a ∧ AnyOK T n pl b
  | .cond _ a b => AnyOK T n pl a ∧ AnyOK T n pl b
  | .block _ a => AnyOK T n pl a
  | .loop a => AnyOK T n pl a
  | _ => True
theorem go_mk (f : KF) : (Bx.mk f).go = f := rfl
theorem loopN_ok {n : Nat} {b : Bx} {x : Code} (ih : Snd P n b.go (fun Q a w => x.wp P Q a w)) (cb : CB) (hcb : CBOK P cb) : ∀ (m : Nat) t S nx r w a Q, Sim r S nx w → Env n r t a → Good n r w Q (loopN b m cb t S nx) → Code.rounds P x Q m a w
  | 0, t, S, nx, r, w, a, Q, hs, he, h => h.elim
  | m + 1, t, S, nx, r, w, a, Q, hs, he, h => by
    rw [rounds_succ]
    replace h : Good n r w Q (Out.rec (motive := fun _ => Out) .stuck (fun t S nx => loopN b m cb t S nx) .exit .ret (b.go cb t S nx)) := h
    refine ih cb hcb t S nx r w a _ hs he ?_
    cases ho : b.go cb t S nx with
    | stuck l => rw [ho] at h; exact h.elim
    | norm t' S' nx' =>
      rw [ho] at h
      intro r' w' a' k1 k2 k3 k4
      exact loopN_ok ih cb hcb m t' S' nx' r' w' a' Q k2 k3 (Good.up h k1 k4)
    | exit i t' S' nx' => rw [ho] at h; exact h
    | ret t' S' nx' => rw [ho] at h; exact h
variable {T : Tab P}
theorem den_ok (hT : TabOK T) {n : Nat} {pl : Nat → Option (List PI)} : ∀ (c : Code), AnyOK T n pl c → Snd P n (den T n pl c).go (fun Q a w => c.wp P Q a w) := by
  intro c
  induction c with
  | skip => intro _ cb hcb t S nx r w a Q hs he h; exact wp_skip (At.now h hs he)
  | region id ops draw =>
    intro hc cb hcb t S nx r w a Q hs he h
    cases draw with
    | true => exact hc cb hcb t S nx r w a Q hs he h
    | false => exact wp_region_list (runOps_ok hT ops.toList cb hcb t S nx r w a Q hs he h)
  | seq x y ihx ihy =>
    intro hc cb hcb t S nx r w a Q hs he h
    replace h : Good n r w Q (kSeq (den T n pl x) (den T n pl y) cb t S nx) := h
    refine wp_seq (ihx hc.1 cb hcb t S nx r w a _ hs he ?_)
    unfold kSeq at h
    cases ho : (den T n pl x).go cb t S nx with
    | stuck l => rw [ho] at h; exact h.elim
    | norm t' S' nx' =>
      rw [ho] at h
      intro r' w' a' k1 k2 k3 k4
      exact ihy hc.2 cb hcb t' S' nx' r' w' a' Q k2 k3 (Good.up h k1 k4)
    | exit i t' S' nx' => rw [ho] at h; exact h
    | ret t' S' nx' => rw [ho] at h; exact h
  | cond x y z ihy ihz =>
    intro hc cb hcb t S nx r w a Q hs he h
    replace h : Good n r w Q ((Option.rec (motive := fun _ => Bx) (.mk fun _ _ _ _ => .stuck [8000001]) (fun x => .mk (kCond x (den T n pl y) (den T n pl z))) (opX n x)).go cb t S nx) := h
    cases hx : opX n x with
    | none => rw [hx] at h; exact h.elim
    | some x' =>
      rw [hx] at h
      replace h : Good n r w Q (kCond x' (den T n pl y) (den T n pl z) cb t S nx) := h
      have hv := he.opd hx
      unfold kCond at h
      generalize getX x' t = s at h hv
      generalize hq : a.eval x = q at hv
      cases s <;> first | exact h.elim | skip
      rename_i c
      cases hv
      cases c with
      | true => exact wp_cond_true hq (ihy hc.1 cb hcb t S nx r w a Q hs he h)
      | false => exact wp_cond_false hq (ihz hc.2 cb hcb t S nx r w a Q hs he h)
  | block i x ih =>
    intro hc cb hcb t S nx r w a Q hs he h
    replace h : Good n r w Q (kBlock i (den T n pl x) cb t S nx) := h
    refine wp_block (ih hc cb hcb t S nx r w a _ hs he ?_)
    unfold kBlock at h
    cases ho : (den T n pl x).go cb t S nx with
    | stuck l => rw [ho] at h; exact h.elim
    | norm t' S' nx' => rw [ho] at h; exact h
    | ret t' S' nx' => rw [ho] at h; exact h
    | exit j t' S' nx' =>
      rw [ho] at h
      replace h : Good n r w Q (bI (Nat.beq j i) (.norm t' S' nx') (.exit j t' S' nx')) := h
      rw [bI_eq] at h
      intro r' w' a' k1 k2 k3 k4
      show (if j = i then Q .normal a' w' else Q (.exit j) a' w')
      split at h
      · rename_i hj
        rw [if_pos (Nat.eq_of_beq_eq_true hj)]
        exact h r' w' a' k1 k2 k3 k4
      · rename_i hj
        rw [if_neg (fun e => hj (by rw [e]; simp))]
        exact h r' w' a' k1 k2 k3 k4
  | loop x ih =>
    intro hc cb hcb t S nx r w a Q hs he h
    have e : den T n pl (.loop x) = .mk (loopN (den T n pl x) 100000) := rfl
    rw [e, go_mk] at h
    exact wp_loop_rounds 100000 (loopN_ok (ih hc) cb hcb 100000 t S nx r w a Q hs he h)
  | exit i => intro _ cb hcb t S nx r w a Q hs he h; exact wp_exit (At.now h hs he)
  | ret => intro _ cb hcb t S nx r w a Q hs he h; exact wp_ret (At.now h hs he)
  | _ => intro _ cb hcb t S nx r w a Q hs he h; exact False.elim h
end Go.Proofs.YtgpkpheejefiiaaGreatDoor
end
section
set_option linter.unusedVariables false
set_option linter.unusedSimpArgs false
namespace Go.Proofs.YtgpkpheejefiiaaGreatDoor
open Go.RowKit
variable {P : Program}
def resVar (tmps : Array Value) : ResultVar → Sem Value
  | .tmp t => pure (tmps.getD t Go.undef)
  | .cell a t => do loadVar t (← asAddr (tmps.getD a Go.undef))
theorem results_eq (fn : Func) (tmps : Array Value) : results fn tmps = (fn.results.mapM (resVar tmps) >>= fun vs => pure (if h : vs.size = 1 then vs[0] else .tuple vs)) := rfl
theorem noB_get (q : D8) : sel8 q noB = .undef := by cases q <;> rfl
theorem blk_get (l : List SV) {k : Nat} (hk : k < 8) : sel8 (dig8 k) (blk l) = nthS l k := by
  rcases lt8 hk with rfl | rfl | rfl | rfl | rfl | rfl | rfl | rfl <;> rfl
theorem getI_pad (l : List SV) (hl : l.length ≤ 16) {i : Nat} (hi : i < 128) : getI (padS l) i = (l[i]?).getD .undef := by
  unfold getI getE
  have h16 : i / 8 < 16 := by omega
  rcases lt16 h16 with e | e | e | e | e | e | e | e | e | e | e | e | e | e | e | e
  · rw [e]
    have : sel16 (dig16 0) (padS l) = blk l := rfl
    rw [this, blk_get _ (by omega), nthS_eq]
    congr 2
    omega
  · rw [e]
    have : sel16 (dig16 1) (padS l) = blk (dropS l 8) := rfl
    rw [this, blk_get _ (by omega), nthS_eq, dropS_eq, List.getElem?_drop]
    congr 2
    omega
  all_goals
    rw [e, List.getElem?_eq_none (by omega)]
    exact noB_get _
variable {T : Tab P}
theorem resOne_ok (hT : TabOK T) {n : Nat} {x : ResultVar} {f : En → Tr → Option SV} (hf : resOne T n x = some f) {r : Pl} {S : Tr} {nx : Nat} {w : World} {t : En} {a : Go.Act} (hs : Sim r S nx w) (h : Env n r t a) {s : SV} (e : f t S = some s) :
    ∃ v, Emb r s v ∧ (resVar a.tmps x).run P w = .ok v w := by
  cases x with
  | tmp i =>
    obtain ⟨y, hy, hf⟩ := oB_some hf
    obtain rfl := Option.some.inj hf
    obtain rfl := Option.some.inj e
    exact ⟨_, h.opd hy, rfl⟩
  | cell i ty =>
    obtain ⟨y, hy, hf⟩ := oB_some hf
    obtain ⟨g, hg, hf⟩ := oB_some hf
    obtain rfl := Option.some.inj hf
    obtain ⟨⟨s', o⟩, h1, e⟩ := oB_some e
    obtain rfl := Option.some.inj e
    have hx := h.opd hy
    obtain ⟨so, k1, k2⟩ := loadF_ok hT hg hx h1
    obtain ⟨v, j1, j2⟩ := k2 w (hs.keep k1)
    refine ⟨v, j1, ?_⟩
    have hq : a.eval (.tmp i) = a.tmps.getD i Go.undef := rfl
    rw [hq] at j2
    cases hv : a.tmps.getD i Go.undef <;> rw [hv] at j2 <;> first | (simp [Instr.loadAt, Instr.sureAddr] at j2; done) | skip
    rename_i p
    cases p with
    | none => simp [Instr.loadAt, Instr.sureAddr] at j2
    | some p =>
      simp only [Instr.loadAt, Instr.sureAddr, Sem.run_bind, Sem.run_pure, Result.andThen_ok] at j2
      simp [resVar, hv, asAddr, j2]
theorem resL_cons {n : Nat} {x : ResultVar} {l : List ResultVar} {F : En → Tr → Option (List SV)} (hf : resL T n (x :: l) = some F) {t : En} {S : Tr} {L : List SV} (e : F t S = some L) :
    ∃ f g s m, resOne T n x = some f ∧ resL T n l = some g ∧ f t S = some s ∧ g t S = some m ∧ L = s :: m := by
  obtain ⟨f, h1, hf⟩ := oB_some hf
  obtain ⟨g, h2, hf⟩ := oB_some hf
  obtain rfl := Option.some.inj hf
  obtain ⟨s, h3, e⟩ := oB_some e
  obtain ⟨m, h4, e⟩ := oB_some e
  obtain rfl := Option.some.inj e
  exact ⟨f, g, s, m, h1, h2, h3, h4, rfl⟩
theorem resL_nil {n : Nat} {F : En → Tr → Option (List SV)} (hf : resL T n [] = some F) {t : En} {S : Tr} {L : List SV} (e : F t S = some L) : L = [] := by
  obtain rfl := Option.some.inj hf
  obtain rfl := Option.some.inj e
  rfl
theorem resV_ok (hT : TabOK T) {n : Nat} {fn : Func} {F : En → Tr → Option (List SV)} (hf : resL T n fn.results.toList = some F) (hn : fn.results.toList.length ≤ 4) {r : Pl} {S : Tr} {nx : Nat} {w : World} {t : En} {a : Go.Act} (hs : Sim r S nx w) (h : Env n r t a) {L : List SV} (e : F t S = some L) :
    ∃ v, Emb r (resV L) v ∧ (results fn a.tmps).run P w = .ok v w := by
  rw [results_eq]
  obtain ⟨l, hl⟩ : ∃ l, l = fn.results.toList := ⟨_, rfl⟩
  have hA : fn.results = l.toArray := by rw [hl]
  rw [← hl] at hf hn
  rw [hA]
  match l, hn with
  | [], _ =>
    obtain rfl := resL_nil hf e
    exact ⟨_, .undef, by simp [Go.undef]⟩
  | [x], _ =>
    obtain ⟨f1, g1, s1, m1, a1, b1, c1, d1, rfl⟩ := resL_cons hf e
    obtain rfl := resL_nil b1 d1
    obtain ⟨v1, j1, k1⟩ := resOne_ok hT a1 hs h c1
    exact ⟨v1, j1, by simp [k1]⟩
  | [x, y], _ =>
    obtain ⟨f1, g1, s1, m1, a1, b1, c1, d1, rfl⟩ := resL_cons hf e
    obtain ⟨f2, g2, s2, m2, a2, b2, c2, d2, rfl⟩ := resL_cons b1 d1
    obtain rfl := resL_nil b2 d2
    obtain ⟨v1, j1, k1⟩ := resOne_ok hT a1 hs h c1
    obtain ⟨v2, j2, k2⟩ := resOne_ok hT a2 hs h c2
    exact ⟨_, .tup _ [v1, v2] (.cons _ _ _ _ j1 (.cons _ _ _ _ j2 .nil)), by simp [k1, k2]⟩
  | [x, y, z], _ =>
    obtain ⟨f1, g1, s1, m1, a1, b1, c1, d1, rfl⟩ := resL_cons hf e
    obtain ⟨f2, g2, s2, m2, a2, b2, c2, d2, rfl⟩ := resL_cons b1 d1
    obtain ⟨f3, g3, s3, m3, a3, b3, c3, d3, rfl⟩ := resL_cons b2 d2
    obtain rfl := resL_nil b3 d3
    obtain ⟨v1, j1, k1⟩ := resOne_ok hT a1 hs h c1
    obtain ⟨v2, j2, k2⟩ := resOne_ok hT a2 hs h c2
    obtain ⟨v3, j3, k3⟩ := resOne_ok hT a3 hs h c3
    exact ⟨_, .tup _ [v1, v2, v3] (.cons _ _ _ _ j1 (.cons _ _ _ _ j2 (.cons _ _ _ _ j3 .nil))), by simp [k1, k2, k3]⟩
  | [x, y, z, z'], _ =>
    obtain ⟨f1, g1, s1, m1, a1, b1, c1, d1, rfl⟩ := resL_cons hf e
    obtain ⟨f2, g2, s2, m2, a2, b2, c2, d2, rfl⟩ := resL_cons b1 d1
    obtain ⟨f3, g3, s3, m3, a3, b3, c3, d3, rfl⟩ := resL_cons b2 d2
    obtain ⟨f4, g4, s4, m4, a4, b4, c4, d4, rfl⟩ := resL_cons b3 d3
    obtain rfl := resL_nil b4 d4
    obtain ⟨v1, j1, k1⟩ := resOne_ok hT a1 hs h c1
    obtain ⟨v2, j2, k2⟩ := resOne_ok hT a2 hs h c2
    obtain ⟨v3, j3, k3⟩ := resOne_ok hT a3 hs h c3
    obtain ⟨v4, j4, k4⟩ := resOne_ok hT a4 hs h c4
    exact ⟨_, .tup _ [v1, v2, v3, v4] (.cons _ _ _ _ j1 (.cons _ _ _ _ j2 (.cons _ _ _ _ j3 (.cons _ _ _ _ j4 .nil)))), by simp [k1, k2, k3, k4]⟩
/-- A function's code, run. -/
theorem fnV_ok (hT : TabOK T) {pl : Nat → Option (List PI)} {f : Nat} {fn : Func} (hf : P.funcs[f]? = some fn) (hnm : fn.name ≠ "runtime.NumGoroutine") (hpl : ∀ c, fn.body = some c → AnyOK T fn.ntmps pl c) {cb : CB} (hcb : CBOK P cb) {args : List SV} {S : Tr} {nx : Nat} {s : SV} {S' : Tr} {nx' : Nat}
    (e : (fnV T pl (some fn)).go cb args S nx = .val s S' nx') {r : Pl} {w : World} {args' : List Value} (hs : Sim r S nx w) (hg : Glob r) (ha : EmbL r args args') : CallOK P r w f args' s S' nx' := by
  unfold fnV at e
  simp only at e
  split at e
  · rename_i c F hb hF
    rw [bI_eq] at e
    split at e
    case isFalse => exact absurd e (by simp [Fx.go])
    rename_i hc
    obtain ⟨c1, c2⟩ := aB_true hc
    have c1 : fn.results.toList.length ≤ 4 := Nat.le_of_ble_eq_true c1
    have c2 : fn.ntmps ≤ 128 := Nat.le_of_ble_eq_true c2
    replace e : fnRun (Nat.succ (minN 16 fn.ntmps)) F (den T fn.ntmps pl c) cb args S nx = .val s S' nx' := e
    unfold fnRun at e
    rw [bI_eq] at e
    split at e
    case isTrue => simp at e
    rename_i hl
    rw [longS_eq] at hl
    have hmin : minN 16 fn.ntmps = min 16 fn.ntmps := min_bI _ _
    have hl : ¬ (min 16 fn.ntmps + 1 ≤ args.length) := by
      intro hh
      refine hl (decide_eq_true ?_)
      rw [hmin]
      exact hh
    have hal := ha.len
    refine .inr ⟨by simp [callFunc, hf, hnm, hb], ?_⟩
    refine calls_of_wp hf hb ?_
    have henv : Env fn.ntmps r (padS args) { tmps := args'.toArray ++ Array.replicate (fn.ntmps - args'.toArray.size) undef, defers := [] } := by
      refine ⟨by simp; omega, c2, rfl, hg, fun i hi => ?_⟩
      rw [getI_pad args (by omega) (by omega)]
      simp only [Array.getD_eq_getD_getElem?]
      by_cases hi2 : i < args.length
      · obtain ⟨v, h1, h2⟩ := ha.get (List.getElem?_eq_getElem hi2)
        have h3 : (args'.toArray ++ Array.replicate (fn.ntmps - args'.toArray.size) undef)[i]? = some v := by
          rw [Array.getElem?_append, if_pos (by simp; omega)]
          simpa using h1
        rw [h3, List.getElem?_eq_getElem hi2]
        exact h2
      · have h3 : (args'.toArray ++ Array.replicate (fn.ntmps - args'.toArray.size) undef)[i]? = some undef := by
          rw [Array.getElem?_append, if_neg (by simp; omega)]
          rw [Array.getElem?_replicate, if_pos (by simp; omega)]
        rw [h3, List.getElem?_eq_none (by omega)]
        exact .undef
    unfold outV at e
    refine den_ok hT c (hpl c hb) cb hcb (padS args) S nx r w _ _ hs henv ?_
    have fin : ∀ t1 S1 nx1, finish F t1 S1 nx1 = .val s S' nx' → At fn.ntmps r w t1 S1 nx1 (fun a w' => a.defers = [] ∧ ∃ v, (results fn a.tmps).run P w' = .ok v w' ∧ ∃ r' v', Ending.returned v = .returned v' ∧ r.le r' ∧ Sim r' S' nx' w' ∧ Emb r' s v' ∧ Upd (feet r) w (feet r') w') := by
      intro t1 S1 nx1 e r' w' a' k1 k2 k3 k4
      unfold finish at e
      cases hv : F t1 S1 with
      | none => rw [hv] at e; simp at e
      | some L =>
        rw [hv] at e
        simp at e
        obtain ⟨rfl, rfl, rfl⟩ := e
        obtain ⟨v, j1, j2⟩ := resV_ok hT hF c1 k2 k3 hv
        exact ⟨k3.defers, v, j2, r', v, rfl, k1, k2, j1, k4⟩
    cases ho : (den T fn.ntmps pl c).go cb (padS args) S nx with
    | stuck l => rw [ho] at e; simp at e
    | norm t1 S1 nx1 => rw [ho] at e; exact fin _ _ _ e
    | ret t1 S1 nx1 => rw [ho] at e; exact fin _ _ _ e
    | exit i t1 S1 nx1 => rw [ho] at e; simp at e
  · exact absurd e (by simp [Fx.go])
/-- What must be shown of a program's tables. -/
structure FnsOK (F : Fns P) : Prop where
  tab : TabOK F.toTab
  fn : ∀ f g, F.fn f = some g → P.funcs[f]? = some g ∧ g.name ≠ "runtime.NumGoroutine"
  any : ∀ f g c, F.fn f = some g → g.body = some c → AnyOK F.toTab g.ntmps (F.plan f) c
  known : ∀ f k, F.known f = some k → ∀ cb, CBOK P cb → ∀ args S nx s S' nx', k cb args S nx = .val s S' nx' → ∀ r w args', Sim r S nx w → Glob r → EmbL r args args' → CallOK P r w f args' s S' nx'
theorem callF_ok {F : Fns P} (hF : FnsOK F) {cb : CB} (hcb : CBOK P cb) : CBOK P (callF F cb) := by
  intro f args S nx s S' nx' e r w args' hs hg ha
  unfold callF at e
  cases hk : F.known f with
  | some k => rw [hk] at e; exact hF.known f k hk cb hcb args S nx s S' nx' e r w args' hs hg ha
  | none =>
    rw [hk] at e
    cases hf : F.fn f with
    | none =>
      rw [hf] at e
      simp [fnV, Fx.go] at e
    | some g =>
      rw [hf] at e
      obtain ⟨h1, h2⟩ := hF.fn f g hf
      exact fnV_ok hF.tab h1 h2 (fun c hc => hF.any f g c hf hc) hcb e hs hg ha
/-- THE EVALUATOR IS RIGHT. -/
theorem run_ok {F : Fns P} (hF : FnsOK F) : ∀ k, CBOK P (run F k)
  | 0 => fun f args S nx s S' nx' e => by simp [run] at e
  | k + 1 => callF_ok hF (run_ok hF k)
end Go.Proofs.YtgpkpheejefiiaaGreatDoor
end
