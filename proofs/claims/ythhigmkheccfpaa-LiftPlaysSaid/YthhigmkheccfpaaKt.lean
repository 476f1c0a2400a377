/- What stays, but for a block and rows of ours of one type. -/
import Derived.Test.YthhigmkheccfpaaORow
set_option linter.unusedVariables false
set_option linter.unusedSimpArgs false
namespace Go.Proofs.Ythhigmkheccfpaa
open Go.RowKit
structure Kt (E : TypeId) (base g : Nat) (w w' : World) : Prop where
  os : w'.os = w.os
  tape : w'.tape = w.tape
  output : w'.output = w.output
  size : w.heap.size ≤ w'.heap.size
  blk : ∀ k, k < w.heap.size → k ≠ g → (k < base ∨ ∀ cs, w.heap[k]? ≠ some (.cells cs E (0, 0))) → w'.heap[k]? = w.heap[k]?
theorem Kt.of_bel {E : TypeId} {base g : Nat} {w w' : World} (h : Bel w w') : Kt E base g w w' := ⟨h.os, h.tape, h.output, h.size, fun k hk _ _ => h.block k hk⟩
theorem Kt.refl (E : TypeId) (base g : Nat) (w : World) : Kt E base g w w := Kt.of_bel (Bel.refl w)
theorem Kt.trans {E : TypeId} {base g : Nat} {a b c : World} (h : Kt E base g a b) (k : Kt E base g b c) : Kt E base g a c :=
  ⟨k.os.trans h.os, k.tape.trans h.tape, k.output.trans h.output, Nat.le_trans h.size k.size, fun i hi hne hq => by
    have e := h.blk i hi hne hq
    rw [← e]
    exact k.blk i (Nat.lt_of_lt_of_le hi h.size) hne (by rw [e]; exact hq)⟩
theorem Kt.of_grown {α : Type} {K : Enc α} {base g : Nat} {w w' : World} {v : Value} {l : List α} (h : w.grownBy w' v.ownBlock) (hr : K.Row w base v l) : Kt K.E base g w w' :=
  ⟨h.os, h.tape, h.output, h.size, fun k hk _ hq => h.block k hk (fun e => by
    obtain ⟨h1, cs, h2⟩ := hr.blk e.symm
    rcases hq with hq | hq
    · omega
    · exact hq cs h2)⟩
theorem Kt.of_set {E : TypeId} {base g : Nat} {w : World} (p : Addr) (hp : p.block = g) (u : Value) : Kt E base g w (w.setCell p u) :=
  ⟨rfl, rfl, rfl, (((Below.refl 0 w).setCell (p := p) (Nat.zero_le _) u).size), fun k hk hne _ => Below.heap_setCell w p u k (by rw [hp]; exact hne)⟩
/-- A cell of a block that is new. -/
theorem Kt.set_new {E : TypeId} {base g : Nat} {w w1 : World} (h : Kt E base g w w1) (p : Addr) (hp : w.heap.size ≤ p.block) (u : Value) : Kt E base g w (w1.setCell p u) :=
  ⟨h.os, h.tape, h.output, Nat.le_trans h.size (((Below.refl 0 w1).setCell (p := p) (Nat.zero_le _) u).size), fun k hk hne hq => (Below.heap_setCell w1 p u k (by omega)).trans (h.blk k hk hne hq)⟩
theorem Kt.below' {E : TypeId} {g : Nat} {w w1 w2 : World} (hb : Bel w w1) (h : Kt E w.heap.size g w1 w2) (hg : w.heap.size ≤ g) : Bel w w2 :=
  ⟨h.os.trans hb.os, h.tape.trans hb.tape, h.output.trans hb.output, Nat.le_trans hb.size h.size, fun k hk => (h.blk k (Nat.lt_of_lt_of_le hk hb.size) (by omega) (.inl hk)).trans (hb.block k hk)⟩
theorem Kt.keep {E : TypeId} {base g : Nat} {w w' : World} (h : Kt E base g w w') {k : Nat} {cs : Array Value} {t : TypeId} (hk : w.heap[k]? = some (.cells cs t (0, 0))) (hne : k ≠ g) (ht : t ≠ E) : w'.heap[k]? = some (.cells cs t (0, 0)) := by
  rw [h.blk k (blk_lt hk) hne (.inr fun cs' e => ?_)]
  · exact hk
  · rw [hk] at e
    simp at e
    exact ht e.2
theorem owns_blk {w w' : World} {base : Nat} {E : TypeId} {m : Nat} {v : Value} {n : Nat} {cs : List Value} (h : w.ownsRow base E m v n cs) (hb : ∀ k, v.ownBlock = some k → w'.heap[k]? = w.heap[k]?) : w'.ownsRow base E m v n cs := by
  obtain ⟨hl, ⟨rfl, h0⟩ | ⟨g, cap, cur, rfl, hbb, hg, r⟩⟩ := h
  · exact ⟨hl, .inl ⟨rfl, h0⟩⟩
  · exact ⟨hl, .inr ⟨g, cap, cur, rfl, hbb, (hb g (by simp [Value.ownBlock])).trans hg, r⟩⟩
/-- A row of another type stays. -/
theorem Enc.Row.kt {α : Type} {K : Enc α} {E : TypeId} {base b g : Nat} {w w' : World} {v : Value} {l : List α} (h : K.Row w b v l) (k : Kt E base g w w') (hne : v.ownBlock ≠ some g) (ht : K.E ≠ E) : K.Row w' b v l :=
  owns_blk h (fun i hi => by
    obtain ⟨_, cs, h2⟩ := h.blk hi
    exact (k.keep h2 (fun e => hne (by rw [hi, e])) ht).trans h2.symm)
theorem Enc.Row.ne_blk {α : Type} {K : Enc α} {b g : Nat} {w : World} {v : Value} {l : List α} (h : K.Row w b v l) {cs : Array Value} {t : TypeId} (hg : w.heap[g]? = some (.cells cs t (0, 0))) (ht : K.E ≠ t) : v.ownBlock ≠ some g := fun e => by
  obtain ⟨_, cs', h2⟩ := h.blk e
  rw [hg] at h2
  simp at h2
  exact ht h2.2.symm
theorem Enc.Row.ne_map {α : Type} {K : Enc α} {b g : Nat} {w : World} {v : Value} {l : List α} (h : K.Row w b v l) {es : _} {clock : _} (hg : w.heap[g]? = some (.map es clock)) : v.ownBlock ≠ some g := fun e => by
  obtain ⟨_, cs', h2⟩ := h.blk e
  rw [hg] at h2
  simp at h2
/-- A cell of a block that isn't the row's is set. -/
theorem Enc.Row.set_off {α : Type} {K : Enc α} {b : Nat} {w : World} {v : Value} {l : List α} (h : K.Row w b v l) (p : Addr) (hp : v.ownBlock ≠ some p.block) (u : Value) : K.Row (w.setCell p u) b v l :=
  owns_blk h (fun i hi => Below.heap_setCell w p u i (fun e => hp (by rw [hi, e])))
theorem Enc.Row.lower {α : Type} {K : Enc α} {w : World} {b c : Nat} {v : Value} {l : List α} (h : K.Row w b v l) (hc : c ≤ b) : K.Row w c v l := by
  obtain ⟨hl, h1 | ⟨g, cap, cur, e, hb, r⟩⟩ := h
  · exact ⟨hl, .inl h1⟩
  · exact ⟨hl, .inr ⟨g, cap, cur, e, Nat.le_trans hc hb, r⟩⟩
theorem setc_blk {w : World} {g i : Nat} {cs : Array Value} {t : TypeId} (h : w.heap[g]? = some (.cells cs t (0, 0))) (u : Value) : (w.setCell ⟨g, i, none⟩ u).heap[g]? = some (.cells (cs.setIfInBounds i u) t (0, 0)) := by
  rw [setCell_eq_setRow w g i _ t (0, 0) u h]; exact setRow_heap w g _ _ t (0, 0) h
theorem setc_off {w : World} {g h i : Nat} {o : Obj} (hg : w.heap[g]? = some o) (hne : g ≠ h) (u : Value) : (w.setCell ⟨h, i, none⟩ u).heap[g]? = some o := (Below.heap_setCell w ⟨h, i, none⟩ u g hne).trans hg
/-- append(s, p) as a run, p in a new block of one element. -/
theorem Enc.Row.append_run {α : Type} {K : Enc α} {W : World} {base : Nat} {v : Value} {l : List α} (hown : K.Row W base v l) (p : α) (t ty : TypeId)
    (z : Value) (bytes : Nat) (ht : Try.prog.underlying t = some (.slice K.E)) (hi : (Try.prog.info? K.E).map (fun i => (i.zero, i.size, i.bytes)) = some (some z, K.m, bytes))
    (hzs : z.cells.size = K.m) (hby : bytes ≤ 64) (hlen : l.length ≤ 1000000) (hbase : base ≤ W.heap.size) :
    ∃ v' w', (Builtin.append_ #[t, t] ty #[v, .slice (some ⟨W.heap.size, 0, none⟩) 1 1]).run Try.prog (W.alloc (.cells (K.enc p).toArray K.E (0, 0))) = .ok v' w' ∧ K.Row w' base v' (l ++ [p]) ∧ W.grownBy w' v.ownBlock := by
  obtain ⟨i, hi1, hi2, hi3, hi4⟩ : ∃ i, Try.prog.info? K.E = some i ∧ i.zero = some z ∧ i.size = K.m ∧ i.bytes = bytes := by
    cases hh : Try.prog.info? K.E with
    | none => rw [hh] at hi; simp at hi
    | some i => rw [hh] at hi; simp at hi; exact ⟨i, rfl, hi.1, hi.2.1, hi.2.2⟩
  have hb : Bel W (W.alloc (.cells (K.enc p).toArray K.E (0, 0))) := Bel.alloc _ _
  have hcell := heap_alloc_new W (.cells (K.enc p).toArray K.E (0, 0))
  have hbb : (l.length + 1) * bytes ≤ 140737488355328 := by
    have : (l.length + 1) * bytes ≤ 1000001 * 64 := Nat.mul_le_mul (by omega) hby
    omega
  obtain ⟨v', w', h1, h2, h3, _⟩ := run_append_own (P := Try.prog) (W.alloc (.cells (K.enc p).toArray K.E (0, 0))) base t ty K.E i z K.m bytes ht hi1 hi2 hi3 hi4 hzs K.pos v l.length (K.flat l) (hown.bel hb) ⟨W.heap.size, 0, none⟩ 1 1 (K.enc p) (by rw [K.len]; omega) (fun j u hu => by
    rw [show (⟨W.heap.size, 0, none⟩ : Addr).add j = ⟨W.heap.size, j, none⟩ by rw [cells_add, Nat.zero_add], blk_cell hcell]; simpa using hu) (K.one p) (by have : maxLen = 9223372036854775807 := rfl; omega) hbb (by have := hb.size; omega)
  refine ⟨v', w', h1, ?_, ?_⟩
  · unfold Enc.Row
    rw [K.flat_append, List.length_append]
    simpa [Enc.flat] using h2
  · exact ⟨h3.os, h3.tape, h3.output, Nat.le_trans hb.size h3.size, fun k hk hne => (h3.block k (Nat.lt_of_lt_of_le hk hb.size) hne).trans (hb.block k hk)⟩
/-- append(s, p) as a run, and where the row stands then. -/
theorem Enc.Row.append_at {α : Type} {K : Enc α} {W : World} {base : Nat} {v : Value} {l : List α} (hown : K.Row W base v l) (p : α) (t ty : TypeId)
    (z : Value) (bytes : Nat) (ht : Try.prog.underlying t = some (.slice K.E)) (hi : (Try.prog.info? K.E).map (fun i => (i.zero, i.size, i.bytes)) = some (some z, K.m, bytes))
    (hzs : z.cells.size = K.m) (hby : bytes ≤ 64) (hlen : l.length ≤ 1000000) (hbase : base ≤ W.heap.size) :
    ∃ v' w', (Builtin.append_ #[t, t] ty #[v, .slice (some ⟨W.heap.size, 0, none⟩) 1 1]).run Try.prog (W.alloc (.cells (K.enc p).toArray K.E (0, 0))) = .ok v' w' ∧ K.Row w' base v' (l ++ [p]) ∧ W.grownBy w' v.ownBlock ∧
      (v'.ownBlock = v.ownBlock ∨ ∃ k, W.heap.size ≤ k ∧ v'.ownBlock = some k) := by
  obtain ⟨v', w', h1, h2, h3⟩ := hown.append_run p t ty z bytes ht hi hzs hby hlen hbase
  refine ⟨v', w', h1, h2, h3, ?_⟩
  obtain ⟨i, hi1, hi2, hi3, hi4⟩ : ∃ i, Try.prog.info? K.E = some i ∧ i.zero = some z ∧ i.size = K.m ∧ i.bytes = bytes := by
    cases hh : Try.prog.info? K.E with
    | none => rw [hh] at hi; simp at hi
    | some i => rw [hh] at hi; simp at hi; exact ⟨i, rfl, hi.1, hi.2.1, hi.2.2⟩
  have hcell := heap_alloc_new W (.cells (K.enc p).toArray K.E (0, 0))
  have hnews : ∀ j u, (K.enc p)[j]? = some u → (W.alloc (.cells (K.enc p).toArray K.E (0, 0))).cell? ((⟨W.heap.size, 0, none⟩ : Addr).add j) = some u := fun j u hu => by
    rw [show (⟨W.heap.size, 0, none⟩ : Addr).add j = ⟨W.heap.size, j, none⟩ by rw [cells_add, Nat.zero_add], blk_cell hcell]; simpa using hu
  have hl1 : (K.enc p).length = 1 * i.size := by rw [K.len, hi3]; omega
  have hbb : (l.length + 1) * i.bytes ≤ 140737488355328 := by
    rw [hi4]
    have : (l.length + 1) * bytes ≤ 1000001 * 64 := Nat.mul_le_mul (by omega) hby
    omega
  have hby1 : 1 * i.bytes ≤ 281474976710656 := by rw [hi4]; omega
  obtain ⟨hll, ⟨rfl, h0⟩ | ⟨g, cap, cur, rfl, hbg, hg, hnc, hcm, hcs, hx⟩⟩ := hown.bel (Bel.alloc W (.cells (K.enc p).toArray K.E (0, 0)))
  · have hr := run_append_nil (P := Try.prog) (W.alloc (.cells (K.enc p).toArray K.E (0, 0))) t ty K.E i z ht hi1 hi2 ⟨W.heap.size, 0, none⟩ 1 1 (K.enc p) hl1 hnews (by omega) (by omega) hby1
    rw [hr] at h1
    simp only [Result.ok.injEq] at h1
    rw [← h1.1]
    exact .inr ⟨(W.alloc (.cells (K.enc p).toArray K.E (0, 0))).heap.size, by simp, rfl⟩
  · by_cases hroom : l.length + 1 ≤ cap
    · have hr := run_append_room (P := Try.prog) (W.alloc (.cells (K.enc p).toArray K.E (0, 0))) t ty K.E i ht hi1 g l.length cap cur hg ⟨W.heap.size, 0, none⟩ 1 1 (K.enc p) hl1 hnews (K.one p) hroom (by rw [hi3, K.len, hcs, ← Nat.succ_mul]; exact Nat.mul_le_mul_right _ hroom)
      rw [hr] at h1
      simp only [Result.ok.injEq] at h1
      rw [← h1.1]
      exact .inl (by simp [Value.ownBlock])
    · have holds : ∀ j u, (K.flat l)[j]? = some u → (W.alloc (.cells (K.enc p).toArray K.E (0, 0))).cell? ((⟨g, 0, none⟩ : Addr).add j) = some u := (hown.bel (Bel.alloc W (.cells (K.enc p).toArray K.E (0, 0)))).cells (g := g) rfl
      have hr := run_append_grow (P := Try.prog) (W.alloc (.cells (K.enc p).toArray K.E (0, 0))) t ty K.E i z ht hi1 hi2 ⟨g, 0, none⟩ l.length cap (K.flat l) (by rw [K.flat_len, hi3]) holds ⟨W.heap.size, 0, none⟩ 1 1 (K.enc p) hl1 hnews (by omega) (by omega) (growslice_fits (by omega) hbb)
      rw [hr] at h1
      simp only [Result.ok.injEq] at h1
      rw [← h1.1]
      exact .inr ⟨(W.alloc (.cells (K.enc p).toArray K.E (0, 0))).heap.size, by simp, rfl⟩
theorem append_exec {P : Program} {oi : Oper} {a : Go.Act} {w w' : World} {v' v x : Value} (s y : Operand) (t : TypeId) (ho : oi.op = .call { callee := .builtin .append, args := #[s, y], argTypes := #[t, t] })
    (hs : a.eval s = v) (hy : a.eval y = x) (hr : (Builtin.append_ #[t, t] oi.type #[v, x]).run P w = .ok v' w') : (execOp a.eval oi).run P w = .ok (.value v') w' := by
  unfold execOp
  simp only [ho, resolve, invoke, builtin, Sem.run_bind, Sem.run_pure, Result.andThen_ok, List.map_toArray, List.map_cons, List.map_nil, hs, hy, hr]
theorem wpList_append_run {P : Program} {w w' : World} {v' v u : Value} {ops : Array Oper} {rest : List Oper} {o : Oper} {a : Go.Act} {Q : Exit → Go.Act → World → Prop} (hgd : o.guard = none) (s x : Operand) (t : TypeId)
    (ho : o.op = .call { callee := .builtin .append, args := #[s, x], argTypes := #[t, t] }) (hs : a.eval s = v) (hx : a.eval x = u)
    (hr : (Builtin.append_ #[t, t] o.type #[v, u]).run P w = .ok v' w') (h : wpList P ops Q rest (a.put o.dst v') w') : wpList P ops Q (o :: rest) a w := by
  refine wpList_plain hgd fun K hK => ?_
  unfold Oper.wp execOp
  simp only [ho, resolve, invoke, builtin, Sem.run_bind, Sem.run_pure, Result.andThen_ok, List.map_toArray, List.map_cons, List.map_nil, hs, hx, hr]
  exact hK _ _ h
/-- append(s, p), p in a new block of one element; where the row stands then. -/
theorem Enc.Row.append2 {α : Type} {K : Enc α} {ops : Array Oper} {rest : List Oper} {o : Oper} {a : Go.Act} {Q : Exit → Go.Act → World → Prop} {W : World} {base : Nat} {v : Value} {l : List α} (hown : K.Row W base v l) (p : α) (hgd : o.guard = none) (s x : Operand) (t : TypeId)
    (ho : o.op = .call { callee := .builtin .append, args := #[s, x], argTypes := #[t, t] }) (z : Value) (bytes : Nat) (ht : Try.prog.underlying t = some (.slice K.E)) (hi : (Try.prog.info? K.E).map (fun i => (i.zero, i.size, i.bytes)) = some (some z, K.m, bytes))
    (hzs : z.cells.size = K.m) (hby : bytes ≤ 64) (hs : a.eval s = v) (hx : a.eval x = .slice (some ⟨W.heap.size, 0, none⟩) 1 1) (hlen : l.length ≤ 1000000) (hbase : base ≤ W.heap.size)
    (h : ∀ v' w', K.Row w' base v' (l ++ [p]) → W.grownBy w' v.ownBlock → (v'.ownBlock = v.ownBlock ∨ ∃ k, W.heap.size ≤ k ∧ v'.ownBlock = some k) → wpList Try.prog ops Q rest (a.put o.dst v') w') :
    wpList Try.prog ops Q (o :: rest) a (W.alloc (.cells (K.enc p).toArray K.E (0, 0))) := by
  obtain ⟨v', w', h1, h2, h3, h4⟩ := hown.append_at p t o.type z bytes ht hi hzs hby hlen hbase
  exact wpList_append_run hgd s x t ho hs hx h1 (h v' w' h2 h3 h4)
end Go.Proofs.Ythhigmkheccfpaa
