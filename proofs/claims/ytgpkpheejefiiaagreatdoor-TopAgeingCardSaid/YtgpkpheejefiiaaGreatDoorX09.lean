/- A checked evaluator: drawn regions, what they stand on. | A checked evaluator: drawn regions, the invariant. | A checked evaluator: drawn regions, the moves. | A checked evaluator: drawn regions, the moves (2). | A checked evaluator: drawn regions, the moves (3). | A checked evaluator: drawn regions, what is kept. -/
import Derived.Test.YtgpkpheejefiiaaGreatDoorX06
section
set_option linter.unusedVariables false
set_option linter.unusedSimpArgs false
namespace Go.Proofs.YtgpkpheejefiiaaGreatDoor
open Go.RowKit
variable {P : Program}
/- what an operand reads -/
def tmpsOf (l : List Operand) : List Tmp := l.filterMap fun | .tmp t => some t | _ => none
/-- Two environments agree at some temporaries. -/
def Agree (l : List Tmp) (t t' : En) : Prop := ∀ i, i ∈ l → i < 128 → getI t i = getI t' i
theorem Agree.of (l m : List Tmp) {t t' : En} (h : Agree l t t') (k : ∀ i, i ∈ m → i ∈ l) : Agree m t t' := fun i hi hl => h i (k i hi) hl
theorem getX_same {n : Nat} (hn : n ≤ 128) {x : Operand} {y : X} (hx : opX n x = some y) {t t' : En} (h : Agree (tmpsOf [x]) t t') : getX y t = getX y t' := by
  cases x with
  | tmp i =>
    obtain ⟨hi, hy⟩ := bI_some hx
    obtain rfl := Option.some.inj hy
    rw [blt_eq] at hi
    have hi : i < n := by simpa using hi
    exact h i (by simp [tmpsOf]) (Nat.lt_of_lt_of_le hi hn)
  | const v =>
    obtain ⟨s, hs, hy⟩ := oB_some hx
    obtain rfl := Option.some.inj hy
    rfl
  | func f =>
    obtain rfl := Option.some.inj hx
    rfl
  | global g =>
    obtain ⟨hg, hy⟩ := bI_some hx
    obtain rfl := Option.some.inj hy
    rfl
theorem getL_same {n : Nat} (hn : n ≤ 128) : ∀ {l : List Operand} {m : List X}, opXL n l = some m → ∀ {t t' : En}, Agree (tmpsOf l) t t' → getL m t = getL m t'
  | [], m, hx, t, t', h => by obtain rfl := Option.some.inj hx; rfl
  | x :: l, m, hx, t, t', h => by
    obtain ⟨y, h1, hx⟩ := oB_some hx
    obtain ⟨k, h2, hx⟩ := oB_some hx
    obtain rfl := Option.some.inj hx
    have e1 := getX_same hn h1 (t := t) (t' := t') (h.of _ _ fun i hi => by
      simp only [tmpsOf] at hi ⊢
      rw [List.filterMap_cons]
      cases x <;> simp_all)
    have e2 := getL_same hn h2 (t := t) (t' := t') (h.of _ _ fun i hi => by
      simp only [tmpsOf] at hi ⊢
      rw [List.filterMap_cons]
      cases x <;> simp_all)
    show getX y t :: getL k t = getX y t' :: getL k t'
    rw [e1, e2]
/-- A maker looks at its operands only. -/
theorem mOf_same {T : Tab P} {n : Nat} (hn : n ≤ 128) {o : Op} {f : MF} (hf : mOf T n o = some f) {t t' : En} (h : Agree (tmpsOf o.operands.toList) t t') : f t = f t' := by
  cases o <;> simp only [mOf] at hf <;> first | exact nosome hf | skip
  case alloc ty =>
    obtain ⟨i, hi, hf⟩ := oB_some hf
    obtain rfl := Option.some.inj hf
    rfl
  case box ty x =>
    obtain ⟨x', hx, hf⟩ := oB_some hf
    obtain rfl := Option.some.inj hf
    simp only
    rw [getX_same hn hx (h.of _ _ fun i hi => by simpa [Op.operands] using hi)]
  case makeSlice ty x y =>
    split at hf
    · obtain ⟨i, hi, hf⟩ := oB_some hf
      obtain ⟨_, hf⟩ := bI_none hf
      obtain ⟨x', hx, hf⟩ := oB_some hf
      obtain ⟨y', hy, hf⟩ := oB_some hf
      obtain rfl := Option.some.inj hf
      simp only
      rw [getX_same hn hx (h.of _ _ fun i hi => by simp [Op.operands, tmpsOf] at hi ⊢; cases x <;> simp_all), getX_same hn hy (h.of _ _ fun i hi => by simp [Op.operands, tmpsOf] at hi ⊢; cases y <;> cases x <;> simp_all)]
    · exact nosome hf
  case buildSlice ty len ps =>
    split at hf
    · obtain ⟨i, hi, hf⟩ := oB_some hf
      obtain ⟨_, hf⟩ := bI_none hf
      obtain ⟨_, hf⟩ := bI_some hf
      obtain ⟨xs, hx, hf⟩ := oB_some hf
      obtain ⟨q, hq, hf⟩ := oB_some hf
      obtain rfl := Option.some.inj hf
      simp only
      rw [getL_same hn hx (h.of _ _ fun i hi => by simpa [Op.operands, snds] using hi)]
    · exact nosome hf
  case makeMap ty r0 =>
    cases r0 <;> simp only at hf <;> first | exact nosome hf | skip
    obtain ⟨hm, hf⟩ := bI_some hf
    obtain rfl := Option.some.inj hf
    rfl
theorem putS_agree {l : List Tmp} (d : Option Nat) (hd : ∀ k, d = some k → k < 128) (s : SV) (t : En) (h : ∀ k, d = some k → k ∉ l) : Agree l (putS (dstOf d) s t) t := by
  cases d with
  | none => intro i _ _; rfl
  | some d =>
    intro i hi h128
    show getI (setE (dig16 (d / 8)) (dig8 (d % 8)) s t) i = getI t i
    rw [getI_set _ _ h128 (hd d rfl), if_neg (fun e => h d rfl (by have e : i = d := e; rw [← e]; exact hi))]
end Go.Proofs.YtgpkpheejefiiaaGreatDoor
end
section
set_option linter.unusedVariables false
set_option linter.unusedSimpArgs false
namespace Go.Proofs.YtgpkpheejefiiaaGreatDoor
open Go.RowKit
variable {P : Program}
/-- Two acts agree at some temporaries. -/
structure Same (l : List Tmp) (a b : Go.Act) : Prop where
  size : a.tmps.size = b.tmps.size
  at' : ∀ x, x ∈ l → a.tmps.getD x Go.undef = b.tmps.getD x Go.undef
theorem exec_same {ops : Array Oper} {o : Oper} (hs : ∀ cs b, o.op ≠ .select cs b) {a b : Go.Act} (h : Same (o.looksAt ops) a b) : execOp a.eval o = execOp b.eval o :=
  execOp_congr o hs fun x hx => by
    cases x with
    | tmp t =>
      exact h.at' t (List.mem_append_left _ (List.mem_filterMap.2 ⟨.tmp t, by simpa using hx, rfl⟩))
    | const v => rfl
    | global g => rfl
    | func f => rfl
theorem getD_opt {a b : Array Value} (h : a.size = b.size) {d : Nat} (e : a.getD d Go.undef = b.getD d Go.undef) : a[d]? = b[d]? := by
  by_cases hd : d < a.size
  · have hd' : d < b.size := by omega
    simp only [Array.getD_eq_getD_getElem?] at e
    rw [Array.getElem?_eq_getElem hd, Array.getElem?_eq_getElem hd'] at e ⊢
    simpa using e
  · rw [Array.getElem?_eq_none (by omega), Array.getElem?_eq_none (by omega)]
theorem wanted_same {ops : Array Oper} {o : Oper} {a b : Go.Act} (h : Same (o.looksAt ops) a b) : Region.wanted o (yielded ops a.tmps) = Region.wanted o (yielded ops b.tmps) := by
  unfold Region.wanted
  cases hg : o.guard with
  | none => rfl
  | some gw =>
    obtain ⟨g, want⟩ := gw
    have hy : yielded ops a.tmps g = yielded ops b.tmps g := by
      unfold yielded
      cases ht : (ops[g]?).bind (·.dst) with
      | none => rfl
      | some t =>
        simp only [Option.bind_some]
        rw [getD_opt h.size (h.at' t (List.mem_append_right _ (by simp [hg, ht])))]
    simp only [hy]
theorem Same.put {l : List Tmp} (a : Go.Act) (d : Option Tmp) (v : Value) (h : ∀ k, d = some k → k ∉ l) : Same l (a.put d v) a := by
  cases d with
  | none => exact ⟨rfl, fun _ _ => rfl⟩
  | some d =>
    refine ⟨by simp [Act.put], fun x hx => ?_⟩
    have hne : d ≠ x := fun e => h d rfl (e ▸ hx)
    simp [Act.put, Array.getD_eq_getD_getElem?, Array.getElem?_setIfInBounds_ne hne]
theorem Same.trans {l : List Tmp} {a b c : Go.Act} (h : Same l a b) (k : Same l b c) : Same l a c := ⟨h.size.trans k.size, fun x hx => (h.at' x hx).trans (k.at' x hx)⟩
theorem Same.symm {l : List Tmp} {a b : Go.Act} (h : Same l a b) : Same l b a := ⟨h.size.symm, fun x hx => (h.at' x hx).symm⟩
/-- an operation waits for another -/
def Waits (o : Oper) (i : Nat) : Prop := ∃ e ∈ o.after, Region.binds .any e = true ∧ e.on = i
def PI.i (q : PI) : Nat := match q with | .p i => i | .l i _ => i | .s i _ => i
/-- what of a plan is done after p steps -/
def Done (l : List PI) (p : Nat) (i : Nat) : Prop := ∃ q : PI, q ∈ l.take p ∧ q.i = i
/-- A plan is right for a region: up j i says that i is an ancestor of j; early i, that i is a maker that may be taken early. -/
structure PlanOK (T : Tab P) (n : Nat) (ops : Array Oper) (l : List PI) (up : Nat → Nat → Prop) (early : Nat → Prop) : Prop where
  nosel : Region.noSelect ops = true
  mem : ∀ i, i < ops.size → Done l l.length i
  lt : ∀ q : PI, q ∈ l → q.i < ops.size
  once : ∀ (p q : Nat) (x y : PI), l[p]? = some x → l[q]? = some y → x.i = y.i → p = q
  ord : ∀ (p : Nat) (x : PI), l[p]? = some x → ∀ o, ops[x.i]? = some o → ∀ i, Waits o i → Done l p i
  anc : ∀ j i, up j i → ∃ o, ops[j]? = some o ∧ ∃ e, Waits o e ∧ (e = i ∨ up e i)
  dst : ∀ (i j : Nat) (oi oj : Oper) (d : Tmp), ops[i]? = some oi → ops[j]? = some oj → oi.dst = some d → oj.dst = some d → i = j
  rd : ∀ (c : Nat) (oc : Oper) (d : Tmp) (j : Nat) (oj : Oper), ops[c]? = some oc → oc.dst = some d → ops[j]? = some oj → d ∈ oj.looksAt ops → up j c ∨ ((∃ keep, PI.s c keep ∈ l) ∧ ¬ early c ∧ (j = c ∨ up c j))
  keep : ∀ (p : Nat) c keep, l[p]? = some (.s c keep) → ∀ i flag, PI.l i flag ∈ l.take p → up c i ∨ (i ∈ keep ∧ flag = true) ∨ ∃ c' keep', PI.s c' keep' ∈ l.take p ∧ up c' i
  mkr : ∀ i, early i → ∃ o f, ops[i]? = some o ∧ o.guard = none ∧ evOf T n o.op = .m f ∧ ∃ keep, PI.s i keep ∈ l
  lead : ∀ (p : Nat) c keep, l[p]? = some (.s c keep) → ∀ (A : Nat) (oA : Oper), ops[A]? = some oA → ¬ Done l p A → A ≠ c → (∀ i, Waits oA i → Done l p i) → early A ∧ ∀ (j : Nat) (oj : Oper), ops[j]? = some oj → Waits oj A → up j c
/-- What a lagging operation yields. -/
def LagOK (P : Program) (ops : Array Oper) (l : List PI) (r : Pl) (w : World) (G : GL) (b : Go.Act) (i : Nat) (flag : Bool) (o : Oper) (v : Value) : Prop :=
  Yields P ops o v b ∨
  (Region.wanted o (yielded ops b.tmps) = true ∧ PI.l i flag ∈ l ∧ ∃ g so, KeepObj r g so w ∧ (∀ r2 w2, r.le r2 → KeepObj r2 g so w2 → (execOp b.eval o).run P w2 = .ok (.value v) w2) ∧ (flag = true → (i, g, so) ∈ G))
/-- The real run and the plan's. -/
structure Inv (T : Tab P) (n : Nat) (ops : Array Oper) (l : List PI) (early : Nat → Prop) (cb : CB) (Q : Post) (r0 : Pl) (w0 : World) (p : Nat) (L : Array Bool) (a : Go.Act) (w : World) (r : Pl) (b : Go.Act) (t : En) (S : Tr) (nx : Nat) (G : GL) (B : Nat → Nat) : Prop where
  hp : p ≤ l.length
  len : L.size = ops.size
  down : ∀ j, L.getD j false = true → ∀ o, ops[j]? = some o → ∀ i, Waits o i → L.getD i false = true
  le : r0.le r
  sim : Sim r S nx w
  env : Env n r t b
  upd : Upd (feet r0) w0 (feet r) w
  size : a.tmps.size = n
  def' : a.defers = []
  same : ∀ d, (∀ i o, ops[i]? = some o → o.dst = some d → (Done l p i ↔ L.getD i false = true)) → a.tmps.getD d Go.undef = b.tmps.getD d Go.undef
  lag : ∀ i o, ops[i]? = some o → Done l p i → L.getD i false = false → ∃ flag, (PI.p i ∈ l.take p ∨ PI.l i flag ∈ l.take p) ∧ ∃ v, (∀ d, o.dst = some d → d < n → b.tmps.getD d Go.undef = v) ∧ LagOK P ops l r w G b i flag o v
  lead : ∀ i o, ops[i]? = some o → ¬ Done l p i → L.getD i false = true → ∃ f so sh v y, o.guard = none ∧ evOf T n o.op = .m f ∧ (∃ keep, PI.s i keep ∈ l) ∧ f t = some (so, sh) ∧ ¬ feet r (B i) ∧ w0.heap.size ≤ B i ∧ w.heap[B i]? = some y ∧ (∀ r', r.le r' → ObjR r' so 0 y) ∧ (∀ r' g, r.le r' → r' g = some (B i, 0) → Emb r' (sh g) v) ∧ (∀ d, o.dst = some d → d < n → a.tmps.getD d Go.undef = v)
  leadE : ∀ i, ¬ Done l p i → L.getD i false = true → early i
  leadW : ∀ i o, ops[i]? = some o → ¬ Done l p i → L.getD i false = true → ∀ j, Waits o j → Done l p j
  leads : ∀ i j, i < ops.size → j < ops.size → ¬ Done l p i → L.getD i false = true → ¬ Done l p j → L.getD j false = true → B i = B j → i = j
  good : Good n r0 w0 Q ((runPlan T n ops.toList (l.drop p)).go cb t S nx G)
end Go.Proofs.YtgpkpheejefiiaaGreatDoor
end
section
set_option linter.unusedVariables false
set_option linter.unusedSimpArgs false
namespace Go.Proofs.YtgpkpheejefiiaaGreatDoor
open Go.RowKit
variable {P : Program}
theorem done_succ {l : List PI} {p : Nat} {x : PI} (hx : l[p]? = some x) (i : Nat) : Done l (p + 1) i ↔ Done l p i ∨ x.i = i := by
  have e : l.take (p + 1) = l.take p ++ [x] := by rw [List.take_add_one, hx]; rfl
  unfold Done
  rw [e]
  constructor
  · rintro ⟨q, hq, hi⟩
    rcases List.mem_append.1 hq with h | h
    · exact .inl ⟨q, h, hi⟩
    · have : q = x := by simpa using h
      exact .inr (by rw [← this]; exact hi)
  · rintro (⟨q, hq, hi⟩ | hi)
    · exact ⟨q, List.mem_append_left _ hq, hi⟩
    · exact ⟨x, by simp, hi⟩
theorem done_at {l : List PI} {p i : Nat} (h : Done l p i) : ∃ k x, k < p ∧ l[k]? = some x ∧ x.i = i := by
  obtain ⟨q, hq, hi⟩ := h
  obtain ⟨k, hk⟩ := List.mem_iff_getElem?.1 hq
  rw [List.getElem?_take] at hk
  split at hk
  · exact ⟨k, q, ‹_›, hk, hi⟩
  · simp at hk
theorem done_of {l : List PI} {p k i : Nat} {x : PI} (hk : k < p) (hx : l[k]? = some x) (hi : x.i = i) : Done l p i :=
  ⟨x, List.mem_iff_getElem?.2 ⟨k, by rw [List.getElem?_take, if_pos hk]; exact hx⟩, hi⟩
section
variable {T : Tab P} {n : Nat} {ops : Array Oper} {l : List PI} {up : Nat → Nat → Prop} {early : Nat → Prop}
theorem not_done (hpl : PlanOK T n ops l up early) {p : Nat} {x : PI} (hx : l[p]? = some x) : ¬ Done l p x.i := fun h => by
  obtain ⟨k, y, k1, k2, k3⟩ := done_at h
  have := hpl.once _ _ _ _ k2 hx k3
  omega
theorem done_closed (hpl : PlanOK T n ops l up early) {p j i : Nat} {o : Oper} (h : Done l p j) (ho : ops[j]? = some o) (hw : Waits o i) : Done l p i := by
  obtain ⟨k, y, k1, k2, rfl⟩ := done_at h
  obtain ⟨k', y', j1, j2, j3⟩ := done_at (hpl.ord _ _ k2 _ ho _ hw)
  exact done_of (by omega) j2 j3
/-- Ancestors are in whatever is closed. -/
theorem anc_in (hpl : PlanOK T n ops l up early) {X : Nat → Prop} (hX : ∀ j o, X j → ops[j]? = some o → ∀ i, Waits o i → X i) {i : Nat} : ∀ (p : Nat) (x : PI), l[p]? = some x → X x.i → up x.i i → X i := by
  intro p
  induction p using Nat.strongRecOn with
  | _ p ih =>
    intro x hx h hu
    obtain ⟨o, ho, e, hw, he⟩ := hpl.anc _ _ hu
    have hXe := hX _ _ h ho _ hw
    rcases he with rfl | he
    · exact hXe
    · obtain ⟨k, y, k1, k2, k3⟩ := done_at (hpl.ord _ _ hx _ ho _ hw)
      exact ih k k1 y k2 (by rw [k3]; exact hXe) (by rw [k3]; exact he)
theorem anc_in' (hpl : PlanOK T n ops l up early) {X : Nat → Prop} (hX : ∀ j o, X j → ops[j]? = some o → ∀ i, Waits o i → X i) {i j : Nat} (h : X j) (hu : up j i) : X i := by
  obtain ⟨o, ho, e, hw, he⟩ := hpl.anc _ _ hu
  have hlt : j < ops.size := (Array.getElem?_eq_some_iff.1 ho).1
  obtain ⟨k, y, k1, k2, rfl⟩ := done_at (hpl.mem j hlt)
  exact anc_in hpl hX k y k2 h hu
theorem anc_done (hpl : PlanOK T n ops l up early) {p j i : Nat} (h : Done l p j) (hu : up j i) : Done l p i := anc_in' hpl (X := Done l p) (fun j o h ho i hw => done_closed hpl h ho hw) h hu
/-- Ancestors are earlier. -/
theorem anc_lt (hpl : PlanOK T n ops l up early) {p : Nat} {x : PI} (hx : l[p]? = some x) {i : Nat} (hu : up x.i i) : Done l p i := by
  obtain ⟨o, ho, e, hw, he⟩ := hpl.anc _ _ hu
  have h1 := hpl.ord _ _ hx _ ho _ hw
  rcases he with rfl | he
  · exact h1
  · exact anc_done hpl h1 he
theorem same_kind (hpl : PlanOK T n ops l up early) {p k : Nat} {x y : PI} (hx : l[p]? = some x) (hy : l[k]? = some y) (h : x.i = y.i) : x = y := by
  have := hpl.once _ _ _ _ hx hy h
  subst this
  rw [hx] at hy
  exact Option.some.inj hy
theorem not_s (hpl : PlanOK T n ops l up early) {p : Nat} {x : PI} (hx : l[p]? = some x) (hk : ∀ keep, x ≠ .s x.i keep) (keep : List Nat) : PI.s x.i keep ∉ l := fun h => by
  obtain ⟨k, hk2⟩ := List.mem_iff_getElem?.1 h
  exact hk keep (same_kind hpl hx hk2 rfl)
end
theorem LagOK.same {ops : Array Oper} {l : List PI} {r : Pl} {w : World} {G : GL} {b b' : Go.Act} {i : Nat} {flag : Bool} {o : Oper} {v : Value} (hs : ∀ cs b, o.op ≠ .select cs b) (h : LagOK P ops l r w G b i flag o v) (hb : Same (o.looksAt ops) b' b) : LagOK P ops l r w G b' i flag o v := by
  rcases h with h | ⟨h1, hl, g, so, h2, h3, h4⟩
  · exact .inl (h.of_same (exec_same hs hb) (wanted_same hb))
  · exact .inr ⟨by rw [wanted_same hb]; exact h1, hl, g, so, h2, fun r2 w2 k1 k2 => by rw [exec_same hs hb]; exact h3 r2 w2 k1 k2, h4⟩
theorem LagOK.more {ops : Array Oper} {l : List PI} {r : Pl} {w : World} {G G' : GL} {b : Go.Act} {i : Nat} {flag : Bool} {o : Oper} {v : Value} (h : LagOK P ops l r w G b i flag o v) (hG : ∀ q, q ∈ G → q ∈ G') : LagOK P ops l r w G' b i flag o v := by
  rcases h with h | ⟨h1, hl, g, so, h2, h3, h4⟩
  · exact .inl h
  · exact .inr ⟨h1, hl, g, so, h2, h3, fun e => hG _ (h4 e)⟩
theorem put_self {b : Go.Act} {d n : Nat} {v : Value} (hb : b.tmps.size = n) (hd : d < n) : (b.put (some d) v).tmps.getD d Go.undef = v := by
  have : d < b.tmps.size := by omega
  simp [Act.put, Array.getD_eq_getD_getElem?, this]
theorem put_other {b : Go.Act} {x : Option Tmp} {d : Nat} {v : Value} (h : x ≠ some d) : (b.put x v).tmps.getD d Go.undef = b.tmps.getD d Go.undef := by
  cases x with
  | none => rfl
  | some k =>
    have hne : k ≠ d := fun e => h (by rw [e])
    simp [Act.put, Array.getD_eq_getD_getElem?, Array.getElem?_setIfInBounds_ne hne]
variable {T : Tab P} {n : Nat} {ops : Array Oper} {l : List PI} {up : Nat → Nat → Prop} {early : Nat → Prop}
  {cb : CB} {Q : Post} {r0 : Pl} {w0 : World} {p : Nat} {L : Array Bool} {a : Go.Act} {w : World} {r : Pl} {b : Go.Act} {t : En} {S : Tr} {nx : Nat} {G : GL} {B : Nat → Nat}
/-- The plan goes on over an operation that reckons or reads: it lags from now on. -/
theorem Inv.adv (hpl : PlanOK T n ops l up early) (hI : Inv T n ops l early cb Q r0 w0 p L a w r b t S nx G B) {x : PI} (hx : l[p]? = some x) {flag : Bool} (hxi : x = .p x.i ∨ x = .l x.i flag) {o : Oper} (ho : ops[x.i]? = some o) (hL : L.getD x.i false = false)
    (hd : ∀ k, o.dst = some k → k < 128) {s : SV} {v : Value} (hs : Emb r s v) {G' : GL} (hG : ∀ q, q ∈ G → q ∈ G') (hlag : LagOK P ops l r w G' b x.i flag o v)
    (hgood : Good n r0 w0 Q ((runPlan T n ops.toList (l.drop (p + 1))).go cb (putS (dstOf o.dst) s t) S nx G')) :
    Inv T n ops l early cb Q r0 w0 (p + 1) L a w r (b.put o.dst v) (putS (dstOf o.dst) s t) S nx G' B := by
  have hsel := Region.noSelect_spec hpl.nosel
  have hns : ∀ keep, PI.s x.i keep ∉ l := not_s hpl hx (fun keep e => by rcases hxi with e' | e' <;> rw [e'] at e <;> cases e)
  have hnd := not_done hpl hx
  have hlt : p < l.length := (List.getElem?_eq_some_iff.1 hx).1
  -- who reads it comes after it
  have hrd : ∀ j oj, ops[j]? = some oj → ∀ k, o.dst = some k → k ∈ oj.looksAt ops → up j x.i := fun j oj hj k hk hm => by
    rcases hpl.rd _ _ _ _ _ ho hk hj hm with h | ⟨⟨keep, h⟩, _⟩
    · exact h
    · exact absurd h (hns keep)
  have hown : ∀ k, o.dst = some k → k ∉ o.looksAt ops := fun k hk hm => hnd (anc_lt hpl hx (hrd _ _ ho k hk hm))
  refine ⟨by omega, hI.len, hI.down, hI.le, hI.sim, hI.env.put o.dst hd hs, hI.upd, hI.size, hI.def', ?_, ?_, ?_, ?_, ?_, ?_, hgood⟩
  · intro d hdd
    have hne : o.dst ≠ some d := fun e => by
      have := (hdd _ _ ho e).1 ((done_succ hx _).2 (.inr rfl))
      rw [hL] at this
      cases this
    rw [put_other hne]
    refine hI.same d fun i oi hi hdi => ?_
    rw [← hdd i oi hi hdi, done_succ hx]
    constructor
    · exact .inl
    · rintro (h | h)
      · exact h
      · rw [← h, ho] at hi
        obtain rfl := Option.some.inj hi
        exact absurd hdi hne
  · intro i oi hi hdone hLi
    rcases (done_succ hx i).1 hdone with h | h
    · obtain ⟨fl, k1, v', k2, k3⟩ := hI.lag i oi hi h hLi
      have hne : i ≠ x.i := fun e => hnd (e ▸ h)
      have e : l.take (p + 1) = l.take p ++ [x] := by rw [List.take_add_one, hx]; rfl
      refine ⟨fl, by rw [e]; exact k1.imp (List.mem_append_left _) (List.mem_append_left _), v', fun d hd' hn => ?_, ?_⟩
      · rw [put_other (fun e => hne (hpl.dst _ _ _ _ _ hi ho hd' e))]
        exact k2 d hd' hn
      · exact (k3.more hG).same (fun cs bb => hsel i oi cs bb hi) (Same.put b o.dst v fun k hk hm => hnd (anc_done hpl h (hrd _ _ hi k hk hm)))
    · subst h
      rw [ho] at hi
      obtain rfl := Option.some.inj hi
      have e : l.take (p + 1) = l.take p ++ [x] := by rw [List.take_add_one, hx]; rfl
      refine ⟨flag, by rw [e]; exact hxi.imp (fun h => by rw [← h]; simp) (fun h => by rw [← h]; simp), v, fun d hd' hn => ?_, ?_⟩
      · rw [hd']
        exact put_self hI.env.size hn
      · exact hlag.same (fun cs bb => hsel _ _ cs bb ho) (Same.put b o.dst v hown)
  · intro i oi hi hdone hLi
    have hnd' : ¬ Done l p i := fun h => hdone ((done_succ hx i).2 (.inl h))
    obtain ⟨f, so, sh, v', y, k1, k2, k3, k4, k5⟩ := hI.lead i oi hi hnd' hLi
    refine ⟨f, so, sh, v', y, k1, k2, k3, ?_, k5⟩
    rw [← k4]
    refine mOf_same hI.env.le (evOf_m k2) (putS_agree o.dst hd s t fun k hk hm => ?_)
    have hm2 : k ∈ oi.looksAt ops := List.mem_append_left _ hm
    have := anc_in' hpl (X := fun j => L.getD j false = true) (fun j o h ho i hw => hI.down j h o ho i hw) hLi (hrd _ _ hi k hk hm2)
    rw [hL] at this
    cases this
  · exact fun i h1 h2 => hI.leadE i (fun h => h1 ((done_succ hx i).2 (.inl h))) h2
  · exact fun i o ho h1 h2 j hj => (done_succ hx j).2 (.inl (hI.leadW i o ho (fun h => h1 ((done_succ hx i).2 (.inl h))) h2 j hj))
  · intro i j hi hj h1 h2 h3 h4
    exact hI.leads i j hi hj (fun h => h1 ((done_succ hx i).2 (.inl h))) h2 (fun h => h3 ((done_succ hx j).2 (.inl h))) h4
/-- What is done and not listed lags; it is no '.s'. -/
theorem Inv.lag_kind (hpl : PlanOK T n ops l up early) (hI : Inv T n ops l early cb Q r0 w0 p L a w r b t S nx G B) {i : Nat} {keep : List Nat} (hs : PI.s i keep ∈ l) (hd : Done l p i) : L.getD i false = true := by
  cases hL : L.getD i false with
  | true => rfl
  | false =>
    obtain ⟨q, hq, hqi⟩ := hd
    have hlt : i < ops.size := by rw [← hqi]; exact hpl.lt q (List.mem_of_mem_take hq)
    obtain ⟨fl, k1, _⟩ := hI.lag i ops[i] (Array.getElem?_eq_getElem hlt) ⟨q, hq, hqi⟩ hL
    obtain ⟨k, hk⟩ := List.mem_iff_getElem?.1 hs
    rcases k1 with h | h
    · obtain ⟨k', hk'⟩ := List.mem_iff_getElem?.1 (List.mem_of_mem_take h)
      have := same_kind hpl hk hk' rfl
      cases this
    · obtain ⟨k', hk'⟩ := List.mem_iff_getElem?.1 (List.mem_of_mem_take h)
      have := same_kind hpl hk hk' rfl
      cases this
/-- What an operation reads that is ready for both runs is the same in both. -/
theorem Inv.reads (hpl : PlanOK T n ops l up early) (hI : Inv T n ops l early cb Q r0 w0 p L a w r b t S nx G B) {j : Nat} {oj : Oper} (hj : ops[j]? = some oj) (hL : L.getD j false = false) (h1 : ∀ i, Waits oj i → L.getD i false = true) (h2 : ∀ i, Waits oj i → Done l p i) : Same (oj.looksAt ops) a b := by
  refine ⟨by rw [hI.size, hI.env.size], fun d hd => hI.same d fun c oc hc hdc => ?_⟩
  have hcl : ∀ j o, L.getD j false = true → ops[j]? = some o → ∀ i, Waits o i → L.getD i false = true := fun j o h ho i hw => hI.down j h o ho i hw
  rcases hpl.rd _ _ _ _ _ hc hdc hj hd with h | ⟨⟨keep, hk⟩, he, h⟩
  · obtain ⟨o, ho, e, hw, he⟩ := hpl.anc _ _ h
    rw [hj] at ho
    obtain rfl := Option.some.inj ho
    have e1 := h1 e hw
    have e2 := h2 e hw
    rcases he with rfl | he
    · exact ⟨fun _ => e1, fun _ => e2⟩
    · exact ⟨fun _ => anc_in' hpl (X := fun j => L.getD j false = true) hcl e1 he, fun _ => anc_done hpl e2 he⟩
  · have hno : ¬ L.getD c false = true := fun hLc => by
      rcases h with rfl | h
      · rw [hL] at hLc; cases hLc
      · have := anc_in' hpl (X := fun j => L.getD j false = true) hcl hLc h
        rw [hL] at this
        cases this
    exact ⟨fun hD => hI.lag_kind hpl hk hD, fun hLc => absurd hLc hno⟩
theorem getD_set {L : Array Bool} {i j : Nat} (hi : i < L.size) : (L.setIfInBounds i true).getD j false = true ↔ j = i ∨ L.getD j false = true := by
  by_cases h : j = i
  · subst h
    simp [Array.getD_eq_getD_getElem?, hi]
  · rw [Go.getD_set_ne false (Ne.symm h)]
    simp [h]
theorem getD_set_f {L : Array Bool} {i j : Nat} (hi : i < L.size) : (L.setIfInBounds i true).getD j false = false ↔ j ≠ i ∧ L.getD j false = false := by
  by_cases h : j = i
  · subst h
    simp [Array.getD_eq_getD_getElem?, hi]
  · rw [Go.getD_set_ne false (Ne.symm h)]
    simp [h]
/-- A lagging operation is really carried out. -/
theorem Inv.take (hpl : PlanOK T n ops l up early) (hI : Inv T n ops l early cb Q r0 w0 p L a w r b t S nx G B) {i : Nat} {o : Oper} (ho : ops[i]? = some o) (hD : Done l p i) (hL : L.getD i false = false) (hw : ∀ j, Waits o j → L.getD j false = true) {K : Go.Act → World → Prop} {Q' : Post}
    (hK : ∀ v, Inv T n ops l early cb Q r0 w0 p (L.setIfInBounds i true) (a.put o.dst v) w r b t S nx G B → K (a.put o.dst v) w) : wpOp P ops Q' i K a w := by
  have hlt : i < ops.size := (Array.getElem?_eq_some_iff.1 ho).1
  have hlt' : i < L.size := by rw [hI.len]; exact hlt
  have hsel := Region.noSelect_spec hpl.nosel
  have hsame := hI.reads hpl ho hL hw (fun j hj => done_closed hpl hD ho hj)
  obtain ⟨fl, k1, v, k2, k3⟩ := hI.lag i o ho hD hL
  have hInv : Inv T n ops l early cb Q r0 w0 p (L.setIfInBounds i true) (a.put o.dst v) w r b t S nx G B := by
    refine ⟨hI.hp, by simp [hI.len], ?_, hI.le, hI.sim, hI.env, hI.upd, ?_, ?_, ?_, ?_, ?_, ?_, ?_, ?_, hI.good⟩
    · intro j hj oj hoj e he
      rw [getD_set hlt'] at hj ⊢
      rcases hj with rfl | hj
      · rw [ho] at hoj
        obtain rfl := Option.some.inj hoj
        exact .inr (hw e he)
      · exact .inr (hI.down j hj oj hoj e he)
    · cases hdst : o.dst with
      | none => exact hI.size
      | some k => simp [Act.put, hI.size]
    · cases hdst : o.dst with
      | none => exact hI.def'
      | some k => exact hI.def'
    · intro d hdd
      by_cases he : o.dst = some d
      · rw [he]
        by_cases hdn : d < n
        · rw [put_self hI.size hdn, k2 d he hdn]
        · have h1 : ¬ d < a.tmps.size := by rw [hI.size]; exact hdn
          have h2 : ¬ d < b.tmps.size := by rw [hI.env.size]; exact hdn
          simp [Act.put, Array.getD_eq_getD_getElem?, h1, h2, Array.getElem?_eq_none]
      · rw [put_other he]
        refine hI.same d fun j oj hj hdj => ?_
        rw [hdd j oj hj hdj, getD_set hlt']
        constructor
        · rintro (rfl | h)
          · rw [ho] at hj
            obtain rfl := Option.some.inj hj
            exact absurd hdj he
          · exact h
        · exact .inr
    · intro j oj hj hDj hLj
      rw [getD_set_f hlt'] at hLj
      exact hI.lag j oj hj hDj hLj.2
    · intro j oj hj hDj hLj
      rw [getD_set hlt'] at hLj
      rcases hLj with rfl | hLj
      · exact absurd hD hDj
      · obtain ⟨f, so, sh, v', y, q1, q2, q3, q4, q5, q6, q7, q8, q9, q10⟩ := hI.lead j oj hj hDj hLj
        refine ⟨f, so, sh, v', y, q1, q2, q3, q4, q5, q6, q7, q8, q9, fun d hd hn => ?_⟩
        rw [put_other (fun e => hDj (by rw [hpl.dst _ _ _ _ _ hj ho hd e]; exact hD))]
        exact q10 d hd hn
    · exact fun j hDj hLj => hI.leadE j hDj (((getD_set hlt').1 hLj).resolve_left (fun e => hDj (e ▸ hD)))
    · exact fun j oj hj hDj hLj => hI.leadW j oj hj hDj (((getD_set hlt').1 hLj).resolve_left (fun e => hDj (e ▸ hD)))
    · intro x y hx hy h1 h2 h3 h4
      rw [getD_set hlt'] at h2 h4
      have h2 := h2.resolve_left (fun e => h1 (e ▸ hD))
      have h4 := h4.resolve_left (fun e => h3 (e ▸ hD))
      exact hI.leads x y hx hy h1 h2 h3 h4
  rcases k3 with k3 | ⟨q1, ql, g, so, q2, q3, q4⟩
  · exact (k3.of_same (exec_same (fun cs bb => hsel _ _ cs bb ho) hsame) (wanted_same hsame)).wpOp ho (hK v hInv)
  · unfold Go.wpOp
    simp only [ho]
    rw [wanted_same hsame, q1]
    refine .inl ?_
    unfold Oper.wp
    rw [exec_same (fun cs bb => hsel _ _ cs bb ho) hsame, q3 r w (Pl.le_refl r) q2]
    exact hK v hInv
end Go.Proofs.YtgpkpheejefiiaaGreatDoor
end
section
set_option linter.unusedVariables false
set_option linter.unusedSimpArgs false
namespace Go.Proofs.YtgpkpheejefiiaaGreatDoor
open Go.RowKit
variable {P : Program}
theorem KeepObj.up {r r' : Pl} (h : r.le r') {g : Nat} {so : SO} {w : World} (k : KeepObj r g so w) : KeepObj r' g so w := let ⟨b, c, y, h1, h2, h3⟩ := k; ⟨b, c, y, h _ _ h1, h2, h3.up h⟩
/-- What lags goes on lagging in another world that keeps its objects. -/
theorem LagOK.to {ops : Array Oper} {l : List PI} {r r' : Pl} {w w' : World} {G : GL} {b : Go.Act} {i : Nat} {flag : Bool} {o : Oper} {v : Value} (h : LagOK P ops l r w G b i flag o v) (hr : r.le r')
    (hk : ∀ g so, PI.l i flag ∈ l → KeepObj r g so w → (flag = true → (i, g, so) ∈ G) → KeepObj r' g so w') : LagOK P ops l r' w' G b i flag o v := by
  rcases h with h | ⟨h1, hl, g, so, h2, h3, h4⟩
  · exact .inl h
  · exact .inr ⟨h1, hl, g, so, hk g so hl h2 h4, fun r2 w2 k1 k2 => h3 r2 w2 (Pl.le_trans hr k1) k2, h4⟩
variable {T : Tab P} {n : Nat} {ops : Array Oper} {l : List PI} {up : Nat → Nat → Prop} {early : Nat → Prop}
  {cb : CB} {Q : Post} {r0 : Pl} {w0 : World} {p : Nat} {L : Array Bool} {a : Go.Act} {w : World} {r : Pl} {b : Go.Act} {t : En} {S : Tr} {nx : Nat} {G : GL} {B : Nat → Nat}
/-- The plan comes to a maker that was really carried out before. -/
theorem Inv.adopt (hpl : PlanOK T n ops l up early) (hI : Inv T n ops l early cb Q r0 w0 p L a w r b t S nx G B) {c : Nat} {keep : List Nat} (hx : l[p]? = some (.s c keep)) {o : Oper} (ho : ops[c]? = some o) (hL : L.getD c false = true) (hd : ∀ k, o.dst = some k → k < 128)
    {f : MF} {so : SO} {sh : Nat → SV} (hev : evOf T n o.op = .m f) (hf : f t = some (so, sh))
    (hgood : Good n r0 w0 Q ((runPlan T n ops.toList (l.drop (p + 1))).go cb (putS (dstOf o.dst) (sh nx) t) (updT S nx (some so)) (nx + 1) G)) :
    ∃ v, Inv T n ops l early cb Q r0 w0 (p + 1) L a w (r.new nx (B c) 0) (b.put o.dst v) (putS (dstOf o.dst) (sh nx) t) (updT S nx (some so)) (nx + 1) G B := by
  have hsel := Region.noSelect_spec hpl.nosel
  have hnd : ¬ Done l p c := not_done hpl hx
  have hlt : p < l.length := (List.getElem?_eq_some_iff.1 hx).1
  have hcs : c < ops.size := (Array.getElem?_eq_some_iff.1 ho).1
  obtain ⟨f', so', sh', v, y, q1, q2, q3, q4, q5, q6, q7, q8, q9, q10⟩ := hI.lead c o ho hnd hL
  rw [hev] at q2
  obtain rfl : f = f' := by injection q2
  rw [hf] at q4
  obtain ⟨rfl, rfl⟩ : so = so' ∧ sh = sh' := by simpa using q4
  have hle := hI.sim.le_new (B c) 0
  have hdone : ∀ i, Done l (p + 1) i ↔ Done l p i ∨ c = i := fun i => done_succ hx i
  have hrd : ∀ j oj, ops[j]? = some oj → ∀ k, o.dst = some k → k ∈ oj.looksAt ops → up j c := fun j oj hj k hk hm => by
    rcases hpl.rd _ _ _ _ _ ho hk hj hm with h | ⟨_, he, _⟩
    · exact h
    · exact absurd (hI.leadE c hnd hL) he
  refine ⟨v, by omega, hI.len, hI.down, Pl.le_trans hI.le hle, hI.sim.adopt q7 q5 (q8 _ hle), (hI.env.up hle).put o.dst hd (q9 _ nx hle (Pl.new_self _ _ _ _)), ?_, hI.size, hI.def', ?_, ?_, ?_, ?_, ?_, ?_, hgood⟩
  · refine hI.upd.foot_of fun k hk => ?_
    obtain ⟨g, d, e⟩ := hk
    simp only [Pl.new] at e
    split at e
    · simp at e; right; omega
    · exact .inl ⟨g, d, e⟩
  · intro d hdd
    by_cases he : o.dst = some d
    · rw [he]
      by_cases hdn : d < n
      · rw [put_self hI.env.size hdn, q10 d he hdn]
      · have h1 : ¬ d < a.tmps.size := by rw [hI.size]; exact hdn
        have h2 : ¬ d < b.tmps.size := by rw [hI.env.size]; exact hdn
        simp [Act.put, Array.getD_eq_getD_getElem?, h1, h2, Array.getElem?_eq_none]
    · rw [put_other he]
      refine hI.same d fun i oi hi hdi => ?_
      rw [← hdd i oi hi hdi, hdone]
      constructor
      · exact .inl
      · rintro (h | rfl)
        · exact h
        · rw [ho] at hi
          obtain rfl := Option.some.inj hi
          exact absurd hdi he
  · intro i oi hi hD hLi
    rcases (hdone i).1 hD with h | rfl
    · obtain ⟨fl, k1, v', k2, k3⟩ := hI.lag i oi hi h hLi
      have hne : i ≠ c := fun e => hnd (e ▸ h)
      have e : l.take (p + 1) = l.take p ++ [.s c keep] := by rw [List.take_add_one, hx]; rfl
      refine ⟨fl, by rw [e]; exact k1.imp (List.mem_append_left _) (List.mem_append_left _), v', fun d hd' hn => ?_, ?_⟩
      · rw [put_other (fun e => hne (hpl.dst _ _ _ _ _ hi ho hd' e))]
        exact k2 d hd' hn
      · exact (k3.to hle fun g so' _ k _ => k.up hle).same (fun cs bb => hsel i oi cs bb hi) (Same.put b o.dst v fun k hk hm => hnd (anc_done hpl h (hrd _ _ hi k hk hm)))
    · rw [hL] at hLi; cases hLi
  · intro i oi hi hD hLi
    have hnd' : ¬ Done l p i := fun h => hD ((hdone i).2 (.inl h))
    have hne : i ≠ c := fun e => hD ((hdone i).2 (.inr e.symm))
    have his : i < ops.size := (Array.getElem?_eq_some_iff.1 hi).1
    obtain ⟨f2, so2, sh2, v2, y2, z1, z2, z3, z4, z5, z6, z7, z8, z9, z10⟩ := hI.lead i oi hi hnd' hLi
    refine ⟨f2, so2, sh2, v2, y2, z1, z2, z3, ?_, ?_, z6, z7, fun r' hr => z8 r' (Pl.le_trans hle hr), fun r' g hr => z9 r' g (Pl.le_trans hle hr), z10⟩
    · rw [← z4]
      refine mOf_same hI.env.le (evOf_m z2) (putS_agree o.dst hd _ t fun k hk hm => ?_)
      have hm2 : k ∈ oi.looksAt ops := List.mem_append_left _ hm
      obtain ⟨o', ho', e, hw, he⟩ := hpl.anc _ _ (hrd _ _ hi k hk hm2)
      rw [hi] at ho'
      obtain rfl := Option.some.inj ho'
      have h1 := hI.leadW i oi hi hnd' hLi e hw
      rcases he with rfl | he
      · exact hnd h1
      · exact hnd (anc_done hpl h1 he)
    · rintro ⟨g, d, e⟩
      simp only [Pl.new] at e
      split at e
      · simp at e
        exact hne (hI.leads i c his hcs hnd' hLi hnd hL e.1.symm)
      · exact z5 ⟨g, d, e⟩
  · exact fun i h1 h2 => hI.leadE i (fun h => h1 ((hdone i).2 (.inl h))) h2
  · exact fun i oi hi h1 h2 j hj => (hdone j).2 (.inl (hI.leadW i oi hi (fun h => h1 ((hdone i).2 (.inl h))) h2 j hj))
  · intro i j hi hj h1 h2 h3 h4
    exact hI.leads i j hi hj (fun h => h1 ((hdone i).2 (.inl h))) h2 (fun h => h3 ((hdone j).2 (.inl h))) h4
/-- Both runs carry out the same operation. -/
theorem Inv.sync (hpl : PlanOK T n ops l up early) (hI : Inv T n ops l early cb Q r0 w0 p L a w r b t S nx G B) {c : Nat} {keep : List Nat} (hx : l[p]? = some (.s c keep)) {o : Oper} (ho : ops[c]? = some o) (hL : L.getD c false = false) (hw : ∀ i, Waits o i → L.getD i false = true) (hd : ∀ k, o.dst = some k → k < 128)
    {r' : Pl} {w' : World} {S' : Tr} {nx' : Nat} {s : SV} {v : Value} (hr : r.le r') (hs : Sim r' S' nx' w') (hv : Emb r' s v) (hu : Upd (feet r) w (feet r') w') (hkeep : ∀ i g so, i ∈ keep → (i, g, so) ∈ G → KeepObj r g so w → KeepObj r' g so w')
    (hgood : Good n r0 w0 Q ((runPlan T n ops.toList (l.drop (p + 1))).go cb (putS (dstOf o.dst) s t) S' nx' G)) :
    Inv T n ops l early cb Q r0 w0 (p + 1) (L.setIfInBounds c true) (a.put o.dst v) w' r' (b.put o.dst v) (putS (dstOf o.dst) s t) S' nx' G B := by
  have hsel := Region.noSelect_spec hpl.nosel
  have hnd : ¬ Done l p c := not_done hpl hx
  have hlt : p < l.length := (List.getElem?_eq_some_iff.1 hx).1
  have hcs : c < ops.size := (Array.getElem?_eq_some_iff.1 ho).1
  have hcL : c < L.size := by rw [hI.len]; exact hcs
  have hdone : ∀ i, Done l (p + 1) i ↔ Done l p i ∨ c = i := fun i => done_succ hx i
  have hcl : ∀ j o, L.getD j false = true → ops[j]? = some o → ∀ i, Waits o i → L.getD i false = true := fun j o h ho i hw => hI.down j h o ho i hw
  -- its ancestors are listed
  have hanc : ∀ i, up c i → L.getD i false = true := fun i h => by
    obtain ⟨o', ho', e, hw', he⟩ := hpl.anc _ _ h
    rw [ho] at ho'
    obtain rfl := Option.some.inj ho'
    have h1 := hw e hw'
    rcases he with rfl | he
    · exact h1
    · exact anc_in' hpl (X := fun j => L.getD j false = true) hcl h1 he
  refine ⟨by omega, by simp [hI.len], ?_, Pl.le_trans hI.le hr, hs, (hI.env.up hr).put o.dst hd hv, hI.upd.trans hu, ?_, ?_, ?_, ?_, ?_, ?_, ?_, ?_, hgood⟩
  · intro j hj oj hoj e he
    rw [getD_set hcL] at hj ⊢
    rcases hj with rfl | hj
    · rw [ho] at hoj
      obtain rfl := Option.some.inj hoj
      exact .inr (hw e he)
    · exact .inr (hI.down j hj oj hoj e he)
  · cases hdst : o.dst with
    | none => exact hI.size
    | some k => simp [Act.put, hI.size]
  · cases hdst : o.dst with
    | none => exact hI.def'
    | some k => exact hI.def'
  · intro d hdd
    by_cases he : o.dst = some d
    · rw [he]
      by_cases hdn : d < n
      · rw [put_self hI.env.size hdn, put_self hI.size hdn]
      · have h1 : ¬ d < a.tmps.size := by rw [hI.size]; exact hdn
        have h2 : ¬ d < b.tmps.size := by rw [hI.env.size]; exact hdn
        simp [Act.put, Array.getD_eq_getD_getElem?, h1, h2, Array.getElem?_eq_none]
    · rw [put_other he, put_other he]
      refine hI.same d fun i oi hi hdi => ?_
      have hne : i ≠ c := fun e => by
        rw [e, ho] at hi
        obtain rfl := Option.some.inj hi
        exact he hdi
      have := hdd i oi hi hdi
      rw [hdone, getD_set hcL] at this
      constructor
      · exact fun h => (this.1 (.inl h)).resolve_left hne
      · exact fun h => (this.2 (.inr h)).resolve_right (fun e => hne e.symm)
  · intro i oi hi hD hLi
    obtain ⟨hne, hLi⟩ := (getD_set_f hcL).1 hLi
    have h := ((hdone i).1 hD).resolve_right (fun e => hne e.symm)
    obtain ⟨fl, k1, v', k2, k3⟩ := hI.lag i oi hi h hLi
    have e : l.take (p + 1) = l.take p ++ [.s c keep] := by rw [List.take_add_one, hx]; rfl
    refine ⟨fl, by rw [e]; exact k1.imp (List.mem_append_left _) (List.mem_append_left _), v', fun d hd' hn => ?_, ?_⟩
    · rw [put_other (fun e => hne (hpl.dst _ _ _ _ _ hi ho hd' e))]
      exact k2 d hd' hn
    · refine (k3.to hr fun g so hl hk hg => ?_).same (fun cs bb => hsel i oi cs bb hi) (Same.put b o.dst v fun k hk hm => ?_)
      · obtain ⟨q, hq, hqi⟩ := h
        obtain ⟨kk, hkk⟩ := List.mem_iff_getElem?.1 hl
        obtain ⟨k', hk'⟩ := List.mem_iff_getElem?.1 (List.mem_of_mem_take hq)
        have hql : PI.l i fl = q := same_kind hpl hkk hk' (by rw [hqi]; rfl)
        rcases hpl.keep p c keep hx i fl (hql ▸ hq) with h | ⟨h, hf⟩ | ⟨c', keep', hc', h⟩
        · have := hanc i h
          rw [hLi] at this
          cases this
        · exact hkeep i g so h (hg hf) hk
        · have hLc' := hI.lag_kind hpl (List.mem_of_mem_take hc') (i := c') ⟨_, hc', rfl⟩
          have := anc_in' hpl (X := fun j => L.getD j false = true) hcl hLc' h
          rw [hLi] at this
          cases this
      · rcases hpl.rd _ _ _ _ _ ho hk hi hm with h' | ⟨_, _, h'⟩
        · exact hnd (anc_done hpl h h')
        · rcases h' with h' | h'
          · exact hne h'
          · have := hanc i h'
            rw [hLi] at this
            cases this
  · intro i oi hi hD hLi
    have hne : i ≠ c := fun e => hD ((hdone i).2 (.inr e.symm))
    have hLi := ((getD_set hcL).1 hLi).resolve_left hne
    have hnd' : ¬ Done l p i := fun h => hD ((hdone i).2 (.inl h))
    obtain ⟨f2, so2, sh2, v2, y2, z1, z2, z3, z4, z5, z6, z7, z8, z9, z10⟩ := hI.lead i oi hi hnd' hLi
    have hlt2 := blk_lt z7
    refine ⟨f2, so2, sh2, v2, y2, z1, z2, z3, ?_, fun hf => ?_, z6, ?_, fun r2 h2 => z8 r2 (Pl.le_trans hr h2), fun r2 g h2 => z9 r2 g (Pl.le_trans hr h2), fun d hd' hn => ?_⟩
    · rw [← z4]
      refine mOf_same hI.env.le (evOf_m z2) (putS_agree o.dst hd _ t fun k hk hm => ?_)
      have hm2 : k ∈ oi.looksAt ops := List.mem_append_left _ hm
      rcases hpl.rd _ _ _ _ _ ho hk hi hm2 with h' | ⟨_, _, h'⟩
      · have := anc_in' hpl (X := fun j => L.getD j false = true) hcl hLi h'
        rw [hL] at this
        cases this
      · rcases h' with h' | h'
        · exact hne h'
        · exact hnd' (anc_lt hpl hx h')
    · rcases hu.foot _ hf with h | h
      · exact z5 h
      · omega
    · rw [hu.blk _ hlt2 z5]; exact z7
    · rw [put_other (fun e => hne (hpl.dst _ _ _ _ _ hi ho hd' e))]
      exact z10 d hd' hn
  · exact fun i h1 h2 => hI.leadE i (fun h => h1 ((hdone i).2 (.inl h))) (((getD_set hcL).1 h2).resolve_left (fun e => h1 ((hdone i).2 (.inr e.symm))))
  · exact fun i oi hi h1 h2 j hj => (hdone j).2 (.inl (hI.leadW i oi hi (fun h => h1 ((hdone i).2 (.inl h))) (((getD_set hcL).1 h2).resolve_left (fun e => h1 ((hdone i).2 (.inr e.symm)))) j hj))
  · intro i j hi hj h1 h2 h3 h4
    exact hI.leads i j hi hj (fun h => h1 ((hdone i).2 (.inl h))) (((getD_set hcL).1 h2).resolve_left (fun e => h1 ((hdone i).2 (.inr e.symm)))) (fun h => h3 ((hdone j).2 (.inl h))) (((getD_set hcL).1 h4).resolve_left (fun e => h3 ((hdone j).2 (.inr e.symm))))
end Go.Proofs.YtgpkpheejefiiaaGreatDoor
end
section
set_option linter.unusedVariables false
set_option linter.unusedSimpArgs false
namespace Go.Proofs.YtgpkpheejefiiaaGreatDoor
open Go.RowKit
variable {P : Program}
theorem withG_good {n : Nat} {all : List Oper} {o : Oper} {yes : Gx} {no : GF} {cb : CB} {t : En} {S : Tr} {nx : Nat} {G : GL} {m : Nat} {r : Pl} {w : World} {Q : Post} (h : Good m r w Q ((withG n all o yes no).go cb t S nx G)) :
    dOK n o.dst = true ∧ ((o.guard = none ∧ Good m r w Q (yes.go cb t S nx G)) ∨
      ∃ j want d bb, o.guard = some (j, want) ∧ tmpOf all j = some d ∧ d < n ∧ guardV want (getE (dig16 (Nat.div d 8)) (dig8 (Nat.mod d 8)) t) = some bb ∧ (bb = true → Good m r w Q (yes.go cb t S nx G)) ∧ (bb = false → Good m r w Q (no cb t S nx G))) := by
  unfold withG at h
  rw [bI_eq] at h
  split at h
  case isFalse => exact h.elim
  rename_i hd
  refine ⟨hd, ?_⟩
  unfold withI at h
  split at h
  · exact .inl ⟨‹_›, h⟩
  · rename_i j want hg
    split at h
    · rename_i d hj
      rw [bI_eq] at h
      split at h
      case isFalse => exact h.elim
      rename_i hdn
      rw [blt_eq] at hdn
      have hdn : d < n := by simpa using hdn
      replace h : Good m r w Q (gGuard (dig16 (Nat.div d 8)) (dig8 (Nat.mod d 8)) want yes.go no cb t S nx G) := h
      unfold gGuard at h
      cases hv : guardV want (getE (dig16 (Nat.div d 8)) (dig8 (Nat.mod d 8)) t) with
      | none => rw [hv] at h; exact h.elim
      | some bb =>
        rw [hv] at h
        refine .inr ⟨j, want, d, bb, hg, hj, hdn, hv, fun e => ?_, fun e => ?_⟩
        · subst e; exact h
        · subst e; exact h
    · exact h.elim
theorem gOn_good {keep : List Nat} {k : GF} {cb : CB} {t : En} {S : Tr} {nx : Nat} {G : GL} {m : Nat} {r : Pl} {w : World} {Q : Post} (h : Good m r w Q (gOn keep k cb t S nx G)) : (keep = [] ∨ keepOK keep G S = true) ∧ Good m r w Q (k cb t S nx G) := by
  unfold gOn at h
  split at h
  · exact ⟨.inl rfl, h⟩
  · replace h : Good m r w Q (bI (keepOK keep G S) (k cb t S nx G) (.stuck [6000000])) := h
    rw [bI_eq] at h
    split at h
    · exact ⟨.inr ‹_›, h⟩
    · exact h.elim
variable {T : Tab P} {n : Nat}
theorem gP_good {c : Nat} {d : Dst} {f : PF} {k : GF} {cb : CB} {t : En} {S : Tr} {nx : Nat} {G : GL} {m : Nat} {r : Pl} {w : World} {Q : Post} (h : Good m r w Q (gP c d f k cb t S nx G)) : ∃ s, f t S = some s ∧ Good m r w Q (k cb (putS d s t) S nx G) := by
  unfold gP at h
  cases hv : f t S with
  | none => rw [hv] at h; exact h.elim
  | some s => rw [hv] at h; exact ⟨s, rfl, h⟩
theorem gL_good {c : Nat} {d : Dst} {f : LF} {k : GF} {cb : CB} {t : En} {S : Tr} {nx : Nat} {G : GL} {m : Nat} {r : Pl} {w : World} {Q : Post} (h : Good m r w Q (gL c d f k cb t S nx G)) : ∃ q, f t S = some q ∧ Good m r w Q (k cb (putS d q.1 t) S nx G) := by
  unfold gL at h
  cases hv : f t S with
  | none => rw [hv] at h; exact h.elim
  | some s => rw [hv] at h; exact ⟨s, rfl, h⟩
theorem gLF_good {c i : Nat} {d : Dst} {f : LF} {k : GF} {cb : CB} {t : En} {S : Tr} {nx : Nat} {G : GL} {m : Nat} {r : Pl} {w : World} {Q : Post} (h : Good m r w Q (gLF c i d f k cb t S nx G)) : ∃ q so, f t S = some q ∧ atT S q.2 = some so ∧ Good m r w Q (k cb (putS d q.1 t) S nx ((i, q.2, so) :: G)) := by
  unfold gLF at h
  cases hv : f t S with
  | none => rw [hv] at h; exact h.elim
  | some q =>
    rw [hv] at h
    replace h : Good m r w Q (Option.rec (motive := fun _ => Out) (.stuck [5000000]) (fun so => k cb (putS d q.1 t) S nx ((i, q.2, so) :: G)) (atT S q.2)) := h
    cases hq : atT S q.2 with
    | none => rw [hq] at h; exact h.elim
    | some so => rw [hq] at h; exact ⟨q, so, rfl, hq, h⟩
theorem gM_good {c : Nat} {d : Dst} {f : MF} {k : GF} {cb : CB} {t : En} {S : Tr} {nx : Nat} {G : GL} {m : Nat} {r : Pl} {w : World} {Q : Post} (h : Good m r w Q (gM c d f k cb t S nx G)) : ∃ q, f t = some q ∧ Good m r w Q (k cb (putS d (q.2 nx) t) (updT S nx (some q.1)) (nx + 1) G) := by
  unfold gM at h
  cases hv : f t with
  | none => rw [hv] at h; exact h.elim
  | some s => rw [hv] at h; exact ⟨s, rfl, h⟩
theorem gE_good {c : Nat} {keep : List Nat} {d : Dst} {f : EF} {k : GF} {cb : CB} {t : En} {S : Tr} {nx : Nat} {G : GL} {m : Nat} {r : Pl} {w : World} {Q : Post} (h : Good m r w Q (gE c keep d f k cb t S nx G)) :
    (∃ s, f t S nx = .val s ∧ Good m r w Q (k cb (putS d s t) S nx G)) ∨
    (∃ s S' nx', f t S nx = .heap s S' nx' ∧ (keep = [] ∨ keepOK keep G S' = true) ∧ Good m r w Q (k cb (putS d s t) S' nx' G)) ∨
    (∃ f' args s S' nx', f t S nx = .call f' args ∧ cb f' args S nx = .val s S' nx' ∧ (keep = [] ∨ keepOK keep G S' = true) ∧ Good m r w Q (k cb (putS d s t) S' nx' G)) := by
  unfold gE at h
  cases hv : f t S nx with
  | stuck e => rw [hv] at h; exact h.elim
  | val s => rw [hv] at h; exact .inl ⟨s, rfl, h⟩
  | heap s S' nx' => rw [hv] at h; obtain ⟨h1, h2⟩ := gOn_good h; exact .inr (.inl ⟨s, S', nx', rfl, h1, h2⟩)
  | call f' args =>
    rw [hv] at h
    replace h : Good m r w Q (VO.rec (motive := fun _ => Out) (fun l => .stuck (f' :: l)) (fun s S nx => gOn keep k cb (putS d s t) S nx G) (cb f' args S nx)) := h
    cases hc : cb f' args S nx with
    | stuck e => rw [hc] at h; exact h.elim
    | val s S' nx' => rw [hc] at h; obtain ⟨h1, h2⟩ := gOn_good h; exact .inr (.inr ⟨f', args, s, S', nx', rfl, hc, h1, h2⟩)
/-- A plan that does not get stuck goes on: only the operation's own temporary changes. -/
theorem step_good {all : List Oper} {x : PI} {k : GF} {cb : CB} {t : En} {S : Tr} {nx : Nat} {G : GL} {m : Nat} {r : Pl} {w : World} {Q : Post} (h : Good m r w Q ((runPI T n all x k).go cb t S nx G)) :
    ∃ o, all[x.i]? = some o ∧ dOK n o.dst = true ∧ ∃ s S' nx' G', Good m r w Q (k cb (putS (dstOf o.dst) s t) S' nx' G') := by
  have fin : ∀ (o : Oper) (yes : Gx), all[x.i]? = some o → Good m r w Q ((withG n all o yes (gSkip (dstOf o.dst) k)).go cb t S nx G) → (Good m r w Q (yes.go cb t S nx G) → ∃ s S' nx' G', Good m r w Q (k cb (putS (dstOf o.dst) s t) S' nx' G')) →
      ∃ o, all[x.i]? = some o ∧ dOK n o.dst = true ∧ ∃ s S' nx' G', Good m r w Q (k cb (putS (dstOf o.dst) s t) S' nx' G') := by
    intro o yes ho h hy
    obtain ⟨h1, h2⟩ := withG_good h
    refine ⟨o, ho, h1, ?_⟩
    rcases h2 with ⟨_, h2⟩ | ⟨j, want, d, bb, _, _, _, _, h3, h4⟩
    · exact hy h2
    · cases bb with
      | true => exact hy (h3 rfl)
      | false => exact ⟨_, _, _, _, h4 rfl⟩
  unfold runPI at h
  split at h
  · rename_i i
    split at h
    · rename_i o ho
      refine fin o _ ho h fun hy => ?_
      cases hev : evOf T n o.op with
      | p f => rw [hev] at hy; obtain ⟨s, _, h3⟩ := gP_good hy; exact ⟨_, _, _, _, h3⟩
      | l f => rw [hev] at hy; exact hy.elim
      | m f => rw [hev] at hy; exact hy.elim
      | e f => rw [hev] at hy; exact hy.elim
      | bad => rw [hev] at hy; exact hy.elim
    · exact h.elim
  · rename_i i flag
    split at h
    · rename_i o ho
      refine fin o _ ho h fun hy => ?_
      cases hev : evOf T n o.op with
      | l f =>
        rw [hev] at hy
        cases flag with
        | true => obtain ⟨q, so, _, _, h3⟩ := gLF_good hy; exact ⟨_, _, _, _, h3⟩
        | false => obtain ⟨q, _, h3⟩ := gL_good hy; exact ⟨_, _, _, _, h3⟩
      | p f => rw [hev] at hy; exact hy.elim
      | m f => rw [hev] at hy; exact hy.elim
      | e f => rw [hev] at hy; exact hy.elim
      | bad => rw [hev] at hy; exact hy.elim
    · exact h.elim
  · rename_i i keep
    split at h
    · rename_i o ho
      refine fin o _ ho h fun hy => ?_
      cases hev : evOf T n o.op with
      | p f => rw [hev] at hy; obtain ⟨s, _, h3⟩ := gP_good hy; exact ⟨_, _, _, _, h3⟩
      | l f => rw [hev] at hy; obtain ⟨q, _, h3⟩ := gL_good hy; exact ⟨_, _, _, _, h3⟩
      | m f => rw [hev] at hy; obtain ⟨q, _, h3⟩ := gM_good hy; exact ⟨_, _, _, _, h3⟩
      | e f =>
        rw [hev] at hy
        rcases gE_good hy with ⟨s, _, h3⟩ | ⟨s, S', nx', _, _, h3⟩ | ⟨f', args, s, S', nx', _, _, _, h3⟩ <;> exact ⟨_, _, _, _, h3⟩
      | bad => rw [hev] at hy; exact hy.elim
    · exact h.elim
theorem runPlan_cons {all : List Oper} {x : PI} {l : List PI} : (runPlan T n all (x :: l)).go = (runPI T n all x (runPlan T n all l).go).go := rfl
/-- A maker that the plan comes to later is carried out there: so it can be now. -/
theorem later_good (hn : n ≤ 128) {ops : Array Oper} {l : List PI} {cb : CB} {m : Nat} {r : Pl} {w : World} {Q : Post} {A : Nat} {oA : Oper} {f : MF} (hA : ops[A]? = some oA) (hg : oA.guard = none) (hev : evOf T n oA.op = .m f) {kp : List Nat} :
    ∀ (k p : Nat) (t : En) (S : Tr) (nx : Nat) (G : GL), Good m r w Q ((runPlan T n ops.toList (l.drop p)).go cb t S nx G) → l[p + k]? = some (.s A kp) →
      (∀ (q : Nat) (x : PI) (o : Oper), p ≤ q → q < p + k → l[q]? = some x → ops[x.i]? = some o → ∀ d, o.dst = some d → d ∉ tmpsOf oA.op.operands.toList) → ∃ q, f t = some q
  | 0, p, t, S, nx, G, h, hk, _ => by
    have e : l.drop p = .s A kp :: l.drop (p + 1) := by
      rw [List.drop_eq_getElem?_toList_append]
      rw [Nat.add_zero] at hk
      rw [hk]
      rfl
    rw [e, runPlan_cons] at h
    unfold runPI at h
    have hA' : ops.toList[A]? = some oA := by rw [Array.getElem?_toList]; exact hA
    simp only [hA'] at h
    obtain ⟨_, h2⟩ := withG_good h
    rcases h2 with ⟨_, h2⟩ | ⟨j, want, d, bb, h2, _⟩
    · rw [hev] at h2
      obtain ⟨q, h3, _⟩ := gM_good h2
      exact ⟨q, h3⟩
    · rw [hg] at h2; cases h2
  | k + 1, p, t, S, nx, G, h, hk, hno => by
    have hlt : p < l.length := by have := (List.getElem?_eq_some_iff.1 hk).1; omega
    have e : l.drop p = l[p] :: l.drop (p + 1) := by rw [List.drop_eq_getElem_cons hlt]
    rw [e, runPlan_cons] at h
    obtain ⟨o, ho, hd, s, S', nx', G', h'⟩ := step_good h
    obtain ⟨q, hq⟩ := later_good hn hA hg hev k (p + 1) _ S' nx' G' h' (by rw [← hk]; congr 1; omega) (fun q x o h1 h2 => hno q x o (by omega) (by omega))
    refine ⟨q, ?_⟩
    rw [← hq]
    refine (mOf_same hn (evOf_m hev) (putS_agree o.dst (dOK_ok hd hn) s t fun d hdd => ?_)).symm
    exact hno p l[p] o (Nat.le_refl _) (by omega) (List.getElem?_eq_getElem hlt) (by rw [← Array.getElem?_toList]; exact ho) d hdd
end Go.Proofs.YtgpkpheejefiiaaGreatDoor
end
section
set_option linter.unusedVariables false
set_option linter.unusedSimpArgs false
namespace Go.Proofs.YtgpkpheejefiiaaGreatDoor
open Go.RowKit
variable {P : Program}
theorem eqBool_true {a b : Bool} (h : eqBool a b = true) : a = b := by cases a <;> cases b <;> first | rfl | exact boolno h
theorem eqI_true {a b : Int} (h : eqI a b = true) : a = b := by rw [eqI_eq] at h; simpa using h
mutual
theorem sameSV_ok : ∀ {a b : SV}, sameSV a b = true → a = b
  | .undef, b, h => by cases b <;> first | rfl | (simp [sameSV] at h; done)
  | .nilf, b, h => by cases b <;> first | rfl | (simp [sameSV] at h; done)
  | .nilp, b, h => by cases b <;> first | rfl | (simp [sameSV] at h; done)
  | .nils, b, h => by cases b <;> first | rfl | (simp [sameSV] at h; done)
  | .nilm, b, h => by cases b <;> first | rfl | (simp [sameSV] at h; done)
  | .nili, b, h => by cases b <;> first | rfl | (simp [sameSV] at h; done)
  | .bool x, b, h => by
    cases b <;> first | (simp [sameSV] at h; done) | skip
    rw [sameSV] at h
    rw [eqBool_true h]
  | .int j x, b, h => by
    cases b <;> first | (simp [sameSV] at h; done) | skip
    rw [sameSV] at h
    obtain ⟨h1, h2⟩ := aB_true h
    rw [kEq_true h1, eqI_true h2]
  | .str x, b, h => by
    cases b <;> first | (simp [sameSV] at h; done) | skip
    rw [sameSV] at h
    rw [eqL_eq] at h
    have h2 := eq_of_beq h
    rw [h2]
  | .ptr x y, b, h => by
    cases b <;> first | (simp [sameSV] at h; done) | skip
    rw [sameSV] at h
    obtain ⟨h1, h2⟩ := aB_true h
    rw [Nat.eq_of_beq_eq_true h1, Nat.eq_of_beq_eq_true h2]
  | .slice x y z u, b, h => by
    cases b <;> first | (simp [sameSV] at h; done) | skip
    rw [sameSV] at h
    obtain ⟨h1, h2⟩ := aB_true h
    obtain ⟨h3, h4⟩ := aB_true h1
    obtain ⟨h5, h6⟩ := aB_true h2
    rw [Nat.eq_of_beq_eq_true h3, Nat.eq_of_beq_eq_true h4, Nat.eq_of_beq_eq_true h5, Nat.eq_of_beq_eq_true h6]
  | .own x y z u, b, h => by
    cases b <;> first | (simp [sameSV] at h; done) | skip
    rw [sameSV] at h
    obtain ⟨h1, h2⟩ := aB_true h
    obtain ⟨h3, h4⟩ := aB_true h1
    obtain ⟨h5, h6⟩ := aB_true h2
    rw [Nat.eq_of_beq_eq_true h3, Nat.eq_of_beq_eq_true h4, Nat.eq_of_beq_eq_true h5, Nat.eq_of_beq_eq_true h6]
  | .map x, b, h => by
    cases b <;> first | (simp [sameSV] at h; done) | skip
    rw [sameSV] at h
    rw [Nat.eq_of_beq_eq_true h]
  | .func f x y, b, h => by
    cases b <;> first | (simp [sameSV] at h; done) | skip
    rw [sameSV] at h
    obtain ⟨h1, h2⟩ := aB_true h
    obtain ⟨h3, h4⟩ := aB_true h2
    rw [Nat.eq_of_beq_eq_true h1, sameL_ok h3, sameL_ok h4]
  | .agg x, b, h => by
    cases b <;> first | (simp [sameSV] at h; done) | skip
    rw [sameSV] at h
    rw [sameL_ok h]
  | .tup x, b, h => by
    cases b <;> first | (simp [sameSV] at h; done) | skip
    rw [sameSV] at h
    rw [sameL_ok h]
theorem sameL_ok : ∀ {a b : List SV}, sameL a b = true → a = b
  | [], b, h => by cases b <;> first | rfl | (simp [sameL] at h; done)
  | x :: l, b, h => by
    cases b <;> first | (simp [sameL] at h; done) | skip
    rw [sameL] at h
    obtain ⟨h1, h2⟩ := aB_true h
    rw [sameSV_ok h1, sameL_ok h2]
end
theorem sameE_ok : ∀ {a b : List (Int × SV)}, sameE a b = true → a = b
  | [], b, h => by cases b <;> first | rfl | (simp [sameE] at h; done)
  | x :: l, b, h => by
    cases b <;> first | (simp [sameE] at h; done) | skip
    rw [sameE] at h
    obtain ⟨h1, h2⟩ := aB_true h
    obtain ⟨h3, h4⟩ := aB_true h1
    rw [sameE_ok h2]
    congr 1
    exact Prod.ext (eqI_true h3) (sameSV_ok h4)
theorem sameSO_ok {a b : SO} (h : sameSO a b = true) : a = b := by
  cases a <;> cases b <;> first | (simp [sameSO] at h; done) | skip
  · rw [sameSO] at h
    obtain ⟨h1, h2⟩ := aB_true h
    rw [sameL_ok h1, Nat.eq_of_beq_eq_true h2]
  · rw [sameSO] at h
    obtain ⟨h1, h2⟩ := aB_true h
    obtain ⟨h3, h4⟩ := aB_true h2
    obtain ⟨h5, h6⟩ := aB_true h3
    rw [sameL_ok h1, Nat.eq_of_beq_eq_true h5, Nat.eq_of_beq_eq_true h6, Nat.eq_of_beq_eq_true h4]
  · rw [sameSO] at h
    rw [sameL_ok h]
  · rw [sameSO] at h
    rw [sameE_ok h]
theorem keepOK_ok {keep : List Nat} {G : GL} {S : Tr} (h : keep = [] ∨ keepOK keep G S = true) {i g : Nat} {so : SO} (hi : i ∈ keep) (hg : (i, g, so) ∈ G) : atT S g = some so := by
  rcases h with h | h
  · rw [h] at hi; cases hi
  · unfold keepOK at h
    have h := List.all_eq_true.1 h _ hg
    simp only at h
    have hc : keep.contains i = true := by simpa using hi
    rw [hc] at h
    cases hq : atT S g with
    | none => rw [hq] at h; simp [nB_eq] at h
    | some o =>
      rw [hq] at h
      have h2 : sameSO o so = true := by simpa [nB_eq] using h
      rw [sameSO_ok h2]
variable {T : Tab P} {n : Nat} {ops : Array Oper} {l : List PI} {up : Nat → Nat → Prop} {early : Nat → Prop}
  {cb : CB} {Q : Post} {r0 : Pl} {w0 : World} {p : Nat} {L : Array Bool} {a : Go.Act} {w : World} {r : Pl} {b : Go.Act} {t : En} {S : Tr} {nx : Nat} {G : GL} {B : Nat → Nat}
/-- A maker is really carried out before the plan comes to it. -/
theorem Inv.ahead (hpl : PlanOK T n ops l up early) (hT : TabOK T) (hI : Inv T n ops l early cb Q r0 w0 p L a w r b t S nx G B) {A : Nat} {o : Oper} (ho : ops[A]? = some o) (hD : ¬ Done l p A) (hL : L.getD A false = false) (hw : ∀ j, Waits o j → L.getD j false = true) (hwD : ∀ j, Waits o j → Done l p j) (he : early A)
    {K : Go.Act → World → Prop} {Q' : Post} (hK : ∀ v w' B', Inv T n ops l early cb Q r0 w0 p (L.setIfInBounds A true) (a.put o.dst v) w' r b t S nx G B' → K (a.put o.dst v) w') : wpOp P ops Q' A K a w := by
  have hAs : A < ops.size := (Array.getElem?_eq_some_iff.1 ho).1
  have hAL : A < L.size := by rw [hI.len]; exact hAs
  have hsel := Region.noSelect_spec hpl.nosel
  have hsame := hI.reads hpl ho hL hw hwD
  obtain ⟨o', f, ho', hg, hev, kp, hkp⟩ := hpl.mkr A he
  rw [ho] at ho'
  obtain rfl := Option.some.inj ho'
  -- where the plan comes to it
  obtain ⟨pA, hpA⟩ := List.mem_iff_getElem?.1 hkp
  have hge : p ≤ pA := Nat.le_of_not_lt fun hlt => hD (done_of hlt hpA rfl)
  obtain ⟨⟨so, sh⟩, hf⟩ := later_good hI.env.le ho hg hev (pA - p) p t S nx G hI.good (by rw [show p + (pA - p) = pA by omega]; exact hpA) (fun q x ox h1 h2 hx hox d hd hm => by
    have hm2 : d ∈ o.looksAt ops := List.mem_append_left _ hm
    have hnq : ¬ Done l p x.i := fun h => by
      obtain ⟨k, y, k1, k2, k3⟩ := done_at h
      have := hpl.once _ _ _ _ k2 hx k3
      omega
    have hux : ∀ c, up A c → Done l p c := fun c h => by
      obtain ⟨o2, ho2, e, hwe, he2⟩ := hpl.anc _ _ h
      rw [ho] at ho2
      obtain rfl := Option.some.inj ho2
      rcases he2 with rfl | he2
      · exact hwD _ hwe
      · exact anc_done hpl (hwD _ hwe) he2
    rcases hpl.rd _ _ _ _ _ hox hd ho hm2 with h | ⟨_, _, h⟩
    · exact hnq (hux _ h)
    · rcases h with h | h
      · have := hpl.once _ _ _ _ hpA hx h
        omega
      · obtain ⟨k, y, k1, k2, k3⟩ := done_at (anc_lt hpl hx h)
        have := hpl.once _ _ _ _ k2 hpA k3
        omega)
  obtain ⟨v, y, k1, k2, k3⟩ := mOf_ok hT (evOf_m hev) hI.env hf
  have hwanted : Region.wanted o (yielded ops a.tmps) = true := by unfold Region.wanted; rw [hg]
  unfold Go.wpOp
  simp only [ho]
  rw [if_pos hwanted]
  refine .inl ?_
  unfold Oper.wp
  rw [exec_same (fun cs bb => hsel _ _ cs bb ho) hsame, k1 w]
  refine hK (v w.heap.size) (w.alloc y) (fun i => if i = A then w.heap.size else B i) ?_
  have hbel := Bel.alloc w y
  refine ⟨hI.hp, by simp [hI.len], ?_, hI.le, hI.sim.bel hbel, hI.env, hI.upd.trans (Upd.of_bel hbel), ?_, ?_, ?_, ?_, ?_, ?_, ?_, ?_, hI.good⟩
  · intro j hj oj hoj e he'
    rw [getD_set hAL] at hj ⊢
    rcases hj with rfl | hj
    · rw [ho] at hoj
      obtain rfl := Option.some.inj hoj
      exact .inr (hw e he')
    · exact .inr (hI.down j hj oj hoj e he')
  · cases hdst : o.dst with
    | none => exact hI.size
    | some k => simp [Act.put, hI.size]
  · cases hdst : o.dst with
    | none => exact hI.def'
    | some k => exact hI.def'
  · intro d hdd
    have hne : o.dst ≠ some d := fun e => hD ((hdd _ _ ho e).2 ((getD_set hAL).2 (.inl rfl)))
    rw [put_other hne]
    refine hI.same d fun i oi hi hdi => ?_
    rw [hdd i oi hi hdi, getD_set hAL]
    constructor
    · rintro (rfl | h)
      · rw [ho] at hi
        obtain rfl := Option.some.inj hi
        exact absurd hdi hne
      · exact h
    · exact .inr
  · intro i oi hi hDi hLi
    obtain ⟨fl, z1, v', z2, z3⟩ := hI.lag i oi hi hDi ((getD_set_f hAL).1 hLi).2
    exact ⟨fl, z1, v', z2, z3.to (Pl.le_refl r) fun g so' _ k _ => k.bel hbel⟩
  · intro i oi hi hDi hLi
    rcases (getD_set hAL).1 hLi with rfl | hLi
    · rw [ho] at hi
      obtain rfl := Option.some.inj hi
      refine ⟨f, so, sh, v w.heap.size, y, hg, hev, ⟨kp, hkp⟩, hf, ?_, ?_, ?_, fun r' hr => k2 r' hr, fun r' g hr hrg => ?_, fun d hd hn => ?_⟩
      · rw [if_pos rfl]
        rintro ⟨g, d, e⟩
        have := (hI.sim.dom _ _ _ e).1
        omega
      · rw [if_pos rfl]
        exact hI.upd.size
      · rw [if_pos rfl]
        show (w.heap.push y)[w.heap.size]? = some y
        simp
      · rw [if_pos rfl] at hrg
        exact k3 r' g _ hr hrg
      · rw [hd]
        exact put_self hI.size hn
    · have hne : i ≠ A := fun e => by rw [e, hL] at hLi; cases hLi
      obtain ⟨f2, so2, sh2, v2, y2, z1, z2, z3, z4, z5, z6, z7, z8, z9, z10⟩ := hI.lead i oi hi hDi hLi
      refine ⟨f2, so2, sh2, v2, y2, z1, z2, z3, z4, ?_, ?_, ?_, z8, ?_, fun d hd hn => ?_⟩
      · rw [if_neg hne]; exact z5
      · rw [if_neg hne]; exact z6
      · rw [if_neg hne]; exact blk_below z7 hbel
      · rw [if_neg hne]; exact z9
      · rw [put_other (fun e => hne (hpl.dst _ _ _ _ _ hi ho hd e))]
        exact z10 d hd hn
  · intro i hDi hLi
    rcases (getD_set hAL).1 hLi with rfl | hLi
    · exact he
    · exact hI.leadE i hDi hLi
  · intro i oi hi hDi hLi
    rcases (getD_set hAL).1 hLi with rfl | hLi
    · rw [ho] at hi
      obtain rfl := Option.some.inj hi
      exact hwD
    · exact hI.leadW i oi hi hDi hLi
  · have hlt : ∀ i, i < ops.size → ¬ Done l p i → L.getD i false = true → B i < w.heap.size := fun i hi h1 h2 => by
      obtain ⟨f2, so2, sh2, v2, y2, _, _, _, _, _, _, z7, _⟩ := hI.lead i ops[i] (Array.getElem?_eq_getElem hi) h1 h2
      exact blk_lt z7
    intro i j hi hj h1 h2 h3 h4 h5
    rw [getD_set hAL] at h2 h4
    by_cases e1 : i = A <;> by_cases e2 : j = A
    · rw [e1, e2]
    · have h4 := h4.resolve_left e2
      rw [if_pos e1, if_neg e2] at h5
      have := hlt j hj h3 h4
      omega
    · have h2 := h2.resolve_left e1
      rw [if_neg e1, if_pos e2] at h5
      have := hlt i hi h1 h2
      omega
    · rw [if_neg e1, if_neg e2] at h5
      exact hI.leads i j hi hj h1 (h2.resolve_left e1) h3 (h4.resolve_left e2) h5
end Go.Proofs.YtgpkpheejefiiaaGreatDoor
end
