/- The cache: what it is, and what keeps it. | The cache: a row is looked up; room; the keys of a touched turn. | The cache: a stripe is opened; a key is pinned. | The cache: a shelf takes a text; Put. | The cache: Put. | The cache: Have. -/
import Derived.Test.YtgpkpheejefiiaaGreatDoorX18
section
set_option linter.unusedVariables false
set_option linter.unusedSimpArgs false
namespace Go.Proofs.YtgpkpheejefiiaaGreatDoor
open Go.RowKit
set_option maxRecDepth 100000
structure I4 where
  a : Int
  b : Int
  c : Int
  d : Int
/-- the cells of an entry -/
def enC (n : Nat) (x y z : I4) (g1 g2 : Nat) : Array Value := #[.int .u64 x.a, .int .u64 x.b, .int .u64 x.c, .int .u64 x.d, .slice (some ⟨g1, 0, none⟩) n n, .int .u64 y.a, .int .u64 y.b, .int .u64 y.c, .int .u64 y.d, .slice (some ⟨g2, 0, none⟩) n n, .int .u64 z.a, .int .u64 z.b, .int .u64 z.c, .int .u64 z.d]
def Texts (w : World) (n g : Nat) : Prop := ∃ cs, w.heap[g]? = some (.cells cs 9 (0, 0)) ∧ cs.size = n
def IsEn (w : World) (base n e : Nat) : Prop := ∃ x y z g1 g2, w.heap[e]? = some (.cells (enC n x y z g1 g2) 191 (0, 0)) ∧ Texts w n g1 ∧ Texts w n g2 ∧ base ≤ e ∧ base ≤ g1 ∧ base ≤ g2
structure CA where
  g : Nat
  t : TA
  m : Nat
structure CS where
  t : TS
  ks : List (Int × Nat)
  n : Nat
def rowsM (ks : List (Int × Nat)) : List (Int × SV) := ks.map fun p => (p.1, SV.ptr p.2 0)
structure IsC0 (w : World) (base : Nat) (a : CA) (s : CS) : Prop where
  blk : w.heap[a.g]? = some (.cells #[PTR a.t.g, .int .i64 s.n, .map (some a.m)] 197 (0, 0))
  turn : IsT w base a.t s.t
  kept : ∃ es, RM w a.t.mp es
  rows : RM w a.m (rowsM s.ks)
  ens : ∀ p ∈ s.ks, IsEn w base s.n p.2
  mne : a.m ≠ a.t.mp
  b1 : base ≤ a.t.g
  b2 : base ≤ a.m
  b3 : base ≤ a.t.mp
structure CLaw (s : CS) : Prop where
  nd : (s.t.P ++ s.t.D).Nodup
  nk : (s.ks.map (·.1)).Nodup
  same : ∀ k, k ∈ s.t.P ++ s.t.D ↔ k ∈ s.ks.map (·.1)
  rng : ∀ k ∈ s.ks.map (·.1), 0 ≤ k ∧ k < 6
  most : s.t.most = 6
  lim : 0 ≤ s.t.limit
  n1 : 2 ≤ s.n
  n2 : s.n ≤ 5
structure IsC (w : World) (base : Nat) (a : CA) (s : CS) : Prop extends IsC0 w base a s, CLaw s
def cKind (o : Obj) : Prop := ∃ cs t fr, o = .cells cs t fr ∧ (t = 287 ∨ t = 3 ∨ t = 191 ∨ t = 9)
/-- What a call on the cache may write. -/
structure Kc (base m1 m2 : Nat) (w w' : World) : Prop where
  os : w'.os = w.os
  tape : w'.tape = w.tape
  output : w'.output = w.output
  size : w.heap.size ≤ w'.heap.size
  blk : ∀ k, k < w.heap.size → (k < base ∨ (k ≠ m1 ∧ k ≠ m2 ∧ ∀ o, w.heap[k]? = some o → ¬ cKind o)) → w'.heap[k]? = w.heap[k]?
theorem Kc.of_bel {base m1 m2 : Nat} {w w' : World} (h : Bel w w') : Kc base m1 m2 w w' := ⟨h.os, h.tape, h.output, h.size, fun k hk _ => h.block k hk⟩
theorem Kc.refl (base m1 m2 : Nat) (w : World) : Kc base m1 m2 w w := Kc.of_bel (Bel.refl w)
theorem Kc.trans {base m1 m2 : Nat} {a b c : World} (h : Kc base m1 m2 a b) (k : Kc base m1 m2 b c) : Kc base m1 m2 a c :=
  ⟨k.os.trans h.os, k.tape.trans h.tape, k.output.trans h.output, Nat.le_trans h.size k.size, fun i hi hc => by
    have e := h.blk i hi hc
    refine (k.blk i (Nat.lt_of_lt_of_le hi h.size) (hc.imp id fun ⟨h1, h2, h3⟩ => ⟨h1, h2, fun o ho => h3 o (e ▸ ho)⟩)).trans e⟩
theorem Kc.of_upd {F F' : Nat → Prop} {base m1 m2 : Nat} {w w' : World} (h : Upd F w F' w') (hF : ∀ k, F k → base ≤ k ∧ (k = m1 ∨ k = m2 ∨ ∃ o, w.heap[k]? = some o ∧ cKind o)) : Kc base m1 m2 w w' :=
  ⟨h.os, h.tape, h.output, h.size, fun k hk hc => h.blk k hk fun hf => by
    obtain ⟨h1, h2⟩ := hF k hf
    rcases hc with hc | ⟨c1, c2, c3⟩
    · omega
    · rcases h2 with e | e | ⟨o, ho, hk⟩
      · exact c1 e
      · exact c2 e
      · exact c3 o ho hk⟩
theorem Kc.of_set {base m1 m2 : Nat} {w : World} (p : Addr) (u : Value) (hb : base ≤ p.block) {o : Obj} (ho : w.heap[p.block]? = some o) (hk : cKind o) : Kc base m1 m2 w (w.setCell p u) :=
  Kc.of_upd (F := fun k => k = p.block) (F' := fun k => k = p.block) (Upd.of_set (F := fun k => k = p.block) p rfl u) fun k e => by subst e; exact ⟨hb, .inr (.inr ⟨o, ho, hk⟩)⟩
theorem Kc.of_grown {base m1 m2 : Nat} {w w' : World} {r : Nat} (h : w.grownBy w' (some r)) (hb : base ≤ r) (hr : r = m1 ∨ r = m2 ∨ ∃ o, w.heap[r]? = some o ∧ cKind o) : Kc base m1 m2 w w' :=
  Kc.of_upd (F := fun k => k = r) (F' := fun k => k = r) (Upd.of_grown (F := fun k => k = r) h fun k e => (Option.some.inj e).symm) fun k e => by subst e; exact ⟨hb, hr⟩
theorem Kc.below {base m1 m2 : Nat} {w0 w w' : World} (hb : Bel w0 w) (h : Kc base m1 m2 w w') (h0 : w0.heap.size ≤ base) : Bel w0 w' :=
  ⟨h.os.trans hb.os, h.tape.trans hb.tape, h.output.trans hb.output, Nat.le_trans hb.size h.size, fun k hk => (h.blk k (Nat.lt_of_lt_of_le hk hb.size) (.inl (by omega))).trans (hb.block k hk)⟩
theorem Kc.keep {base m1 m2 : Nat} {w w' : World} (h : Kc base m1 m2 w w') {k : Nat} {o : Obj} (hk : w.heap[k]? = some o) (h1 : k ≠ m1) (h2 : k ≠ m2) (ho : ¬ cKind o) : w'.heap[k]? = some o :=
  (h.blk k (blk_lt hk) (.inr ⟨h1, h2, fun o' e => by rw [hk] at e; cases e; exact ho⟩)).trans hk
theorem cKind_cells {cs : Array Value} {t : TypeId} {fr : Nat × Nat} (h1 : t ≠ 287) (h2 : t ≠ 3) (h3 : t ≠ 191) (h4 : t ≠ 9) : ¬ cKind (.cells cs t fr) := fun ⟨_, _, _, e, h⟩ => by cases e; rcases h with h | h | h | h <;> contradiction
theorem cKind_map {es : Array MapEntry} {c : Nat} : ¬ cKind (.map es c) := fun ⟨_, _, _, e, _⟩ => by cases e
/-- What a turn stands on: blocks of two types. -/
theorem IsT.kinds {w : World} {base : Nat} {a : TA} {s : TS} (h : IsT w base a s) {k : Nat} (hk : a.F k) : ∃ cs t, w.heap[k]? = some (.cells cs t (0, 0)) ∧ (t = 287 ∨ t = 3) := by
  rcases hk with rfl | hk | hk
  · exact ⟨_, _, h.blk, .inl rfl⟩
  · obtain ⟨_, cs, e⟩ := h.p.blk hk
    exact ⟨cs, 3, e, .inr rfl⟩
  · obtain ⟨_, cs, e⟩ := h.d.blk hk
    exact ⟨cs, 3, e, .inr rfl⟩
theorem IsT.kc {w w' : World} {base m1 m2 : Nat} {a : TA} {s : TS} {F' : Nat → Prop} (h : IsT w base a s) (hg : base ≤ a.g) (u : Upd a.F w F' w') : Kc base m1 m2 w w' :=
  Kc.of_upd u fun k hk => by
    refine ⟨?_, ?_⟩
    · rcases hk with rfl | hk | hk
      · exact hg
      · exact (h.p.blk hk).1
      · exact (h.d.blk hk).1
    · obtain ⟨cs, t, e, ht⟩ := h.kinds hk
      exact .inr (.inr ⟨_, e, cs, t, _, rfl, by rcases ht with h | h <;> simp [h]⟩)
theorem IsT.off {w w' : World} {base : Nat} {a : TA} {s : TS} {F' : Nat → Prop} (h : IsT w base a s) (u : Upd a.F w F' w') {k : Nat} {o : Obj} (hk : w.heap[k]? = some o) (ho : ∀ cs, o ≠ .cells cs 287 (0, 0) ∧ o ≠ .cells cs 3 (0, 0)) : w'.heap[k]? = some o :=
  (u.blk k (blk_lt hk) fun hf => by
    obtain ⟨cs, t, e, ht⟩ := h.kinds hf
    rw [hk] at e
    cases e
    rcases ht with rfl | rfl
    · exact (ho cs).1 rfl
    · exact (ho cs).2 rfl).trans hk
/-- The turn has been called; its keys are the same. -/
theorem IsEn.off {w w' : World} {base n e : Nat} (h : IsEn w base n e) (H : ∀ (k : Nat) (cs : Array Value) (t : TypeId), w.heap[k]? = some (Obj.cells cs t (0, 0)) → (t = 191 ∨ t = 9) → w'.heap[k]? = some (Obj.cells cs t (0, 0))) : IsEn w' base n e := by
  obtain ⟨x, y, z, g1, g2, h1, ⟨c1, h2, h3⟩, ⟨c2, h4, h5⟩, h6⟩ := h
  exact ⟨x, y, z, g1, g2, H _ _ _ h1 (.inl rfl), ⟨c1, H _ _ _ h2 (.inr rfl), h3⟩, ⟨c2, H _ _ _ h4 (.inr rfl), h5⟩, h6⟩
theorem RM.off {w w' : World} {b : Nat} {es : List (Int × SV)} (h : RM w b es) (H : ∀ (k : Nat) (o : Obj), w.heap[k]? = some o → (∃ l c, o = Obj.map l c) → w'.heap[k]? = some o) : RM w' b es := by
  obtain ⟨l, clk, h1, h2⟩ := h
  exact ⟨l, clk, H _ _ h1 ⟨_, _, rfl⟩, h2⟩
theorem IsC0.turned {w w' : World} {base : Nat} {a : CA} {s : CS} {t' : TA} {s' : TS} (h : IsC0 w base a s) (ht : IsT w' base t' s') (u : Upd a.t.F w t'.F w') (hg : t'.g = a.t.g) (hm : t'.mp = a.t.mp) :
    IsC0 w' base { a with t := t' } { s with t := s' } := by
  have hoff := fun k o hk ho => h.turn.off (k := k) (o := o) u hk ho
  refine ⟨?_, ht, ?_, ?_, ?_, ?_, ?_, h.b2, ?_⟩
  · show w'.heap[a.g]? = some (.cells #[PTR t'.g, _, _] 197 (0, 0))
    rw [hg]
    exact hoff _ _ h.blk (fun cs => by simp)
  · obtain ⟨es, k⟩ := h.kept
    show ∃ es, RM w' t'.mp es
    rw [hm]
    exact ⟨es, k.off fun k o hk ⟨l, c, e⟩ => hoff k o hk (fun cs => by subst e; simp)⟩
  · exact h.rows.off fun k o hk ⟨l, c, e⟩ => hoff k o hk (fun cs => by subst e; simp)
  · exact fun p hp => (h.ens p hp).off fun k cs t hk ht => hoff k _ hk (fun cs' => by rcases ht with rfl | rfl <;> constructor <;> (intro e; cases e))
  · show a.m ≠ t'.mp
    rw [hm]; exact h.mne
  · show base ≤ t'.g
    rw [hg]; exact h.b1
  · show base ≤ t'.mp
    rw [hm]; exact h.b3
theorem CLaw.turned {s : CS} {s' : TS} (h : CLaw s) (hp : (s'.P ++ s'.D).Perm (s.t.P ++ s.t.D)) (hmo : s'.most = s.t.most) (hli : s'.limit = s.t.limit) : CLaw { s with t := s' } :=
  ⟨hp.nodup_iff.2 h.nd, h.nk, fun k => by rw [← h.same k]; exact hp.mem_iff, h.rng, hmo.trans h.most, by show 0 ≤ s'.limit; rw [hli]; exact h.lim, h.n1, h.n2⟩
theorem IsC0.bel {w w' : World} {base : Nat} {a : CA} {s : CS} (h : IsC0 w base a s) (k : Bel w w') : IsC0 w' base a s :=
  ⟨blk_below h.blk k, h.turn.bel k, h.kept.imp fun _ e => e.bel k, h.rows.bel k, fun p hp => (h.ens p hp).off fun _ _ _ hk _ => blk_below hk k, h.mne, h.b1, h.b2, h.b3⟩
theorem IsC.bel {w w' : World} {base : Nat} {a : CA} {s : CS} (h : IsC w base a s) (k : Bel w w') : IsC w' base a s := ⟨h.toIsC0.bel k, h.toCLaw⟩
/-- One map is another: nothing else has changed. -/
theorem IsC0.mapped {w w' : World} {base : Nat} {a : CA} {s : CS} (h : IsC0 w base a s) {r : Nat} (hg : w.grownBy w' (some r)) (hr : r = a.m ∨ r = a.t.mp) {ks : List (Int × Nat)} (hk : ∃ es, RM w' a.t.mp es) (hro : RM w' a.m (rowsM ks)) (he : ∀ p ∈ ks, IsEn w base s.n p.2) :
    IsC0 w' base a { s with ks := ks } := by
  have hm : ∃ l c, w.heap[r]? = some (.map l c) := by
    rcases hr with rfl | rfl
    · obtain ⟨l, c, e, _⟩ := h.rows; exact ⟨_, _, e⟩
    · obtain ⟨_, l, c, e, _⟩ := h.kept; exact ⟨_, _, e⟩
  have hoff : ∀ (k : Nat) (cs : Array Value) (t : TypeId), w.heap[k]? = some (Obj.cells cs t (0, 0)) → w'.heap[k]? = some (Obj.cells cs t (0, 0)) := fun k cs t e => by
    refine (hg.block k (blk_lt e) fun e' => ?_).trans e
    obtain ⟨l, c, e2⟩ := hm
    cases e'
    rw [e] at e2
    cases e2
  refine ⟨hoff _ _ _ h.blk, h.turn.agree fun k hk => ?_, hk, hro, fun p hp => (he p hp).off fun k cs t hk _ => hoff k cs t hk, h.mne, h.b1, h.b2, h.b3⟩
  obtain ⟨cs, t, e, _⟩ := h.turn.kinds hk
  rw [hoff _ _ _ e, e]
/-- An entry's words are others; a text is another. -/
theorem IsC0.shape {w w' : World} {base : Nat} {a : CA} {s : CS} (h : IsC0 w base a s) (H : ∀ (k : Nat) (o : Obj), w.heap[k]? = some o → w'.heap[k]? = some o ∨ (∃ x y z g1 g2 x' y' z', o = Obj.cells (enC s.n x y z g1 g2) 191 (0, 0) ∧ w'.heap[k]? = some (Obj.cells (enC s.n x' y' z' g1 g2) 191 (0, 0))) ∨ (∃ cs cs', o = Obj.cells cs 9 (0, 0) ∧ w'.heap[k]? = some (Obj.cells cs' 9 (0, 0)) ∧ cs'.size = cs.size)) :
    IsC0 w' base a s := by
  have hoff : ∀ (k : Nat) (o : Obj), w.heap[k]? = some o → (∀ cs, o ≠ .cells cs 191 (0, 0)) → (∀ cs, o ≠ .cells cs 9 (0, 0)) → w'.heap[k]? = some o := fun k o hk h1 h2 => by
    rcases H k o hk with e | ⟨_, _, _, _, _, _, _, _, e, _⟩ | ⟨_, _, e, _⟩
    · exact e
    · exact absurd e (h1 _)
    · exact absurd e (h2 _)
  have htx : ∀ g, Texts w s.n g → Texts w' s.n g := fun g ⟨cs, e, hs⟩ => by
    rcases H g _ e with e' | ⟨_, _, _, _, _, _, _, _, e', _⟩ | ⟨c, c', e', e2, e3⟩
    · exact ⟨cs, e', hs⟩
    · cases e'
    · cases e'; exact ⟨c', e2, e3.trans hs⟩
  refine ⟨hoff _ _ h.blk (fun _ e => by cases e) (fun _ e => by cases e), h.turn.agree fun k hk => ?_, ?_, ?_, fun p hp => ?_, h.mne, h.b1, h.b2, h.b3⟩
  · obtain ⟨cs, t, e, ht⟩ := h.turn.kinds hk
    rw [hoff _ _ e (fun _ e => by rcases ht with rfl | rfl <;> cases e) (fun _ e => by rcases ht with rfl | rfl <;> cases e), e]
  · obtain ⟨es, k⟩ := h.kept
    exact ⟨es, k.off fun k o hk ⟨l, c, e⟩ => hoff k o hk (fun _ e' => by subst e; cases e') (fun _ e' => by subst e; cases e')⟩
  · exact h.rows.off fun k o hk ⟨l, c, e⟩ => hoff k o hk (fun _ e' => by subst e; cases e') (fun _ e' => by subst e; cases e')
  · obtain ⟨x, y, z, g1, g2, h1, h2, h3, h4⟩ := h.ens p hp
    rcases H _ _ h1 with e' | ⟨x0, y0, z0, k1, k2, x', y', z', e', e2⟩ | ⟨c, c', e', e2, e3⟩
    · exact ⟨x, y, z, g1, g2, e', htx _ h2, htx _ h3, h4⟩
    · simp only [Obj.cells.injEq, enC] at e'
      have e1 := e'.1
      simp only [Array.mk.injEq, List.cons.injEq, Value.slice.injEq, Option.some.injEq, Addr.mk.injEq] at e1
      obtain ⟨_, _, _, _, ⟨⟨k1e, _⟩, _⟩, _, _, _, _, ⟨⟨k2e, _⟩, _⟩, _⟩ := e1
      subst k1e k2e
      exact ⟨x', y', z', g1, g2, e2, htx _ h2, htx _ h3, h4⟩
    · cases e'
end Go.Proofs.YtgpkpheejefiiaaGreatDoor
end
section
set_option linter.unusedVariables false
set_option linter.unusedSimpArgs false
namespace Go.Proofs.YtgpkpheejefiiaaGreatDoor
open Go.RowKit
set_option maxRecDepth 100000
theorem outL_perm {l : List Int} {key : Int} (h : key ∈ l) : l.Perm (key :: outL l key) := by
  unfold outL
  rw [if_pos h]
  have hi := List.idxOf_lt_length_iff.2 h
  have e : l = l.take (l.idxOf key) ++ key :: l.drop (l.idxOf key + 1) := by
    have h1 := List.drop_eq_getElem_cons hi
    rw [List.getElem_idxOf] at h1
    rw [← h1, List.take_append_drop]
  have hp : (l.take (l.idxOf key) ++ key :: l.drop (l.idxOf key + 1)).Perm (key :: (l.take (l.idxOf key) ++ l.drop (l.idxOf key + 1))) := List.perm_middle
  rwa [← e] at hp
theorem outL_not {l : List Int} {key : Int} (h : key ∉ l) : outL l key = l := by unfold outL; rw [if_neg h]
theorem fallS_perm (s : TS) : ((fallS s).P ++ (fallS s).D).Perm (s.P ++ s.D) := by
  unfold fallS
  split
  · simp only [List.append_assoc, List.take_append_drop]
    exact List.Perm.refl _
  · exact List.Perm.refl _
theorem fallS_most (s : TS) : (fallS s).most = s.most ∧ (fallS s).limit = s.limit := by unfold fallS; split <;> exact ⟨rfl, rfl⟩
theorem touchS_most (s : TS) (key : Int) : (touchS s key).most = s.most ∧ (touchS s key).limit = s.limit := by
  unfold touchS
  split
  · exact fallS_most _
  · exact ⟨rfl, rfl⟩
theorem touchS_perm (s : TS) (key : Int) (h : key ∈ s.P ++ s.D) (hnd : (s.P ++ s.D).Nodup) : ((touchS s key).P ++ (touchS s key).D).Perm (s.P ++ s.D) := by
  unfold touchS
  rw [if_pos (by simpa using h)]
  refine (fallS_perm _).trans ?_
  show (outL s.P key ++ (outL s.D key ++ [key])).Perm _
  by_cases hp : key ∈ s.P
  · have hd : key ∉ s.D := fun hd => by
      have := (List.nodup_append.1 hnd).2.2 key hp key hd
      exact this rfl
    rw [outL_not hd, ← List.append_assoc]
    refine List.perm_append_comm.trans ?_
    show (key :: (outL s.P key ++ s.D)).Perm _
    exact (List.Perm.append_right s.D (outL_perm hp)).symm
  · have hd : key ∈ s.D := by simpa [hp] using h
    rw [outL_not hp]
    refine List.Perm.append_left _ ?_
    exact List.perm_append_comm.trans (outL_perm hd).symm
theorem findM_rows (ks : List (Int × Nat)) (k : Int) : (k ∉ ks.map (·.1) → findM (rowsM ks) k = none) ∧ (∀ p ∈ ks, (ks.map (·.1)).Nodup → p.1 = k → findM (rowsM ks) k = some (.ptr p.2 0)) := by
  induction ks with
  | nil => exact ⟨fun _ => rfl, fun p hp => by simp at hp⟩
  | cons q ks ih =>
    have e : findM (rowsM (q :: ks)) k = if q.1 = k then some (.ptr q.2 0) else findM (rowsM ks) k := by
      show bI (eqI q.1 k) (some (SV.ptr q.2 0)) (findM (rowsM ks) k) = _
      rw [bI_eq, eqI_eq]
      by_cases h : q.1 = k <;> simp [h]
    refine ⟨fun h => ?_, fun p hp hnd hk => ?_⟩
    · simp only [List.map_cons, List.mem_cons, not_or] at h
      rw [e, if_neg (fun e => h.1 e.symm)]
      exact ih.1 h.2
    · rw [e]
      simp only [List.map_cons, List.nodup_cons] at hnd
      rcases List.mem_cons.1 hp with rfl | hp
      · rw [if_pos hk]
      · rw [if_neg (fun e => hnd.1 (by rw [e, ← hk]; exact List.mem_map.2 ⟨p, hp, rfl⟩))]
        exact ih.2 p hp hnd.2 hk
theorem putM_rows (ks : List (Int × Nat)) (k : Int) (e : Nat) (h : k ∉ ks.map (·.1)) : putM (rowsM ks) k (.ptr e 0) = rowsM (ks ++ [(k, e)]) := by
  induction ks with
  | nil => rfl
  | cons q ks ih =>
    show bI (eqI q.1 k) ((k, SV.ptr e 0) :: rowsM ks) ((q.1, SV.ptr q.2 0) :: putM (rowsM ks) k (.ptr e 0)) = _
    simp only [List.map_cons, List.mem_cons, not_or] at h
    rw [bI_eq, eqI_eq, if_neg (by simpa using fun e => h.1 e.symm), ih h.2]
    rfl
theorem nil92 (w : World) (p : Option Addr) : (binOp .eql 92 (.pointer p) (.pointer none)).run Tryz.prog w = .ok (.bool p.isNone) w := run_eql_pointer_nil (P := Tryz.prog) w 92 p Tryz.underlying92
set_option maxHeartbeats 4000000 in
theorem row102 (w : World) (base : Nat) (a : CA) (s : CS) (k : Int) (h : IsC w base a s) (v : Value) (hv : (k ∉ s.ks.map (·.1) ∧ v = .pointer none) ∨ ∃ p ∈ s.ks, p.1 = k ∧ v = PTR p.2) :
    Calls Tryz.prog 102 #[PTR a.g, .int .i64 k] w fun e w' => e = .returned v ∧ Bel w w' := by
  have hl : ∀ w', Bel w w' → (Instr.lookup 195 (.map (some a.m)) (.int .i64 k) false).run Tryz.prog w' = .ok v w' := fun w' hb => by
    have hr := (h.bel hb).rows.look k
    rcases hv with ⟨h1, rfl⟩ | ⟨p, hp, hk, rfl⟩
    · exact hr.1 ((findM_rows s.ks k).1 h1)
    · exact hr.2 p.2 ((findM_rows s.ks k).2 p hp h.nk hk)
  have hl0 := hl w (Bel.refl w)
  have hn := nil92
  have c2 := blk_cell h.blk 2
  clear h hl hv
  go_enter Tryz.func102, Tryz.ntmps102
  go_wp2_with fail
  go_ret
  exact ⟨rfl, Bel.refl w⟩
theorem pigeonN : ∀ (n : Nat) {l : List Int}, l.Nodup → (∀ k ∈ l, 0 ≤ k ∧ k < n) → l.length ≤ n
  | 0, l, hnd, hr => by
    cases l with
    | nil => exact Nat.le_refl _
    | cons x l => have := hr x (by simp); omega
  | n + 1, l, hnd, hr => by
    have h := pigeonN n (l := l.erase (n : Int)) (hnd.erase _) (fun k hk => by
      have h1 := (hnd.mem_erase_iff).1 hk
      have h2 := hr k h1.2
      have h3 := h1.1
      omega)
    rw [List.length_erase] at h
    split at h <;> omega
theorem pigeon {l : List Int} (hnd : l.Nodup) (hr : ∀ k ∈ l, 0 ≤ k ∧ k < 6) : l.length ≤ 6 := pigeonN 6 hnd hr
theorem IsC.len {w : World} {base : Nat} {a : CA} {s : CS} (h : IsC w base a s) : s.t.P.length + s.t.D.length ≤ 6 := by
  have := pigeon h.nd (fun k hk => h.rng k ((h.same k).1 hk))
  simpa using this
theorem IsC.room {w : World} {base : Nat} {a : CA} {s : CS} (h : IsC w base a s) {k : Int} (h0 : 0 ≤ k) (h1 : k < 6) (hk : k ∉ s.ks.map (·.1)) : s.t.P.length + s.t.D.length < 6 := by
  have := pigeon (l := k :: (s.t.P ++ s.t.D)) (List.nodup_cons.2 ⟨fun e => hk ((h.same k).1 e), h.nd⟩) (fun x hx => by
    rcases List.mem_cons.1 hx with rfl | hx
    · exact ⟨h0, h1⟩
    · exact h.rng x ((h.same x).1 hx))
  simp at this
  omega
set_option maxHeartbeats 4000000 in
/-- There is room. -/
theorem place151 (w : World) (base : Nat) (a : CA) (s : CS) (h : IsC w base a s) (hr : s.t.P.length + s.t.D.length < 6) :
    Calls Tryz.prog 151 #[PTR a.g] w fun e w' => e = .returned (.int .i64 0) ∧ Bel w w' := by
  have K := Lib.hid (fullT w base a.t s.t h.turn)
  rw [decide_eq_false (by rw [h.most]; omega)] at K
  have c0 := blk_cell h.blk 0
  clear h hr
  go_enter Tryz.func151, Tryz.ntmps151
  go_wp2_with fail
  refine K.out.mono ?_
  rintro e w1 ⟨rfl, hb1⟩
  go_wp2_with fail
  go_ret
  exact ⟨rfl, hb1⟩
end Go.Proofs.YtgpkpheejefiiaaGreatDoor
end
section
set_option linter.unusedVariables false
set_option linter.unusedSimpArgs false
namespace Go.Proofs.YtgpkpheejefiiaaGreatDoor
open Go.RowKit
set_option maxRecDepth 100000
theorem emb_ptr (g : Nat) : Emb r0 (.ptr g 0) (PTR g) := .ptr g 0 g 0 rfl
theorem RM.offG {w w' : World} {b : Nat} {es : List (Int × SV)} (h : RM w b es) {r : Nat} (hg : w.grownBy w' (some r)) (hne : b ≠ r) : RM w' b es :=
  h.agree (hg.block b h.lt (fun e => hne (Option.some.inj e)))
theorem en_new {w3 wx : World} {base n g1 g2 ge : Nat} (hL : Laid3 w3 wx n g1 g2 ge) (hb : base ≤ w3.heap.size) : IsEn wx base n ge :=
  ⟨⟨0, 0, 0, 0⟩, ⟨0, 0, 0, 0⟩, ⟨0, 0, 0, 0⟩, g1, g2, hL.he, ⟨_, hL.h1, by simp [madeCells]⟩, ⟨_, hL.h2, by simp [madeCells]⟩, Nat.le_trans hb hL.le, Nat.le_trans hb hL.l1, Nat.le_trans hb hL.l2⟩
/-- A stripe more. -/
theorem IsC0.added {w3 wx : World} {base : Nat} {a : CA} {s : CS} (h : IsC0 w3 base a s) {g1 g2 ge : Nat} (hL : Laid3 w3 wx s.n g1 g2 ge) (hb : base ≤ w3.heap.size) (k : Int) (hk : k ∉ s.ks.map (·.1)) :
    ∃ W', (Instr.mapUpdate 195 (.map (some a.m)) (.int .i64 k) (PTR ge)).run Tryz.prog wx = .ok () W' ∧ IsC0 W' base a { s with ks := s.ks ++ [(k, ge)] } ∧ Kc base a.m a.t.mp w3 W' := by
  have hx := h.bel hL.bel
  obtain ⟨W', r1, r2, r3⟩ := hx.rows.upd 195 185 Tryz.underlying195 k (.ptr ge 0) (PTR ge) (emb_ptr ge)
  rw [putM_rows s.ks k ge hk] at r2
  refine ⟨W', r1, hx.mapped r3 (.inl rfl) ?_ r2 ?_, (Kc.of_bel hL.bel).trans (Kc.of_grown r3 h.b2 (.inl rfl))⟩
  · obtain ⟨es, e⟩ := hx.kept
    exact ⟨es, e.offG r3 h.mne.symm⟩
  · intro p hp
    rcases List.mem_append.1 hp with hp | hp
    · exact hx.ens p hp
    · simp at hp
      subst hp
      exact en_new hL hb
theorem CLaw.added {s : CS} (h : CLaw s) {k : Int} (hk : k ∉ s.ks.map (·.1)) (h0 : 0 ≤ k) (h1 : k < 6) (ge : Nat) : CLaw { s with t := { s.t with P := s.t.P ++ [k] }, ks := s.ks ++ [(k, ge)] } := by
  have hp : (s.t.P ++ [k] ++ s.t.D).Perm (k :: (s.t.P ++ s.t.D)) := by
    rw [List.append_assoc]
    exact List.perm_middle
  refine ⟨?_, ?_, ?_, ?_, h.most, h.lim, h.n1, h.n2⟩
  · refine hp.nodup_iff.2 (List.nodup_cons.2 ⟨fun e => hk ((h.same k).1 e), h.nd⟩)
  · show ((s.ks ++ [(k, ge)]).map (·.1)).Nodup
    rw [List.map_append]
    refine List.nodup_append.2 ⟨h.nk, by simp, fun x hx y hy e => ?_⟩
    simp at hy
    exact hk (by rw [← hy, ← e]; exact hx)
  · intro x
    show x ∈ s.t.P ++ [k] ++ s.t.D ↔ x ∈ (s.ks ++ [(k, ge)]).map (·.1)
    rw [hp.mem_iff, List.mem_cons, h.same x, List.map_append]
    simp [or_comm]
  · intro x hx
    rw [show ({ s with t := { s.t with P := s.t.P ++ [k] }, ks := s.ks ++ [(k, ge)] } : CS).ks.map (·.1) = s.ks.map (·.1) ++ [k] by simp] at hx
    rcases List.mem_append.1 hx with hx | hx
    · exact h.rng x hx
    · simp at hx; subst hx; exact ⟨h0, h1⟩
/-- What an open has left. -/
structure Opened (base : Nat) (a : CA) (s : CS) (k : Int) (w w' : World) (ge : Nat) (a' : CA) (s' : CS) : Prop where
  ok : IsC w' base a' s'
  g : a'.g = a.g
  m : a'.m = a.m
  mp : a'.t.mp = a.t.mp
  n : s'.n = s.n
  key : ∃ p ∈ s'.ks, p.1 = k ∧ p.2 = ge
  fr : Kc base a.m a.t.mp w w'
set_option maxHeartbeats 4000000 in
theorem open90 (w : World) (base : Nat) (a : CA) (s : CS) (k co : Int) (tx : ByteArray) (h : IsC w base a s) (h0 : 0 ≤ k) (h1 : k < 6) (h2 : 0 ≤ co) (h3 : co < s.n) (htx : tx.size = 64) (hb : base ≤ w.heap.size) :
    Calls Tryz.prog 90 #[PTR a.g, .int .i64 k, .int .i64 co, .string tx] w fun e w' => ∃ ge a' s', e = .returned (.tuple #[PTR ge, .int .i64 0]) ∧ Opened base a s k w w' ge a' s' := by
  by_cases hk : k ∈ s.ks.map (·.1)
  · obtain ⟨p, hp, hpk⟩ := List.mem_map.1 hk
    have K := openOld w a.g a.m (PTR a.t.g) s.n k co tx h.blk h0 (by omega) h2 h3 htx (fun q w' => q = ⟨p.2, 0, none⟩ ∧ ∃ a' s', Opened base a s k w w' p.2 a' s') ?_
    · refine K.mono ?_
      rintro e w' ⟨q, rfl, rfl, a', s', ho⟩
      exact ⟨p.2, a', s', rfl, ho⟩
    · refine (row102 w base a s k h (PTR p.2) (.inr ⟨p, hp, hpk, rfl⟩)).mono ?_
      rintro e w1 ⟨rfl, hb1⟩
      have hc := h.bel hb1
      refine ⟨⟨p.2, 0, none⟩, _, _, _, rfl, hc.blk, ?_⟩
      have hl := h.len
      refine (touchT w1 base a.t s.t k hc.turn h.lim (by omega) (by omega) (Nat.le_trans hb hb1.size)).mono ?_
      rintro e w3 ⟨vp', vd', r, rfl, ht, hu⟩
      have hmem : k ∈ s.t.P ++ s.t.D := (h.same k).2 hk
      refine ⟨⟨_, rfl⟩, rfl, { a with t := { a.t with vp := vp', vd := vd' } }, { s with t := touchS s.t k }, ⟨?_, ?_⟩, rfl, rfl, rfl, rfl, ⟨p, hp, hpk, rfl⟩, (Kc.of_bel hb1).trans (hc.turn.kc h.b1 hu)⟩
      · exact hc.toIsC0.turned ht hu rfl rfl
      · exact h.toCLaw.turned (touchS_perm s.t k hmem h.nd) (touchS_most s.t k).1 (touchS_most s.t k).2
  · have hroom := h.room h0 h1 hk
    have K := openNew w a.g a.m (PTR a.t.g) s.n k co tx h.blk h0 (by omega) h2 h3 htx (fun w' ge => ∃ a' s', Opened base a s k w w' ge a' s') ?_
    · refine K.mono ?_
      rintro e w' ⟨ge, rfl, a', s', ho⟩
      exact ⟨ge, a', s', rfl, ho⟩
    · refine (row102 w base a s k h (.pointer none) (.inl ⟨hk, rfl⟩)).mono ?_
      rintro e w1 ⟨rfl, hb1⟩
      refine ⟨rfl, ?_⟩
      have hc := h.bel hb1
      refine (place151 w1 base a s hc hroom).mono ?_
      rintro e w2 ⟨rfl, hb2⟩
      have hc2 := hc.bel hb2
      refine ⟨rfl, _, _, _, hc2.blk, ?_⟩
      have hl := h.len
      refine (addT w2 base a.t s.t k hc2.turn (fun e => hk ((h.same k).1 e)) (by rw [h.most]; omega) (by omega) (Nat.le_trans hb (Nat.le_trans hb1.size hb2.size))).mono ?_
      rintro e w3 ⟨vp', rfl, ht, hu⟩
      have h3' := hc2.toIsC0.turned ht hu rfl rfl
      refine ⟨⟨_, rfl⟩, _, s.n, a.m, h3'.blk, by have := h.n2; omega, ?_⟩
      intro wx g1 g2 ge hL
      obtain ⟨W', r1, r2, r3⟩ := h3'.added hL (Nat.le_trans hb (Nat.le_trans (Nat.le_trans hb1.size hb2.size) hu.size)) k hk
      refine ⟨W', r1, _, _, ⟨r2, h.toCLaw.added hk h0 h1 ge⟩, rfl, rfl, rfl, rfl, ⟨(k, ge), by simp, rfl, rfl⟩, ?_⟩
      exact ((Kc.of_bel (hb1.trans hb2)).trans (hc2.turn.kc h.b1 hu)).trans r3
set_option maxHeartbeats 4000000 in
theorem pin93 (w : World) (base : Nat) (a : CA) (s : CS) (k : Int) (h : IsC w base a s) (hk : k ∈ s.ks.map (·.1)) :
    Calls Tryz.prog 93 #[PTR a.t.g, .int .i64 k, .bool true] w fun e w' => e = .returned (.bool true) ∧ IsC w' base a s ∧ Kc base a.m a.t.mp w w' := by
  have K := Lib.hid (hasT w base a.t s.t k h.turn)
  rw [decide_eq_true ((h.same k).2 hk)] at K
  have H := Lib.hid h
  clear h hk
  generalize decide (k ∈ s.t.D) = dd at *
  go_enter Tryz.func93, Tryz.ntmps93
  go_wp2_with fail
  refine K.out.mono ?_
  rintro e w1 ⟨rfl, hb1⟩
  have H1 := Lib.hid (H.out.bel hb1)
  have HB1 := Lib.hid hb1
  obtain ⟨es, he⟩ := H1.out.kept
  obtain ⟨W', r1, r2, r3⟩ := he.upd 285 4 Tryz.underlying285 k (.bool true) (.bool true) (.bool true)
  have HR := Lib.hid (And.intro r2 r3)
  have c4 := blk_cell H1.out.turn.blk 4
  clear hb1 he r2 r3
  go_wp2_with fail
  go_ret
  refine ⟨rfl, ⟨?_, H.out.toCLaw⟩, ?_⟩
  · exact H1.out.toIsC0.mapped HR.out.2 (.inr rfl) ⟨_, HR.out.1⟩ (H1.out.rows.offG HR.out.2 H1.out.mne) H1.out.ens
  · exact (Kc.of_bel HB1.out).trans (Kc.of_grown HR.out.2 H1.out.b3 (.inr (.inl rfl)))
end Go.Proofs.YtgpkpheejefiiaaGreatDoor
end
section
set_option linter.unusedVariables false
set_option linter.unusedSimpArgs false
namespace Go.Proofs.YtgpkpheejefiiaaGreatDoor
open Go.RowKit
set_option maxRecDepth 100000
theorem IsC0.setEn {w w' : World} {base : Nat} {a : CA} {s : CS} (h : IsC0 w base a s) {e g1 g2 : Nat} {x y z x' y' z' : I4} (hE : w.heap[e]? = some (.cells (enC s.n x y z g1 g2) 191 (0, 0))) (hE' : w'.heap[e]? = some (.cells (enC s.n x' y' z' g1 g2) 191 (0, 0)))
    (hoff : ∀ k, k ≠ e → w'.heap[k]? = w.heap[k]?) : IsC0 w' base a s :=
  h.shape fun k o hk => by
    by_cases he : k = e
    · subst he
      rw [hE] at hk
      cases hk
      exact .inr (.inl ⟨x, y, z, g1, g2, x', y', z', rfl, hE'⟩)
    · exact .inl ((hoff k he).trans hk)
theorem IsC0.setTx {w w' : World} {base : Nat} {a : CA} {s : CS} (h : IsC0 w base a s) {g : Nat} {cs cs' : Array Value} (hE : w.heap[g]? = some (.cells cs 9 (0, 0))) (hE' : w'.heap[g]? = some (.cells cs' 9 (0, 0))) (hs : cs'.size = cs.size)
    (hoff : ∀ k, k ≠ g → w'.heap[k]? = w.heap[k]?) : IsC0 w' base a s :=
  h.shape fun k o hk => by
    by_cases he : k = g
    · subst he
      rw [hE] at hk
      cases hk
      exact .inr (.inr ⟨cs, cs', rfl, hE', hs⟩)
    · exact .inl ((hoff k he).trans hk)
/-- four cells of an entry are set -/
theorem setI4 (w : World) (base m1 m2 e o : Nat) (cs : Array Value) (hE : w.heap[e]? = some (.cells cs 191 (0, 0))) (hb : base ≤ e) (v0 v1 v2 v3 : Value) :
    let w' := (((w.setCell ⟨e, o, none⟩ v0).setCell ⟨e, o + 1, none⟩ v1).setCell ⟨e, o + 2, none⟩ v2).setCell ⟨e, o + 3, none⟩ v3
    w'.heap[e]? = some (.cells ((((cs.setIfInBounds o v0).setIfInBounds (o + 1) v1).setIfInBounds (o + 2) v2).setIfInBounds (o + 3) v3) 191 (0, 0)) ∧ (∀ k, k ≠ e → w'.heap[k]? = w.heap[k]?) ∧ Kc base m1 m2 w w' := by
  have h0 := setc_blk (i := o) hE v0
  have h1 := setc_blk (i := o + 1) h0 v1
  have h2 := setc_blk (i := o + 2) h1 v2
  have h3 := setc_blk (i := o + 3) h2 v3
  have hk : ∀ cs, cKind (.cells cs 191 (0, 0)) := fun cs => ⟨cs, 191, _, rfl, by simp⟩
  refine ⟨h3, fun k hne => ?_, ?_⟩
  · exact (Below.heap_setCell _ _ _ k hne).trans ((Below.heap_setCell _ _ _ k hne).trans ((Below.heap_setCell _ _ _ k hne).trans (Below.heap_setCell _ _ _ k hne)))
  · exact (((Kc.of_set _ _ hb hE (hk _)).trans (Kc.of_set _ _ hb h0 (hk _))).trans (Kc.of_set _ _ hb h1 (hk _))).trans (Kc.of_set _ _ hb h2 (hk _))
set_option maxHeartbeats 4000000 in
theorem put91 (w : World) (base : Nat) (a : CA) (s : CS) (ke : Int) (e : Nat) (c : Nat) (tx : ByteArray) (h : IsC w base a s) (hp : (ke, e) ∈ s.ks) (hc : c < s.n) :
    Calls Tryz.prog 91 #[PTR e, .int .i64 c, .string tx] w fun e w' => e = .returned (.tuple #[]) ∧ IsC w' base a s ∧ Kc base a.m a.t.mp w w' := by
  obtain ⟨x, y, z, g1, g2, hE, ⟨cs, hT, hsz⟩, hT2, hbs⟩ : ∃ x y z g1 g2, w.heap[e]? = some (.cells (enC s.n x y z g1 g2) 191 (0, 0)) ∧ Texts w s.n g1 ∧ Texts w s.n g2 ∧ base ≤ e ∧ base ≤ g1 ∧ base ≤ g2 := h.ens _ hp
  have c0 : w.cell? ⟨e, 0, none⟩ = some (.int .u64 x.a) := blk_cell hE 0
  have c1 : w.cell? ⟨e, 1, none⟩ = some (.int .u64 x.b) := blk_cell hE 1
  have c2 : w.cell? ⟨e, 2, none⟩ = some (.int .u64 x.c) := blk_cell hE 2
  have c3 : w.cell? ⟨e, 3, none⟩ = some (.int .u64 x.d) := blk_cell hE 3
  have K := Lib.hid (fun w => with92 w (c : Int) (by omega) (by have := h.n2; omega) x.a x.b x.c x.d)
  have H := Lib.hid h
  have HE := Lib.hid (And.intro hE (And.intro hT (And.intro hsz hbs)))
  have hcn : (c : Int) < (s.n : Int) := by omega
  have hu : cs[c]? = some cs[c] := by simp
  generalize cs[c] = u at hu
  have HC := Lib.hid (And.intro hc hp)
  clear h hE hT hsz hT2 hbs hp hc
  go_enter Tryz.func91, Tryz.ntmps91
  go_wp2_with fail
  refine (K.out _).mono ?_
  rintro e1 w1 ⟨a', rfl, hb1⟩
  have hE1 := blk_below HE.out.1 hb1
  have k0 : w1.cell? ⟨e, 0, none⟩ = some (.int .u64 x.a) := blk_cell hE1 0
  have k1 : w1.cell? ⟨e, 1, none⟩ = some (.int .u64 x.b) := blk_cell hE1 1
  have k2 : w1.cell? ⟨e, 2, none⟩ = some (.int .u64 x.c) := blk_cell hE1 2
  have k3 : w1.cell? ⟨e, 3, none⟩ = some (.int .u64 x.d) := blk_cell hE1 3
  have k4 : w1.cell? ⟨e, 4, none⟩ = some (.slice (some ⟨g1, 0, none⟩) s.n s.n) := blk_cell hE1 4
  have kf := blk_frozen hE1
  have hT1 := blk_below HE.out.2.1 hb1
  have ne1 : e ≠ g1 := fun e2 => by rw [e2, hT1] at hE1; cases hE1
  have ne2 : g1 ≠ e := fun e => ne1 e.symm
  have t1 := (blk_cell hT1 c).trans hu
  have tf := blk_frozen hT1
  have HB1 := Lib.hid hb1
  clear hb1
  go_wp2_with fail
  go_end0
  have hW := setI4 w1 base a.m a.t.mp e 0 _ hE1 HE.out.2.2.2.1 (.int .u64 a') (.int .u64 x.b) (.int .u64 x.c) (.int .u64 x.d)
  simp only [Nat.zero_add] at hW
  obtain ⟨q1, q2, q3⟩ := hW
  generalize (((w1.setCell ⟨e, 0, none⟩ (.int .u64 a')).setCell ⟨e, 1, none⟩ (.int .u64 x.b)).setCell ⟨e, 2, none⟩ (.int .u64 x.c)).setCell ⟨e, 3, none⟩ (.int .u64 x.d) = W at *
  have hT2 := (q2 g1 ne2).trans hT1
  have i1 := ((H.out.toIsC0.bel HB1.out).setEn (x := x) (y := y) (z := z) (x' := ⟨a', x.b, x.c, x.d⟩) (y' := y) (z' := z) hE1 (by rw [q1]; simp [enC]) q2).setTx hT2 (setc_blk (i := c) hT2 (.string tx)) (by simp) (fun k hne => Below.heap_setCell _ _ _ k hne)
  exact ⟨rfl, ⟨i1, H.out.toCLaw⟩, ((Kc.of_bel HB1.out).trans q3).trans (Kc.of_set _ _ HE.out.2.2.2.2.1 hT2 ⟨_, 9, _, rfl, by simp⟩)⟩
end Go.Proofs.YtgpkpheejefiiaaGreatDoor
end
section
set_option linter.unusedVariables false
set_option linter.unusedSimpArgs false
namespace Go.Proofs.YtgpkpheejefiiaaGreatDoor
open Go.RowKit
set_option maxRecDepth 100000
/-- What a call on the cache has left. -/
structure Cached (base : Nat) (a : CA) (s : CS) (w w' : World) (a' : CA) (s' : CS) : Prop where
  ok : IsC w' base a' s'
  g : a'.g = a.g
  m : a'.m = a.m
  mp : a'.t.mp = a.t.mp
  n : s'.n = s.n
  fr : Kc base a.m a.t.mp w w'
set_option maxHeartbeats 4000000 in
theorem put39 (w : World) (base : Nat) (a : CA) (s : CS) (k : Int) (c : Nat) (tx : ByteArray) (h : IsC w base a s) (h0 : 0 ≤ k) (h1 : k < 6) (hc : c < s.n) (htx : tx.size = 64) (hb : base ≤ w.heap.size) :
    Calls Tryz.prog 39 #[PTR a.g, .int .i64 k, .int .i64 c, .string tx] w fun e w' => ∃ a' s', e = .returned (.int .i64 0) ∧ Cached base a s w w' a' s' := by
  have K1 := Lib.hid (open90 w base a s k c tx h h0 h1 (by omega) (by omega) htx hb)
  have HC := Lib.hid hc
  clear h h0 h1 hc htx hb
  go_enter Tryz.func39, Tryz.ntmps39
  go_wp2_with fail
  refine K1.out.mono ?_
  rintro e w1 ⟨ge, a1, s1, rfl, hO⟩
  have HO := Lib.hid hO
  obtain ⟨ke, hk⟩ : ∃ p, p ∈ s1.ks ∧ p.1 = k ∧ p.2 = ge := hO.key
  obtain ⟨hk1, hk2, hk3⟩ := hk
  obtain ⟨k', e'⟩ := ke
  simp only at hk2 hk3
  subst hk2 hk3
  have HK := Lib.hid hk1
  clear hO hk1
  have K2 := Lib.hid (put91 w1 base a1 s1 k' e' c tx HO.out.ok HK.out (by rw [HO.out.n]; exact HC.out))
  go_wp2_with fail
  refine K2.out.mono ?_
  rintro e w2 ⟨rfl, hi, hf⟩
  have H2 := Lib.hid (And.intro hi hf)
  obtain ⟨x, y, z, g1, g2, hE, hT, hT2, hbs⟩ : ∃ x y z g1 g2, w2.heap[e']? = some (.cells (enC s1.n x y z g1 g2) 191 (0, 0)) ∧ Texts w2 s1.n g1 ∧ Texts w2 s1.n g2 ∧ base ≤ e' ∧ base ≤ g1 ∧ base ≤ g2 := hi.ens _ HK.out
  have c0 : w2.cell? ⟨e', 10, none⟩ = some (.int .u64 z.a) := blk_cell hE 10
  have c1 : w2.cell? ⟨e', 11, none⟩ = some (.int .u64 z.b) := blk_cell hE 11
  have c2 : w2.cell? ⟨e', 12, none⟩ = some (.int .u64 z.c) := blk_cell hE 12
  have c3 : w2.cell? ⟨e', 13, none⟩ = some (.int .u64 z.d) := blk_cell hE 13
  have HE := Lib.hid (And.intro hE hbs)
  have K3 := Lib.hid (fun w => with92 w (c : Int) (by omega) (by have := hi.n2; have := HC.out; have := HO.out.n; omega) z.a z.b z.c z.d)
  clear hi hf hE hT hT2 hbs
  go_wp2_with fail
  refine (K3.out _).mono ?_
  rintro e w3 ⟨a', rfl, hb3⟩
  have hE3 := blk_below HE.out.1 hb3
  have k0 : w3.cell? ⟨e', 10, none⟩ = some (.int .u64 z.a) := blk_cell hE3 10
  have k1 : w3.cell? ⟨e', 11, none⟩ = some (.int .u64 z.b) := blk_cell hE3 11
  have k2 : w3.cell? ⟨e', 12, none⟩ = some (.int .u64 z.c) := blk_cell hE3 12
  have k3 : w3.cell? ⟨e', 13, none⟩ = some (.int .u64 z.d) := blk_cell hE3 13
  have kf := blk_frozen hE3
  have hW := setI4 w3 base a.m a.t.mp e' 10 _ hE3 HE.out.2.1 (.int .u64 a') (.int .u64 z.b) (.int .u64 z.c) (.int .u64 z.d)
  simp only [Nat.reduceAdd] at hW
  have HW := Lib.hid hW
  have H4 : Hid (IsC ((((w3.setCell ⟨e', 10, none⟩ (.int .u64 a')).setCell ⟨e', 11, none⟩ (.int .u64 z.b)).setCell ⟨e', 12, none⟩ (.int .u64 z.c)).setCell ⟨e', 13, none⟩ (.int .u64 z.d)) base a1 s1) := Lib.hid ⟨(H2.out.1.toIsC0.bel hb3).setEn (x := x) (y := y) (z := z) (x' := x) (y' := y) (z' := ⟨a', z.b, z.c, z.d⟩) hE3 (by rw [hW.1]; simp [enC]) hW.2.1, H2.out.1.toCLaw⟩
  have HB3 := Lib.hid hb3
  have q0 : ((((w3.setCell ⟨e', 10, none⟩ (.int .u64 a')).setCell ⟨e', 11, none⟩ (.int .u64 z.b)).setCell ⟨e', 12, none⟩ (.int .u64 z.c)).setCell ⟨e', 13, none⟩ (.int .u64 z.d)).cell? ⟨a.g, 0, none⟩ = some (PTR a1.t.g) := by
    have := H4.out.blk
    rw [HO.out.g] at this
    exact blk_cell this 0
  clear hW hb3
  have K4 := Lib.hid (pin93 _ base a1 s1 k' H4.out (List.mem_map.2 ⟨(k', e'), HK.out, rfl⟩))
  go_wp2_with fail
  refine K4.out.mono ?_
  rintro e w4 ⟨rfl, hi4, hf4⟩
  have H5 := Lib.hid (And.intro hi4 hf4)
  clear hi4 hf4
  go_wp2_with fail
  go_ret
  have e1 := HO.out.m
  have e2 := HO.out.mp
  have f2 := H2.out.2
  have f5 := H5.out.2
  rw [e1, e2] at f2 f5
  exact ⟨a1, s1, rfl, H5.out.1, HO.out.g, e1, e2, HO.out.n, (((HO.out.fr.trans f2).trans (Kc.of_bel HB3.out)).trans HW.out.2.2).trans f5⟩
end Go.Proofs.YtgpkpheejefiiaaGreatDoor
end
section
set_option linter.unusedVariables false
set_option linter.unusedSimpArgs false
namespace Go.Proofs.YtgpkpheejefiiaaGreatDoor
open Go.RowKit
set_option maxRecDepth 100000
theorem nil185 (w : World) (p : Option Addr) : (binOp .eql 185 (.pointer p) (.pointer none)).run Tryz.prog w = .ok (.bool p.isNone) w := run_eql_pointer_nil (P := Tryz.prog) w 185 p Tryz.underlying185
theorem off4 {w : World} {g h : Nat} {o : Obj} (hg : w.heap[g]? = some o) (hne : g ≠ h) (v0 v1 v2 v3 : Value) : ((((w.setCell ⟨h, 0, none⟩ v0).setCell ⟨h, 1, none⟩ v1).setCell ⟨h, 2, none⟩ v2).setCell ⟨h, 3, none⟩ v3).heap[g]? = some o :=
  setc_off (i := 3) (setc_off (i := 2) (setc_off (i := 1) (setc_off (i := 0) hg hne v0) hne v1) hne v2) hne v3
theorem drewE {w : World} {g : Nat} {o : Obj} (h : w.heap[g]? = some o) : w.drew.heap[g]? = some o := h
theorem Bel.set4 {w w1 : World} (h : Bel w w1) {g : Nat} (hp : w.heap.size ≤ g) (v0 v1 v2 v3 : Value) : Bel w ((((w1.setCell ⟨g, 0, none⟩ v0).setCell ⟨g, 1, none⟩ v1).setCell ⟨g, 2, none⟩ v2).setCell ⟨g, 3, none⟩ v3) :=
  (((h.set (p := ⟨g, 0, none⟩) hp v0).set (p := ⟨g, 1, none⟩) hp v1).set (p := ⟨g, 2, none⟩) hp v2).set (p := ⟨g, 3, none⟩) hp v3
set_option maxHeartbeats 1000000 in
theorem have44 (w : World) (base : Nat) (a : CA) (s : CS) (k : Int) (h : IsC w base a s) :
    Calls Tryz.prog 44 #[PTR a.g, .int .i64 k] w fun e w' => ∃ x z : I4, e = .returned (.tuple #[MV x.a x.b x.c x.d, MV z.a z.b z.c z.d]) ∧ Bel w w' := by
  have K := Lib.hid (fun w1 (h1 : IsC w1 base a s) v hv => row102 w1 base a s k h1 v hv)
  have hn := nil185
  by_cases hk : k ∈ s.ks.map (·.1)
  · obtain ⟨⟨k', e'⟩, hp, hpk⟩ := List.mem_map.1 hk
    have hpk : k' = k := hpk
    subst hpk
    have HK := Lib.hid hp
    have H := Lib.hid h
    clear h hp hk
    go_enter Tryz.func44, Tryz.ntmps44
    go_wp2_with fail
    refine (K.out _ (H.out.bel (belA2 w _ _)) (PTR e') (.inr ⟨(k', e'), HK.out, rfl, rfl⟩)).mono ?_
    rintro e w1 ⟨rfl, hb1⟩
    have HB1 := Lib.hid ((belA2 w _ _).trans hb1)
    have n1 := blk_below ((Below.heap_alloc (w.alloc (.cells #[.int .u64 0, .int .u64 0, .int .u64 0, .int .u64 0] 109)) (.cells #[.int .u64 0, .int .u64 0, .int .u64 0, .int .u64 0] 109) w.heap.size (by simp)).trans (heap_alloc_new _ _)) hb1
    have n2 : w1.heap[w.heap.size + 1]? = some (.cells #[.int .u64 0, .int .u64 0, .int .u64 0, .int .u64 0] 109 (0, 0)) := blk_below (by
      have := heap_alloc_new (w.alloc (.cells #[.int .u64 0, .int .u64 0, .int .u64 0, .int .u64 0] 109)) (.cells #[.int .u64 0, .int .u64 0, .int .u64 0, .int .u64 0] 109)
      rwa [World.size_alloc] at this) hb1
    obtain ⟨x, y, z, g1, g2, hE, _⟩ : ∃ x y z g1 g2, w1.heap[e']? = some (.cells (enC s.n x y z g1 g2) 191 (0, 0)) ∧ Texts w1 s.n g1 ∧ Texts w1 s.n g2 ∧ base ≤ e' ∧ base ≤ g1 ∧ base ≤ g2 := (H.out.bel HB1.out).ens _ HK.out
    have ne1 : e' ≠ w.heap.size := fun e2 => by rw [e2, n1] at hE; simp [enC] at hE
    have ne2 : e' ≠ w.heap.size + 1 := fun e2 => by rw [e2, n2] at hE; simp [enC] at hE
    have c0 : w1.cell? ⟨e', 0, none⟩ = some (.int .u64 x.a) := blk_cell hE 0
    have c1 : w1.cell? ⟨e', 1, none⟩ = some (.int .u64 x.b) := blk_cell hE 1
    have c2 : w1.cell? ⟨e', 2, none⟩ = some (.int .u64 x.c) := blk_cell hE 2
    have c3 : w1.cell? ⟨e', 3, none⟩ = some (.int .u64 x.d) := blk_cell hE 3
    have d0 : w1.cell? ⟨e', 10, none⟩ = some (.int .u64 z.a) := blk_cell hE 10
    have d1 : w1.cell? ⟨e', 11, none⟩ = some (.int .u64 z.b) := blk_cell hE 11
    have d2 : w1.cell? ⟨e', 12, none⟩ = some (.int .u64 z.c) := blk_cell hE 12
    have d3 : w1.cell? ⟨e', 13, none⟩ = some (.int .u64 z.d) := blk_cell hE 13
    have p0 := blk_cell n1 0
    have p1 := blk_cell n1 1
    have p2 := blk_cell n1 2
    have p3 := blk_cell n1 3
    have e0 := blk_cell n2 0
    have e1 := blk_cell n2 1
    have e2 := blk_cell n2 2
    have e3 := blk_cell n2 3
    have f1 := blk_frozen n1
    have f2 := blk_frozen n2
    have hm := mixedE
    clear hb1
    go_wp2_with fail
    go_region
    go_wp2_with fail
    have m1 := set4 n1 (.int .u64 x.a) (.int .u64 x.b) (.int .u64 x.c) (.int .u64 x.d)
    have m2 := set4 (off4 (h := w.heap.size) n2 (by omega) (.int .u64 x.a) (.int .u64 x.b) (.int .u64 x.c) (.int .u64 x.d)) (.int .u64 z.a) (.int .u64 z.b) (.int .u64 z.c) (.int .u64 z.d)
    have m1' := off4 (h := w.heap.size + 1) m1 (by omega) (.int .u64 z.a) (.int .u64 z.b) (.int .u64 z.c) (.int .u64 z.d)
    refine bodyPost_ret (res_cc rfl _ _ w.heap.size (w.heap.size + 1) 109 109 #[.int .u64 x.a, .int .u64 x.b, .int .u64 x.c, .int .u64 x.d] #[.int .u64 z.a, .int .u64 z.b, .int .u64 z.c, .int .u64 z.d] (0, 0) (0, 0) _ _ rfl (drewE m1') Tryz.underlying109 rfl info109 rfl (drewE m2) Tryz.underlying109 rfl info109) rfl ?_
    refine ⟨x, z, rfl, ?_⟩
    exact (((HB1.out.set4 (g := w.heap.size) (Nat.le_refl _) _ _ _ _).set4 (g := w.heap.size + 1) (Nat.le_succ _) _ _ _ _).trans (Bel.drew _))
  · have HK := Lib.hid hk
    have H := Lib.hid h
    clear h hk
    go_enter Tryz.func44, Tryz.ntmps44
    go_wp2_with fail
    refine (K.out _ (H.out.bel (belA2 w _ _)) (.pointer none) (.inl ⟨HK.out, rfl⟩)).mono ?_
    rintro e w1 ⟨rfl, hb1⟩
    have HB1 := Lib.hid ((belA2 w _ _).trans hb1)
    have n1 := blk_below ((Below.heap_alloc (w.alloc (.cells #[.int .u64 0, .int .u64 0, .int .u64 0, .int .u64 0] 109)) (.cells #[.int .u64 0, .int .u64 0, .int .u64 0, .int .u64 0] 109) w.heap.size (by simp)).trans (heap_alloc_new _ _)) hb1
    have n2 : w1.heap[w.heap.size + 1]? = some (.cells #[.int .u64 0, .int .u64 0, .int .u64 0, .int .u64 0] 109 (0, 0)) := blk_below (by
      have := heap_alloc_new (w.alloc (.cells #[.int .u64 0, .int .u64 0, .int .u64 0, .int .u64 0] 109)) (.cells #[.int .u64 0, .int .u64 0, .int .u64 0, .int .u64 0] 109)
      rwa [World.size_alloc] at this) hb1
    have p0 := blk_cell n1 0
    have p1 := blk_cell n1 1
    have p2 := blk_cell n1 2
    have p3 := blk_cell n1 3
    have e0 := blk_cell n2 0
    have e1 := blk_cell n2 1
    have e2 := blk_cell n2 2
    have e3 := blk_cell n2 3
    have f1 := blk_frozen n1
    have f2 := blk_frozen n2
    clear hb1
    go_wp2_with fail
    have m1 := set4 n1 (.int .u64 0) (.int .u64 0) (.int .u64 0) (.int .u64 0)
    have m2 := set4 (off4 (h := w.heap.size) n2 (by omega) (.int .u64 0) (.int .u64 0) (.int .u64 0) (.int .u64 0)) (.int .u64 0) (.int .u64 0) (.int .u64 0) (.int .u64 0)
    have m1' := off4 (h := w.heap.size + 1) m1 (by omega) (.int .u64 0) (.int .u64 0) (.int .u64 0) (.int .u64 0)
    refine bodyPost_ret (res_cc rfl _ _ w.heap.size (w.heap.size + 1) 109 109 _ _ (0, 0) (0, 0) _ _ rfl m1' Tryz.underlying109 rfl info109 rfl m2 Tryz.underlying109 rfl info109) rfl ?_
    refine ⟨⟨0, 0, 0, 0⟩, ⟨0, 0, 0, 0⟩, rfl, ?_⟩
    exact ((HB1.out.set4 (g := w.heap.size) (Nat.le_refl _) _ _ _ _).set4 (g := w.heap.size + 1) (Nat.le_succ _) _ _ _ _)
end Go.Proofs.YtgpkpheejefiiaaGreatDoor
end
