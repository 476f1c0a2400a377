/- The engine: what it is, and what keeps it. | The engine: is it up; where is a block. | The engine: Write. | The engine: Dispatch. | The engine: Pending. -/
import Derived.Test.YtgpkpheejefiiaaGreatDoorX22
import Derived.Test.YtgpkpheejefiiaaGreatDoorX24
import Derived.Test.YtgpkpheejefiiaaGreatDoorX27
section
set_option linter.unusedVariables false
set_option linter.unusedSimpArgs false
namespace Go.Proofs.YtgpkpheejefiiaaGreatDoor
open Go.RowKit
set_option maxRecDepth 100000
structure EA where
  e : Nat
  ag : Nat
  qg : Nat
  lg : Nat
  c : CA
  pl : Value
  vq : Value
  vl : Value
structure ES where
  m : Int
  s : Int
  q : Q20.QS
  l : L21.LS
  c : CS
structure IsE (w : World) (base : Nat) (a : EA) (s : ES) : Prop where
  blk : w.heap[a.e]? = some (.cells #[PTR a.ag, PTR a.qg, PTR a.lg, PTR a.c.g, a.pl, .int .i64 s.m, .int .i64 s.s] 95 (0, 0))
  arr : ∃ x y z t, w.heap[a.ag]? = some (.cells #[x, y, z, t, .bool false] 121 (0, 0))
  q : Q20.IsQ w base a.qg a.vq s.q
  l : L21.IsL w base a.lg a.vl s.l
  c : IsC w base a.c s.c
  bq : base ≤ a.qg
  bl : base ≤ a.lg
  g : GOK s.m s.s
  n : (s.c.n : Int) = s.m - 2
def eKind (o : Obj) : Prop := ∃ cs t fr, o = .cells cs t fr ∧ (t = 287 ∨ t = 3 ∨ t = 191 ∨ t = 9 ∨ t = 103 ∨ t = 176)
/-- the blocks that an engine's calls may write -/
def EA.X (a : EA) : Nat → Prop := fun k => k = a.c.m ∨ k = a.c.t.mp ∨ k = a.qg ∨ k = a.lg
structure Ke (base : Nat) (X : Nat → Prop) (w w' : World) : Prop where
  os : w'.os = w.os
  tape : w'.tape = w.tape
  output : w'.output = w.output
  size : w.heap.size ≤ w'.heap.size
  blk : ∀ k, k < w.heap.size → (k < base ∨ (¬ X k ∧ ∀ o, w.heap[k]? = some o → ¬ eKind o)) → w'.heap[k]? = w.heap[k]?
theorem Ke.of_bel {base : Nat} {X : Nat → Prop} {w w' : World} (h : Bel w w') : Ke base X w w' := ⟨h.os, h.tape, h.output, h.size, fun k hk _ => h.block k hk⟩
theorem Ke.trans {base : Nat} {X : Nat → Prop} {a b c : World} (h : Ke base X a b) (k : Ke base X b c) : Ke base X a c :=
  ⟨k.os.trans h.os, k.tape.trans h.tape, k.output.trans h.output, Nat.le_trans h.size k.size, fun i hi hc => by
    have e := h.blk i hi hc
    refine (k.blk i (Nat.lt_of_lt_of_le hi h.size) (hc.imp id fun ⟨h1, h3⟩ => ⟨h1, fun o ho => h3 o (e ▸ ho)⟩)).trans e⟩
theorem Ke.below {base : Nat} {X : Nat → Prop} {w0 w w' : World} (hb : Bel w0 w) (h : Ke base X w w') (h0 : w0.heap.size ≤ base) : Bel w0 w' :=
  ⟨h.os.trans hb.os, h.tape.trans hb.tape, h.output.trans hb.output, Nat.le_trans hb.size h.size, fun k hk => (h.blk k (Nat.lt_of_lt_of_le hk hb.size) (.inl (by omega))).trans (hb.block k hk)⟩
theorem Ke.keep {base : Nat} {X : Nat → Prop} {w w' : World} (h : Ke base X w w') {k : Nat} {o : Obj} (hk : w.heap[k]? = some o) (h1 : ¬ X k) (ho : ¬ eKind o) : w'.heap[k]? = some o :=
  (h.blk k (blk_lt hk) (.inr ⟨h1, fun o' e => by rw [hk] at e; cases e; exact ho⟩)).trans hk
theorem cKind.e {o : Obj} (h : cKind o) : eKind o := let ⟨cs, t, fr, e, ht⟩ := h; ⟨cs, t, fr, e, by rcases ht with h | h | h | h <;> simp [h]⟩
theorem Ke.of_kc {base m1 m2 : Nat} {X : Nat → Prop} {w w' : World} (h : Kc base m1 m2 w w') (h1 : X m1) (h2 : X m2) : Ke base X w w' :=
  ⟨h.os, h.tape, h.output, h.size, fun k hk hc => h.blk k hk (hc.imp id fun ⟨x, y⟩ => ⟨fun e => x (e ▸ h1), fun e => x (e ▸ h2), fun o ho hc => y o ho hc.e⟩)⟩
theorem Ke.of_q {base g : Nat} {X : Nat → Prop} {w w' : World} (h : Q20.Kp base g w w') (h1 : X g) (hb : base ≤ g) : Ke base X w w' :=
  ⟨h.os, h.tape, h.output, h.size, fun k hk hc => h.blk k hk (fun e => by
    rcases hc with hc | hc
    · omega
    · exact hc.1 (e ▸ h1)) (hc.imp id fun ⟨x, y⟩ cs e => y _ e ⟨cs, 103, _, rfl, by simp⟩)⟩
theorem Ke.of_l {base g : Nat} {X : Nat → Prop} {w w' : World} (h : L21.Kp base g w w') (h1 : X g) (hb : base ≤ g) : Ke base X w w' :=
  ⟨h.os, h.tape, h.output, h.size, fun k hk hc => h.blk k hk (fun e => by
    rcases hc with hc | hc
    · omega
    · exact hc.1 (e ▸ h1)) (hc.imp id fun ⟨x, y⟩ cs e => y _ e ⟨cs, 176, _, rfl, by simp⟩)⟩
theorem eKind_cells {cs : Array Value} {t : TypeId} {fr : Nat × Nat} (h1 : t ≠ 287) (h2 : t ≠ 3) (h3 : t ≠ 191) (h4 : t ≠ 9) (h5 : t ≠ 103) (h6 : t ≠ 176) : ¬ eKind (.cells cs t fr) := fun ⟨_, _, _, e, h⟩ => by cases e; rcases h with h | h | h | h | h | h <;> contradiction
theorem eKind_map {es : Array MapEntry} {c : Nat} : ¬ eKind (.map es c) := fun ⟨_, _, _, e, _⟩ => by cases e
/-- The parts are kept where their blocks are. -/
theorem isQ_keep {w w' : World} {base g : Nat} {v : Value} {s : Q20.QS} (h : Q20.IsQ w base g v s) (H : ∀ (k : Nat) (cs : Array Value) (t : TypeId), w.heap[k]? = some (Obj.cells cs t (0, 0)) → (t = 184 ∨ t = 103) → w'.heap[k]? = w.heap[k]?) : Q20.IsQ w' base g v s :=
  ⟨(H _ _ _ h.blk (.inl rfl)).trans h.blk, owns_blk h.row fun k hk => by
    obtain ⟨hl, ⟨rfl, h0⟩ | ⟨g, cap, cur, rfl, hb, hg, hn, hc, hs, hx⟩⟩ := h.row
    · simp [Value.ownBlock] at hk
    · have : g = k := by simpa [Value.ownBlock] using hk
      subst this
      exact H _ _ _ hg (.inr rfl)⟩
theorem isL_keep {w w' : World} {base g : Nat} {v : Value} {s : L21.LS} (h : L21.IsL w base g v s) (H : ∀ (k : Nat) (cs : Array Value) (t : TypeId), w.heap[k]? = some (Obj.cells cs t (0, 0)) → (t = 179 ∨ t = 176) → w'.heap[k]? = w.heap[k]?) : L21.IsL w' base g v s :=
  ⟨(H _ _ _ h.blk (.inl rfl)).trans h.blk, owns_blk h.row fun k hk => by
    obtain ⟨hl, ⟨rfl, h0⟩ | ⟨g, cap, cur, rfl, hb, hg, hn, hc, hs, hx⟩⟩ := h.row
    · simp [Value.ownBlock] at hk
    · have : g = k := by simpa [Value.ownBlock] using hk
      subst this
      exact H _ _ _ hg (.inr rfl)⟩
theorem isC_keep {w w' : World} {base : Nat} {a : CA} {s : CS} (h : IsC w base a s) (H : ∀ (k : Nat) (o : Obj), w.heap[k]? = some o → (cKind o ∨ (∃ l c, o = Obj.map l c) ∨ ∃ cs, o = Obj.cells cs 197 (0, 0)) → w'.heap[k]? = w.heap[k]?) : IsC w' base a s := by
  refine ⟨⟨(H _ _ h.blk (.inr (.inr ⟨_, rfl⟩))).trans h.blk, h.turn.agree fun k hk => ?_, ?_, ?_, fun p hp => ?_, h.mne, h.b1, h.b2, h.b3⟩, h.toCLaw⟩
  · obtain ⟨cs, t, e, ht⟩ := h.turn.kinds hk
    exact H _ _ e (.inl ⟨cs, t, _, rfl, by rcases ht with h | h <;> simp [h]⟩)
  · obtain ⟨es, k⟩ := h.kept
    exact ⟨es, k.off fun k o hk hm => (H _ _ hk (.inr (.inl hm))).trans hk⟩
  · exact h.rows.off fun k o hk hm => (H _ _ hk (.inr (.inl hm))).trans hk
  · exact (h.ens p hp).off fun k cs t hk ht => (H _ _ hk (.inl ⟨cs, t, _, rfl, by rcases ht with h | h <;> simp [h]⟩)).trans hk
theorem IsE.bel {w w' : World} {base : Nat} {a : EA} {s : ES} (h : IsE w base a s) (k : Bel w w') : IsE w' base a s :=
  ⟨blk_below h.blk k, by obtain ⟨x, y, z, t, e⟩ := h.arr; exact ⟨x, y, z, t, blk_below e k⟩, h.q.bel k, h.l.bel k, h.c.bel k, h.bq, h.bl, h.g, h.n⟩
theorem IsE.qput {w w' : World} {base : Nat} {a : EA} {s : ES} (h : IsE w base a s) {v' : Value} {q' : Q20.QS} (hq : Q20.IsQ w' base a.qg v' q') (k : Q20.Kp base a.qg w w') : IsE w' base { a with vq := v' } { s with q := q' } ∧ Ke base a.X w w' := by
  have off : ∀ (j : Nat) (o : Obj), w.heap[j]? = some o → (∀ cs, o ≠ Obj.cells cs 184 (0, 0)) → (∀ cs, o ≠ Obj.cells cs 103 (0, 0)) → w'.heap[j]? = w.heap[j]? := fun j o hj h1 h2 =>
    k.blk j (blk_lt hj) (fun e => by rw [e, h.q.blk] at hj; cases hj; exact h1 _ rfl) (.inr fun cs e => by rw [hj] at e; cases e; exact h2 _ rfl)
  refine ⟨⟨(off _ _ h.blk (by simp) (by simp)).trans h.blk, ?_, hq, isL_keep h.l fun j cs t hj ht => off _ _ hj ?_ ?_, isC_keep h.c fun j o hj ho => off _ _ hj ?_ ?_, h.bq, h.bl, h.g, h.n⟩, Ke.of_q k (.inr (.inr (.inl rfl))) h.bq⟩
  · obtain ⟨x, y, z, t, e⟩ := h.arr
    exact ⟨x, y, z, t, (off _ _ e (by simp) (by simp)).trans e⟩
  · rcases ht with rfl | rfl <;> simp
  · rcases ht with rfl | rfl <;> simp
  · rcases ho with ⟨cs, t, fr, rfl, ht⟩ | ⟨l, c, rfl⟩ | ⟨cs, rfl⟩
    · rcases ht with rfl | rfl | rfl | rfl <;> simp
    · simp
    · simp
  · rcases ho with ⟨cs, t, fr, rfl, ht⟩ | ⟨l, c, rfl⟩ | ⟨cs, rfl⟩
    · rcases ht with rfl | rfl | rfl | rfl <;> simp
    · simp
    · simp
theorem IsE.lput {w w' : World} {base : Nat} {a : EA} {s : ES} (h : IsE w base a s) {v' : Value} {l' : L21.LS} (hl : L21.IsL w' base a.lg v' l') (k : L21.Kp base a.lg w w') : IsE w' base { a with vl := v' } { s with l := l' } ∧ Ke base a.X w w' := by
  have off : ∀ (j : Nat) (o : Obj), w.heap[j]? = some o → (∀ cs, o ≠ Obj.cells cs 179 (0, 0)) → (∀ cs, o ≠ Obj.cells cs 176 (0, 0)) → w'.heap[j]? = w.heap[j]? := fun j o hj h1 h2 =>
    k.blk j (blk_lt hj) (fun e => by rw [e, h.l.blk] at hj; cases hj; exact h1 _ rfl) (.inr fun cs e => by rw [hj] at e; cases e; exact h2 _ rfl)
  refine ⟨⟨(off _ _ h.blk (by simp) (by simp)).trans h.blk, ?_, isQ_keep h.q fun j cs t hj ht => off _ _ hj ?_ ?_, hl, isC_keep h.c fun j o hj ho => off _ _ hj ?_ ?_, h.bq, h.bl, h.g, h.n⟩, Ke.of_l k (.inr (.inr (.inr rfl))) h.bl⟩
  · obtain ⟨x, y, z, t, e⟩ := h.arr
    exact ⟨x, y, z, t, (off _ _ e (by simp) (by simp)).trans e⟩
  · rcases ht with rfl | rfl <;> simp
  · rcases ht with rfl | rfl <;> simp
  · rcases ho with ⟨cs, t, fr, rfl, ht⟩ | ⟨l, c, rfl⟩ | ⟨cs, rfl⟩
    · rcases ht with rfl | rfl | rfl | rfl <;> simp
    · simp
    · simp
  · rcases ho with ⟨cs, t, fr, rfl, ht⟩ | ⟨l, c, rfl⟩ | ⟨cs, rfl⟩
    · rcases ht with rfl | rfl | rfl | rfl <;> simp
    · simp
    · simp
theorem IsE.cput {w w' : World} {base : Nat} {a : EA} {s : ES} (h : IsE w base a s) {c' : CA} {s' : CS} (hc : Cached base a.c s.c w w' c' s') : IsE w' base { a with c := c' } { s with c := s' } ∧ Ke base a.X w w' ∧ EA.X { a with c := c' } = a.X := by
  have off : ∀ (j : Nat) (o : Obj), w.heap[j]? = some o → (¬ cKind o) → (∀ l c, o ≠ Obj.map l c) → w'.heap[j]? = w.heap[j]? := fun j o hj h1 h2 =>
    hc.fr.blk j (blk_lt hj) (.inr ⟨fun e => by
      obtain ⟨l, c, e2, _⟩ := h.c.rows
      rw [e, e2] at hj
      cases hj
      exact h2 _ _ rfl, fun e => by
      obtain ⟨_, l, c, e2, _⟩ := h.c.kept
      rw [e, e2] at hj
      cases hj
      exact h2 _ _ rfl, fun o' e => by rw [hj] at e; cases e; exact h1⟩)
  refine ⟨⟨?_, ?_, isQ_keep h.q fun j cs t hj ht => off _ _ hj ?_ (by simp), isL_keep h.l fun j cs t hj ht => off _ _ hj ?_ (by simp), hc.ok, h.bq, h.bl, h.g, ?_⟩, Ke.of_kc hc.fr (.inl rfl) (.inr (.inl rfl)), ?_⟩
  · show w'.heap[a.e]? = some (.cells #[PTR a.ag, PTR a.qg, PTR a.lg, PTR c'.g, a.pl, _, _] 95 (0, 0))
    rw [hc.g]
    exact (off _ _ h.blk (cKind_cells (by decide) (by decide) (by decide) (by decide)) (by simp)).trans h.blk
  · obtain ⟨x, y, z, t, e⟩ := h.arr
    exact ⟨x, y, z, t, (off _ _ e (cKind_cells (by decide) (by decide) (by decide) (by decide)) (by simp)).trans e⟩
  · rcases ht with rfl | rfl <;> exact cKind_cells (by decide) (by decide) (by decide) (by decide)
  · rcases ht with rfl | rfl <;> exact cKind_cells (by decide) (by decide) (by decide) (by decide)
  · show (s'.n : Int) = s.m - 2
    rw [hc.n]; exact h.n
  · unfold EA.X
    show (fun k => k = c'.m ∨ k = c'.t.mp ∨ k = a.qg ∨ k = a.lg) = _
    rw [hc.m, hc.mp]
end Go.Proofs.YtgpkpheejefiiaaGreatDoor
end
section
set_option linter.unusedVariables false
set_option linter.unusedSimpArgs false
namespace Go.Proofs.YtgpkpheejefiiaaGreatDoor
open Go.RowKit
set_option maxRecDepth 100000
theorem nil53n (w : World) (p : Option Addr) : (binOp .neq 53 (.pointer p) (.pointer none)).run Tryz.prog w = .ok (.bool !p.isNone) w := run_neq_pointer_nil (P := Tryz.prog) w 53 p Tryz.underlying53
theorem nil33 (w : World) (p : Option Addr) : (binOp .eql 33 (.pointer p) (.pointer none)).run Tryz.prog w = .ok (.bool p.isNone) w := run_eql_pointer_nil (P := Tryz.prog) w 33 p Tryz.underlying33
set_option maxHeartbeats 2000000 in
theorem down80 (w : World) (g : Nat) (h : ∃ x y z t, w.heap[g]? = some (.cells #[x, y, z, t, .bool false] 121 (0, 0))) : Calls Tryz.prog 80 #[PTR g] w fun e w' => e = .returned (.bool false) ∧ Bel w w' := by
  obtain ⟨x, y, z, t, h⟩ := h
  have c4 := blk_cell h 4
  have hn := nil53n
  clear h
  go_enter Tryz.func80, Tryz.ntmps80
  go_wp2_with fail
  go_ret
  exact ⟨rfl, Bel.refl w⟩
set_option maxHeartbeats 2000000 in
theorem up35 (w : World) (base : Nat) (a : EA) (s : ES) (h : IsE w base a s) : Calls Tryz.prog 35 #[PTR a.e] w fun e w' => e = .returned (.int .i64 0) ∧ Bel w w' := by
  have K := Lib.hid (down80 w a.ag h.arr)
  have c0 := blk_cell h.blk 0
  have hn := nil33
  clear h
  go_enter Tryz.func35, Tryz.ntmps35
  go_wp2_with fail
  refine K.out.mono ?_
  rintro e w1 ⟨rfl, hb1⟩
  go_wp2_with fail
  go_ret
  exact ⟨rfl, hb1⟩
theorem info113 : (Tryz.prog.info? 113).map (·.size) = some 3 := by kernel_rfl
theorem set3 {w : World} {g : Nat} {x0 x1 x2 : Value} {t : TypeId} (h : w.heap[g]? = some (.cells #[x0, x1, x2] t (0, 0))) (y0 y1 y2 : Value) :
    (((w.setCell ⟨g, 0, none⟩ y0).setCell ⟨g, 1, none⟩ y1).setCell ⟨g, 2, none⟩ y2).heap[g]? = some (.cells #[y0, y1, y2] t (0, 0)) :=
  setc_blk (i := 2) (setc_blk (i := 1) (setc_blk (i := 0) h y0) y1) y2
theorem Bel.set3 {w w1 : World} (h : Bel w w1) {g : Nat} (hp : w.heap.size ≤ g) (v0 v1 v2 : Value) : Bel w (((w1.setCell ⟨g, 0, none⟩ v0).setCell ⟨g, 1, none⟩ v1).setCell ⟨g, 2, none⟩ v2) :=
  ((h.set (p := ⟨g, 0, none⟩) hp v0).set (p := ⟨g, 1, none⟩) hp v1).set (p := ⟨g, 2, none⟩) hp v2
set_option maxHeartbeats 2000000 in
theorem find47 (w : World) (base : Nat) (a : EA) (s : ES) (b : Int) (h : IsE w base a s) (h0 : 0 ≤ b) (h1 : b < (s.m - 2) * s.s) : Calls Tryz.prog 47 #[PTR a.e, .int .i64 b] w fun e w' => ∃ x y, e = .returned (.tuple #[.agg #[.int .i64 b, .int .i64 x, .int .i64 y], .int .i64 0]) ∧ Bel w w' := by
  have K1 := Lib.hid (fun w1 (h1 : IsE w1 base a s) => up35 w1 base a s h1)
  have K2 := Lib.hid (fun w1 => find37 s.m s.s b w1 h.g h0 h1)
  have H := Lib.hid h
  clear h h0 h1
  generalize b / (s.m - 2) = x at *
  generalize b % (s.m - 2) = y at *
  go_enter Tryz.func47, Tryz.ntmps47
  go_wp2_with fail
  refine (K1.out _ (H.out.bel (Bel.alloc w _))).mono ?_
  rintro e w1 ⟨rfl, hb1⟩
  have n1 := blk_below (heap_alloc_new w (.cells #[.int .i64 0, .int .i64 0, .int .i64 0] 113)) hb1
  have HB1 := Lib.hid ((Bel.alloc w _).trans hb1)
  have H1 := Lib.hid (H.out.bel HB1.out)
  have c5 := blk_cell H1.out.blk 5
  have c6 := blk_cell H1.out.blk 6
  clear hb1
  go_wp2_with fail
  refine (K2.out _).mono ?_
  rintro e w2 ⟨rfl, hb2⟩
  have n2 := blk_below n1 hb2
  have e0 := blk_cell n2 0
  have e1 := blk_cell n2 1
  have e2 := blk_cell n2 2
  have f2 := blk_frozen n2
  have HB2 := Lib.hid (HB1.out.trans hb2)
  clear hb2 c5 c6
  go_wp2_with fail
  refine bodyPost_ret (res_ct rfl _ _ w.heap.size 113 #[.int .i64 b, .int .i64 x, .int .i64 y] (0, 0) _ rfl (set3 n2 _ _ _) Tryz.underlying113 rfl info113) rfl ?_
  exact ⟨x, y, rfl, HB2.out.set3 (Nat.le_refl _) _ _ _⟩
end Go.Proofs.YtgpkpheejefiiaaGreatDoor
end
section
set_option linter.unusedVariables false
set_option linter.unusedSimpArgs false
namespace Go.Proofs.YtgpkpheejefiiaaGreatDoor
open Go.RowKit
set_option maxRecDepth 100000
structure ELaw (s : ES) : Prop where
  q : Q20.OkQ s.q
  l : L21.Ok s.l
  same : ∀ k, Q20.has s.q k = L21.has s.l k
  rng : ∀ k, L21.has s.l k = true → 0 ≤ k ∧ k < (s.m - 2) * s.s
  most : s.q.most = 40
theorem GOK.blocks {m s : Int} (h : GOK m s) : 2 ≤ (m - 2) * s ∧ (m - 2) * s ≤ 30 := by
  have h1 := h.m1; have h2 := h.m2; have h3 := h.s1; have h4 := h.s2
  have hle : (m - 2) * s ≤ 5 * 6 := Int.mul_le_mul (by omega) h4 (by omega) (by omega)
  have hge : 2 * 1 ≤ (m - 2) * s := Int.mul_le_mul (by omega) h3 (by omega) (by omega)
  exact ⟨by omega, by omega⟩
/-- Never full. -/
theorem ELaw.room {s : ES} (h : ELaw s) (hg : GOK s.m s.s) : Q20.fullP s.q = false := by
  have hl : s.q.rs.length ≤ 30 := by
    have hnd : (s.q.rs.map Q20.El.f0).Nodup := by
      have := (Q20.rising_iff s.q.rs).1 h.q.up
      exact List.pairwise_map.2 (this.imp fun {x y} h => by show x.f0 ≠ y.f0; omega)
    have := pigeonN 30 hnd (fun k hk => by
      obtain ⟨x, hx, rfl⟩ := List.mem_map.1 hk
      have h1 := (Q20.nth_key h.q hx).1
      rw [h.same] at h1
      have := h.rng _ h1
      have := hg.blocks
      omega)
    simpa using this
  unfold Q20.fullP
  rw [h.most]
  simp
  omega
set_option maxHeartbeats 4000000 in
theorem write11 (w : World) (base : Nat) (a : EA) (s : ES) (b : Int) (d : ByteArray) (h : IsE w base a s) (hL : ELaw s) (h0 : 0 ≤ b) (h1 : b < (s.m - 2) * s.s) (hd : d.size = 64) (hc : s.q.clock ≤ 1000000) (ha : s.l.added ≤ 1000000) (hb : base ≤ w.heap.size) :
    Calls Tryz.prog 11 #[PTR a.e, .int .i64 b, .string d] w fun e w' => ∃ vq' vl', e = .returned (.int .i64 0) ∧ IsE w' base { a with vq := vq', vl := vl' } { s with q := Q20.putS s.q b d, l := L21.addS s.l b } ∧ Ke base a.X w w' := by
  have K1 := Lib.hid (find47 w base a s b h h0 h1)
  have K2 := Lib.hid (fun w1 (h1 : IsE w1 base a s) => Q20.getQ w1 base a.qg a.vq s.q b hL.q.up (by have := hL.q.len'; omega) h1.q)
  have K3 := Lib.hid (fun w1 (h1 : IsE w1 base a s) => Q20.fullQ w1 base a.qg a.vq s.q h1.q)
  rw [hL.room h.g] at K3
  have K4 := Lib.hid (fun w1 (hb1 : base ≤ w1.heap.size) (h1 : IsE w1 base a s) => Q20.putQ w1 base a.qg a.vq s.q b d hL.q.up hL.q.len' (by omega) hL.q.clock hc hb1 h1.q)
  have K5 := Lib.hid (fun w1 v (hb1 : base ≤ w1.heap.size) (h1 : L21.IsL w1 base a.lg v s.l) => L21.addL w1 base a.lg v s.l b hL.l ha hb1 h1)
  have H := Lib.hid h
  have HB := Lib.hid hb
  generalize (if Q20.has s.q b = true then (Q20.nth s.q.rs (Q20.pos s.q.rs b)).f1 else ⟨#[]⟩) = gt at *
  generalize Q20.has s.q b = gb at *
  have hdl : ((d.size : Nat) : Int) = 64 := by omega
  clear h hL h0 h1 hc ha hb
  cases gb
  · skip
    go_enter Tryz.func11, Tryz.ntmps11
    go_wp2_with fail
    refine K1.out.mono ?_
    rintro e w1 ⟨x, y, rfl, hb1⟩
    have HB1 := Lib.hid hb1
    have hE1 := (H.out.bel hb1).blk
    have c1 : ∀ o, (w1.alloc o).cell? ⟨a.e, 1, none⟩ = some (PTR a.qg) := fun o => blk_cell (blk_below hE1 (Bel.alloc w1 o)) 1
    have ne1 : a.e ≠ w1.heap.size := fun e => by have := blk_lt hE1; omega
    have ne2 : w1.heap.size ≠ a.e := fun e => ne1 e.symm
    clear hb1 hE1
    go_wp2_with fail
    have HW := Lib.hid (HB1.out.trans (Bel.alloc w1 (.cells #[.int .i64 b, .int .i64 x, .int .i64 y] 113)))
    refine (K2.out _ (H.out.bel HW.out)).mono ?_
    rintro e w2 ⟨rfl, hb2⟩
    have HB2 := Lib.hid (HW.out.trans hb2)
    have H2 := Lib.hid (H.out.bel HB2.out)
    have c1 := blk_cell H2.out.blk 1
    clear hb2 ne1 ne2
    go_wp2_with fail
    refine (K3.out _ H2.out).mono ?_
    rintro e w3 ⟨rfl, hb3⟩
    have HT := Lib.hid (HB2.out.trans hb3)
    have HX := Lib.hid (H.out.bel HT.out)
    clear hb3
    have c1 := blk_cell HX.out.blk 1
    go_wp2_with fail
    refine (K4.out _ (Nat.le_trans HB.out HT.out.size) HX.out).mono ?_
    rintro e w5 ⟨v5, rfl, hq, hk⟩
    have HP := Lib.hid (HX.out.qput hq hk)
    have c2 := blk_cell HP.out.1.blk 2
    clear hq hk c1
    go_wp2_with fail
    refine (K5.out _ _ (Nat.le_trans HB.out (Nat.le_trans HT.out.size HP.out.2.size)) HP.out.1.l).mono ?_
    rintro e w6 ⟨v6, rfl, hl, hk⟩
    have HR := Lib.hid (HP.out.1.lput hl hk)
    clear hl hk c2
    go_wp2_with fail
    go_ret
    exact ⟨v5, v6, rfl, HR.out.1, ((Ke.of_bel HT.out).trans HP.out.2).trans HR.out.2⟩
  · skip
    go_enter Tryz.func11, Tryz.ntmps11
    go_wp2_with fail
    refine K1.out.mono ?_
    rintro e w1 ⟨x, y, rfl, hb1⟩
    have HB1 := Lib.hid hb1
    have hE1 := (H.out.bel hb1).blk
    have c1 : ∀ o, (w1.alloc o).cell? ⟨a.e, 1, none⟩ = some (PTR a.qg) := fun o => blk_cell (blk_below hE1 (Bel.alloc w1 o)) 1
    have ne1 : a.e ≠ w1.heap.size := fun e => by have := blk_lt hE1; omega
    have ne2 : w1.heap.size ≠ a.e := fun e => ne1 e.symm
    clear hb1 hE1
    go_wp2_with fail
    have HW := Lib.hid (HB1.out.trans (Bel.alloc w1 (.cells #[.int .i64 b, .int .i64 x, .int .i64 y] 113)))
    refine (K2.out _ (H.out.bel HW.out)).mono ?_
    rintro e w2 ⟨rfl, hb2⟩
    have HB2 := Lib.hid (HW.out.trans hb2)
    have H2 := Lib.hid (H.out.bel HB2.out)
    have c1 := blk_cell H2.out.blk 1
    clear hb2 ne1 ne2
    go_wp2_with fail
    have HT := HB2
    have HX := H2
    refine (K4.out _ (Nat.le_trans HB.out HT.out.size) HX.out).mono ?_
    rintro e w5 ⟨v5, rfl, hq, hk⟩
    have HP := Lib.hid (HX.out.qput hq hk)
    have c2 := blk_cell HP.out.1.blk 2
    clear hq hk c1
    go_wp2_with fail
    refine (K5.out _ _ (Nat.le_trans HB.out (Nat.le_trans HT.out.size HP.out.2.size)) HP.out.1.l).mono ?_
    rintro e w6 ⟨v6, rfl, hl, hk⟩
    have HR := Lib.hid (HP.out.1.lput hl hk)
    clear hl hk c2
    go_wp2_with fail
    go_ret
    exact ⟨v5, v6, rfl, HR.out.1, ((Ke.of_bel HT.out).trans HP.out.2).trans HR.out.2⟩
end Go.Proofs.YtgpkpheejefiiaaGreatDoor
end
section
set_option linter.unusedVariables false
set_option linter.unusedSimpArgs false
namespace Go.Proofs.YtgpkpheejefiiaaGreatDoor
open Go.RowKit
set_option maxRecDepth 100000
set_option maxHeartbeats 4000000 in
theorem dispatch9_none (w : World) (base : Nat) (a : EA) (s : ES) (h : IsE w base a s) (hL : ELaw s) (hsm : ∀ x ∈ s.l.rs, x.f1 ≤ 1000000) (hp : L21.pickB s.l = false) :
    Calls Tryz.prog 9 #[PTR a.e] w fun e w' => ∃ vl' k, e = .returned (.tuple #[.int .i64 k, .int .i64 11]) ∧ IsE w' base { a with vl := vl' } { s with l := L21.pickS s.l } ∧ Ke base a.X w w' := by
  have K1 := Lib.hid (up35 w base a s h)
  have K2 := Lib.hid (fun w1 (h1 : L21.IsL w1 base a.lg a.vl s.l) => L21.pickL w1 base a.lg a.vl s.l hL.l hsm h1)
  rw [hp] at K2
  have H := Lib.hid h
  clear h hL hsm hp
  go_enter Tryz.func9, Tryz.ntmps9
  go_wp2_with fail
  refine K1.out.mono ?_
  rintro e w1 ⟨rfl, hb1⟩
  have HB1 := Lib.hid hb1
  have H1 := Lib.hid (H.out.bel hb1)
  have c2 := blk_cell H1.out.blk 2
  clear hb1
  go_wp2_with fail
  refine (K2.out _ H1.out.l).mono ?_
  rintro e w2 ⟨v2, rfl, hl, hk⟩
  have HP := Lib.hid (H1.out.lput hl hk)
  clear hl hk c2
  go_wp2_with fail
  go_ret2
  exact ⟨v2, _, rfl, HP.out.1, (Ke.of_bel HB1.out).trans HP.out.2⟩
set_option maxHeartbeats 4000000 in
theorem dispatch9 (w : World) (base : Nat) (a : EA) (s : ES) (h : IsE w base a s) (hL : ELaw s) (hsm : ∀ x ∈ s.l.rs, x.f1 ≤ 1000000) (hp : L21.pickB s.l = true) (hh : L21.has s.l (L21.pickK s.l) = true) (hb : base ≤ w.heap.size) :
    Calls Tryz.prog 9 #[PTR a.e] w fun e w' => ∃ vq' vl' c' s', e = .returned (.tuple #[.int .i64 (L21.pickK s.l), .int .i64 0]) ∧ IsE w' base { a with vq := vq', vl := vl', c := c' } { s with q := Q20.takeS s.q (L21.pickK s.l), l := L21.pickS s.l, c := s' } ∧ Ke base a.X w w' ∧ EA.X { a with c := c' } = a.X := by
  have hr := hL.rng _ hh
  have hq : Q20.has s.q (L21.pickK s.l) = true := by rw [hL.same]; exact hh
  have hm := h.g.m1
  have hs2 := h.g.s2
  have hx0 : 0 ≤ L21.pickK s.l / (s.m - 2) := Int.ediv_nonneg hr.1 (by omega)
  have hx1 : L21.pickK s.l / (s.m - 2) < s.s := Int.ediv_lt_of_lt_mul (by omega) (by rw [Int.mul_comm]; exact hr.2)
  have hy0 : 0 ≤ L21.pickK s.l % (s.m - 2) := Int.emod_nonneg _ (by omega)
  have hy1 : L21.pickK s.l % (s.m - 2) < s.m - 2 := Int.emod_lt_of_pos _ (by omega)
  obtain ⟨c, hc⟩ : ∃ c : Nat, L21.pickK s.l % (s.m - 2) = c := ⟨_, (Int.toNat_of_nonneg hy0).symm⟩
  have hcn : c < s.c.n := by have := h.n; omega
  have hsz : (Q20.nth s.q.rs (Q20.pos s.q.rs (L21.pickK s.l))).f1.size = 64 := by
    have := (Q20.has_at hq).1
    exact hL.q.data _ (Q20.nth_mem this)
  have K1 := Lib.hid (up35 w base a s h)
  have K2 := Lib.hid (fun w1 (h1 : L21.IsL w1 base a.lg a.vl s.l) => L21.pickL w1 base a.lg a.vl s.l hL.l hsm h1)
  have K3 := Lib.hid (fun w1 => find37 s.m s.s (L21.pickK s.l) w1 h.g hr.1 hr.2)
  have K4 := Lib.hid (fun w1 (h1 : Q20.IsQ w1 base a.qg a.vq s.q) => Q20.getQ w1 base a.qg a.vq s.q (L21.pickK s.l) hL.q.up (by have := hL.q.len'; omega) h1)
  have K5 := Lib.hid (fun w1 (hb1 : base ≤ w1.heap.size) (h1 : IsC w1 base a.c s.c) => put39 w1 base a.c s.c (L21.pickK s.l / (s.m - 2)) c _ h1 hx0 (by omega) hcn hsz hb1)
  have K6 := Lib.hid (fun w1 (hb1 : base ≤ w1.heap.size) (h1 : Q20.IsQ w1 base a.qg a.vq s.q) => Q20.takeQ w1 base a.qg a.vq s.q (L21.pickK s.l) hL.q.up hL.q.len' hb1 h1)
  rw [hc] at K3
  rw [hp] at K2
  rw [hq, if_pos rfl] at K4
  have H := Lib.hid h
  have HB := Lib.hid hb
  clear h hL hsm hp hh hb hr hq hm hs2 hx0 hx1 hy0 hy1 hc hcn hsz
  generalize (Q20.nth s.q.rs (Q20.pos s.q.rs (L21.pickK s.l))).f1 = gt at *
  generalize L21.pickK s.l / (s.m - 2) = x at *
  generalize L21.pickK s.l = k at *
  go_enter Tryz.func9, Tryz.ntmps9
  go_wp2_with fail
  refine K1.out.mono ?_
  rintro e w1 ⟨rfl, hb1⟩
  have HB1 := Lib.hid hb1
  have H1 := Lib.hid (H.out.bel hb1)
  have c2 := blk_cell H1.out.blk 2
  clear hb1
  go_wp2_with fail
  refine (K2.out _ H1.out.l).mono ?_
  rintro e w2 ⟨v2, rfl, hl, hk⟩
  have HP := Lib.hid (H1.out.lput hl hk)
  have c5 := blk_cell HP.out.1.blk 5
  have c6 := blk_cell HP.out.1.blk 6
  clear hl hk c2
  go_wp2_with fail
  refine (K3.out _).mono ?_
  rintro e w3 ⟨rfl, hb3⟩
  have HB3 := Lib.hid hb3
  have H3 := Lib.hid (HP.out.1.bel hb3)
  have c1 := blk_cell H3.out.blk 1
  clear hb3 c5 c6
  go_wp2_with fail
  refine (K4.out _ H3.out.q).mono ?_
  rintro e w4 ⟨rfl, hb4⟩
  have HB4 := Lib.hid hb4
  have H4 := Lib.hid (H3.out.bel hb4)
  have c3 := blk_cell H4.out.blk 3
  clear hb4 c1
  go_wp2_with fail
  have HS := Lib.hid (Nat.le_trans HB.out (Nat.le_trans HB1.out.size (Nat.le_trans HP.out.2.size (Nat.le_trans HB3.out.size HB4.out.size))))
  refine (K5.out _ HS.out H4.out.c).mono ?_
  rintro e w5 ⟨a5, s5, rfl, hc5⟩
  have HC := Lib.hid (H4.out.cput hc5)
  have c1 := blk_cell HC.out.1.blk 1
  clear hc5 c3
  go_wp2_with fail
  refine (K6.out _ (Nat.le_trans HS.out HC.out.2.1.size) HC.out.1.q).mono ?_
  rintro e w6 ⟨v6, rfl, hq, hk⟩
  have HQ := Lib.hid (HC.out.1.qput hq hk)
  clear hq hk c1
  go_wp2_with fail
  go_ret2
  refine ⟨v6, v2, a5, s5, rfl, HQ.out.1, ?_, HC.out.2.2⟩
  have e2 := HQ.out.2
  have e1 := HC.out.2.1
  have e3 := HC.out.2.2
  rw [e3] at e2
  exact (((((Ke.of_bel HB1.out).trans HP.out.2).trans (Ke.of_bel HB3.out)).trans (Ke.of_bel HB4.out)).trans e1).trans e2
end Go.Proofs.YtgpkpheejefiiaaGreatDoor
end
section
set_option linter.unusedVariables false
set_option linter.unusedSimpArgs false
namespace Go.Proofs.YtgpkpheejefiiaaGreatDoor
open Go.RowKit
set_option maxRecDepth 100000
set_option maxHeartbeats 4000000 in
theorem pending10 (w : World) (base : Nat) (a : EA) (s : ES) (h : IsE w base a s) :
    Calls Tryz.prog 10 #[PTR a.e] w fun e w' => ∃ r, e = .returned (.tuple #[.int .i64 s.q.rs.length, .int .i64 r]) ∧ Bel w w' := by
  have K1 := Lib.hid (dirty43 w base a.c s.c h.c)
  have K2 := Lib.hid (fun w1 k (h1 : IsC w1 base a.c s.c) => have44 w1 base a.c s.c k h1)
  have K3 := Lib.hid (fun w1 (h1 : IsE w1 base a s) => Q20.lenQ w1 base a.qg a.vq s.q h1.q)
  have K4 := Lib.hid count45
  have hn := nil33
  have H := Lib.hid h
  have c3 := blk_cell h.blk 3
  clear h
  generalize s.q.rs.length = ql at *
  go_enter Tryz.func10, Tryz.ntmps10
  go_wp2_with fail
  refine K1.out.mono ?_
  rintro e w1 ⟨v, l, rfl, hr, hl6, hb1⟩
  obtain ⟨A, cap, rfl, hcap, hR⟩ := readsI hr
  obtain ⟨n, hn1⟩ : ∃ n, n = l.length := ⟨_, rfl⟩
  rw [← hn1] at hl6 hcap hR hr ⊢
  have HR := Lib.hid hR
  have HX : Hid (Bel w w1 ∧ Bel w1 w1) := Lib.hid ⟨hb1, Bel.refl _⟩
  have HN1 := Lib.hid hn1
  have HB1 := Lib.hid hb1
  clear hr hR hcap c3 hn1 hb1
  go_wp2_with fail
  go_loopw [4, 17] (fun v4 v17 wr => ∃ (k : Nat) (t : Int), v17 = .int .i64 k ∧ v4 = .int .i64 t ∧ k ≤ n ∧ Hid (Bel w wr ∧ Bel w1 wr)) (fun _ v17 _ => n - (intOf v17).toNat)
  case atStart => exact ⟨0, 0, rfl, rfl, by omega, HX⟩
  case round =>
    obtain ⟨wi, rfl⟩ : ∃ wi : World, wi = wr := ⟨_, rfl⟩
    obtain ⟨k, t, rfl, rfl, hk, HI⟩ := hrel
    have H3 := Lib.hid HI.out
    have hci := H.out.bel HI.out.1
    by_cases hlt : k < n
    · obtain ⟨g, rfl, _, hcell⟩ := HR.out (by omega)
      have hx := cellB H3.out.2 (hcell k hlt)
      generalize KI.nth l k = y at *
      have c3 := blk_cell hci.blk 3
      have hlt' : decide ((k : Int) < n) = true := by simp; omega
      clear hcell HX HI hci
      go_wp2_with fail
      refine (K2.out _ _ (H.out.bel H3.out.1).c).mono ?_
      rintro e w2 ⟨x, z, rfl, hb2⟩
      have HB2 := Lib.hid hb2
      clear hx c3 hb2
      go_wp2_with fail
      refine (K4.out _ _ _ _ _).mono ?_
      rintro e w3 ⟨r, rfl, hb3⟩
      have hall := HB2.out.trans ((belA2 w2 (.cells #[.int .u64 x.a, .int .u64 x.b, .int .u64 x.c, .int .u64 x.d] 109) (.cells #[.int .u64 z.a, .int .u64 z.b, .int .u64 z.c, .int .u64 z.d] 109)).trans hb3)
      have HA := Lib.hid hall
      clear hb3 hall
      go_wp2_with fail
      exact ⟨⟨k + 1, _, by congr 1, rfl, by omega, Lib.hid ⟨H3.out.1.trans HA.out, H3.out.2.trans HA.out⟩⟩, by simp [intOf]; omega⟩
    · have hkn : k = n := by omega
      subst hkn
      have hlt' : decide ((k : Int) < k) = false := by simp
      have c1 := blk_cell hci.blk 1
      clear hci HI
      go_wp2_with fail
      refine (K3.out _ (H.out.bel H3.out.1)).mono ?_
      rintro e w2 ⟨rfl, hb2⟩
      have HB2 := Lib.hid hb2
      clear hb2 c1
      go_wp2_with fail
      go_ret2
      exact ⟨t, rfl, H3.out.1.trans HB2.out⟩
end Go.Proofs.YtgpkpheejefiiaaGreatDoor
end
