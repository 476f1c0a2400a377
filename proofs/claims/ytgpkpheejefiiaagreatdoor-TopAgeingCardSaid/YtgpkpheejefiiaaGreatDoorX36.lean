/- The engine, plainly: what a write and a dispatch do to the queue and the lift. | The law's loop, plainly. | Maps of plain elements, that the call has made: what they hold is a function of the keys. | The law's map of what is due. | The law's loop: what stands at its calls. -/
import Derived.Test.YtgpkpheejefiiaaGreatDoorX28
import Derived.Maps.OwnSet
import Derived.Maps.OwnOps
import Derived.Maps.Views
import Derived.WalkKit
import Derived.Maps.RangeWalk
section
set_option linter.unusedVariables false
set_option linter.unusedSimpArgs false
namespace Go.Proofs.YtgpkpheejefiiaaGreatDoor
open Go.RowKit
set_option maxRecDepth 100000
theorem bool_ext {a b : Bool} (h : a = true ↔ b = true) : a = b := by cases a <;> cases b <;> simp_all
/-- As many in the queue as in the lift. -/
theorem ELaw.len {s : ES} (h : ELaw s) : s.q.rs.length = s.l.rs.length := by
  have n1 : (s.q.rs.map Q20.El.f0).Nodup := List.pairwise_map.2 (((Q20.rising_iff s.q.rs).1 h.q.up).imp fun {x y} h => by show x.f0 ≠ y.f0; omega)
  have n2 : (s.l.rs.map L21.El.f0).Nodup := List.pairwise_map.2 (((L21.rising_iff s.l.rs).1 h.l.up).imp fun {x y} h => by show x.f0 ≠ y.f0; omega)
  have hp : (s.q.rs.map Q20.El.f0).Perm (s.l.rs.map L21.El.f0) := (List.perm_ext_iff_of_nodup n1 n2).2 fun k => by
    have h1 := Q20.has_iff h.q.up k
    have h2 := L21.has_iff h.l.up k
    rw [h.same k] at h1
    rw [List.mem_map, List.mem_map]
    exact h1.symm.trans h2
  simpa using hp.length_eq
theorem addE_in {s : L21.LS} {k : Int} (h0 : 0 ≤ k) (h1 : k < 1000) (hl : s.rs.length < 256) : (L21.has s k = false → L21.addE s k = 0) ∧ (L21.has s k = true → L21.addE s k = 11) := by
  unfold L21.addE
  rw [if_neg (by omega)]
  constructor
  · intro h
    rw [if_neg (by simp [h]), if_neg (by omega)]
  · intro h
    rw [if_pos h]
theorem addS_keep {s : L21.LS} {k : Int} (h : L21.addE s k ≠ 0) : L21.addS s k = s := by unfold L21.addS; rw [if_neg h]
theorem putS_most (s : Q20.QS) (k : Int) (d : ByteArray) : (Q20.putS s k d).most = s.most := by unfold Q20.putS; split <;> rfl
theorem takeS_most (s : Q20.QS) (k : Int) : (Q20.takeS s k).most = s.most := by unfold Q20.takeS; split <;> rfl
theorem ELaw.putE {s : ES} (h : ELaw s) (hg : GOK s.m s.s) {k : Int} {d : ByteArray} (h0 : 0 ≤ k) (h1 : k < (s.m - 2) * s.s) (hd : d.size = 64) : Q20.putE s.q k d = 0 := by
  have := hg.blocks
  unfold Q20.putE
  rw [if_neg (by omega), if_neg (by omega), h.room hg]
  split <;> simp
theorem ELaw.llen {s : ES} (h : ELaw s) (hg : GOK s.m s.s) : s.l.rs.length < 40 := by
  rw [← h.len]
  have := h.room hg
  unfold Q20.fullP at this
  rw [h.most] at this
  simp at this
  omega
/-- Behind a write. -/
theorem ELaw.write {s : ES} (h : ELaw s) (hg : GOK s.m s.s) {k : Int} {d : ByteArray} (h0 : 0 ≤ k) (h1 : k < (s.m - 2) * s.s) (hd : d.size = 64) : ELaw { s with q := Q20.putS s.q k d, l := L21.addS s.l k } := by
  have he := h.putE hg h0 h1 hd
  have hb := hg.blocks
  have hll := h.llen hg
  have ha := addE_in (s := s.l) h0 (show k < 1000 by omega) (by omega)
  have key : ∀ x, L21.has (L21.addS s.l k) x = true ↔ L21.has s.l x = true ∨ x = k := fun x => by
    cases hh : L21.has s.l k
    · exact L21.has_addS h.l (ha.1 hh) x
    · rw [addS_keep (by rw [ha.2 hh]; decide)]
      constructor
      · exact .inl
      · rintro (e | rfl)
        · exact e
        · exact hh
  refine ⟨Q20.ok_put h.q k d, L21.ok_add h.l k, fun x => bool_ext ?_, fun x hx => ?_, (putS_most _ _ _).trans h.most⟩
  · rw [Q20.has_put h.q he, key, h.same]
  · rcases (key x).1 hx with e | rfl
    · exact h.rng x e
    · exact ⟨h0, h1⟩
/-- Behind a dispatch. -/
theorem ELaw.disp {s : ES} (h : ELaw s) (hp : 0 < s.l.rs.length) (c' : CS) : ELaw { s with q := Q20.takeS s.q (L21.pickK s.l), l := L21.pickS s.l, c := c' } := by
  refine ⟨Q20.ok_take h.q _, L21.ok_pick h.l, fun x => bool_ext ?_, fun x hx => ?_, (takeS_most _ _).trans h.most⟩
  · rw [Q20.has_take h.q, L21.has_pick h.l hp, h.same]
  · exact h.rng x ((L21.has_pick h.l hp x).1 hx).1
theorem pick_has {s : L21.LS} (h : L21.Ok s) (h0 : 0 < s.rs.length) : L21.has s (L21.pickK s) = true := by
  obtain ⟨x, hx, e⟩ := L21.pickK_mem h h0
  exact (L21.has_iff h.up _).2 ⟨x, hx, e⟩
/-- New ones. -/
theorem elaw_new (m s : Int) (age : Int) (c : CS) : ELaw ⟨m, s, ⟨max 1 (min 40 256), 0, []⟩, ⟨max 1 (min age 65536), 0, 0, []⟩, c⟩ :=
  ⟨Q20.okq_new 40, (L21.bd_new (max 1 (min age 65536)) (by omega) (by omega)).ok, fun x => by unfold Q20.has Q20.isAt L21.has L21.isAt; simp, fun x hx => by unfold L21.has L21.isAt at hx; simp at hx, rfl⟩
end Go.Proofs.YtgpkpheejefiiaaGreatDoor
end
section
set_option linter.unusedVariables false
set_option linter.unusedSimpArgs false
namespace Go.Proofs.YtgpkpheejefiiaaGreatDoor
open Go.RowKit
set_option maxRecDepth 100000
/-- k acts are done, p keys are served. -/
structure B1 (s : ES) (ag p : Int) (gd : Int → Option Int) (k : Nat) : Prop where
  bd : L21.Bd s.l ag p gd
  law : ELaw s
  p0 : 0 ≤ p
  pk : p ≤ k
  add : s.l.added ≤ k
  wt : ∀ x ∈ s.l.rs, x.f1 ≤ k
  clk : s.q.clock ≤ k
theorem B1.next {s : ES} {ag p : Int} {gd : Int → Option Int} {k : Nat} (h : B1 s ag p gd k) : B1 s ag p gd (k + 1) :=
  ⟨h.bd, h.law, h.p0, by have := h.pk; omega, by have := h.add; omega, fun x hx => by have := h.wt x hx; omega, by have := h.clk; omega⟩
theorem takeS_clock (s : Q20.QS) (k : Int) : (Q20.takeS s k).clock = s.clock := by unfold Q20.takeS; split <;> rfl
theorem putS_clock (s : Q20.QS) (k : Int) (d : ByteArray) : (Q20.putS s k d).clock ≤ s.clock + 1 := by
  unfold Q20.putS
  split
  · exact Int.le_refl _
  · omega
theorem b1_disp {s : ES} {ag p : Int} {gd : Int → Option Int} {k : Nat} (h : B1 s ag p gd k) (h0 : 0 < s.l.rs.length) (c' : CS) :
    B1 { s with q := Q20.takeS s.q (L21.pickK s.l), l := L21.pickS s.l, c := c' } ag (p + 1) (fun z => if z = L21.pickK s.l then none else gd z) (k + 1) := by
  refine ⟨(L21.bd_pick h.bd h0).2, h.law.disp h0 c', by have := h.p0; omega, by have := h.pk; omega, by show (L21.pickS s.l).added ≤ _; rw [L21.pick_added]; have := h.add; omega, fun x hx => ?_, by show (Q20.takeS s.q _).clock ≤ _; rw [takeS_clock]; have := h.clk; omega⟩
  obtain ⟨y, hy, _, e, _⟩ := L21.mem_pick hx
  have := h.wt y hy
  rcases e with e | e <;> omega
theorem b1_write {s : ES} {ag p : Int} {gd : Int → Option Int} {k : Nat} (h : B1 s ag p gd k) (hg : GOK s.m s.s) (h0 : 0 ≤ ag) {key : Int} {d : ByteArray} (hk0 : 0 ≤ key) (hk1 : key < (s.m - 2) * s.s) (hd : d.size = 64) (hh : L21.has s.l key = false) :
    B1 { s with q := Q20.putS s.q key d, l := L21.addS s.l key } ag p (fun z => if z = key then some (p + ag + s.l.rs.length + 1) else gd z) (k + 1) := by
  have hb := hg.blocks
  have hll := h.law.llen hg
  have he := (addE_in (s := s.l) hk0 (show key < 1000 by omega) (by omega)).1 hh
  refine ⟨L21.bd_add h.bd h0 he, h.law.write hg hk0 hk1 hd, h.p0, by have := h.pk; omega, by show (L21.addS s.l key).added ≤ _; rw [L21.addS_of he]; have := h.add; show s.l.added + 1 ≤ _; omega, fun x hx => ?_, by have := putS_clock s.q key d; have := h.clk; show (Q20.putS s.q key d).clock ≤ _; omega⟩
  have hx : x ∈ (L21.addS s.l key).rs := hx
  rw [L21.addS_of he] at hx
  rcases (L21.mem_insR s.l key x).1 hx with hx | rfl
  · have := h.wt x hx; omega
  · simp only []; omega
/-- A key that waits is written anew. -/
theorem b1_again {s : ES} {ag p : Int} {gd : Int → Option Int} {k : Nat} (h : B1 s ag p gd k) (hg : GOK s.m s.s) {key : Int} {d : ByteArray} (hk0 : 0 ≤ key) (hk1 : key < (s.m - 2) * s.s) (hd : d.size = 64) (hh : L21.has s.l key = true) :
    B1 { s with q := Q20.putS s.q key d, l := L21.addS s.l key } ag p gd (k + 1) := by
  have hb := hg.blocks
  have hll := h.law.llen hg
  have he := (addE_in (s := s.l) hk0 (show key < 1000 by omega) (by omega)).2 hh
  have hS : L21.addS s.l key = s.l := addS_keep (by rw [he]; decide)
  have hw := h.law.write hg hk0 hk1 hd
  rw [hS] at hw ⊢
  exact ⟨h.bd, hw, h.p0, by have := h.pk; omega, by have := h.add; show s.l.added ≤ _; omega, fun x hx => by have := h.wt x hx; omega, by have := putS_clock s.q key d; have := h.clk; show (Q20.putS s.q key d).clock ≤ _; omega⟩
end Go.Proofs.YtgpkpheejefiiaaGreatDoor
end
section
set_option linter.unusedVariables false
set_option linter.unusedSimpArgs false
namespace Go.Proofs.YtgpkpheejefiiaaGreatDoor
open Go.Maps (Keyed IsMap Tidy)
open Go.RowKit
theorem plainElem_inj {H : Type} {P : Program} {e : TypeId} {u v : Value} {d : DataW H} {p q : List MemPlace} (h : plainElem P e u = some (d, p)) (k : plainElem P e v = some (d, q)) : u = v := by
  unfold plainElem at h k
  split at h
  · rename_i he
    cases h
    split at k
    · cases k; rfl
    · rename_i he2; rw [he] at he2; cases he2
    · rename_i he2; rw [he] at he2; cases he2
    · cases k
  · rename_i he
    split at h
    · rename_i hc
      obtain ⟨rfl, hw⟩ := hc
      cases h
      split at k
      · rename_i he2; rw [he] at he2; cases he2
      · rename_i he2
        split at k
        · rename_i hc2
          obtain ⟨rfl, hw2⟩ := hc2
          simp at k
          obtain ⟨⟨rfl, rfl⟩, _⟩ := k
          rfl
        · cases k
      · rename_i he2; rw [he] at he2; cases he2
      · cases k
    · cases h
  · rename_i he
    split at h
    · cases h
      split at k
      · rename_i he2; rw [he] at he2; cases he2
      · rename_i he2; rw [he] at he2; cases he2
      · split at k
        · simp at k
          have := k.1
          congr 1
          exact (ByteArray.ext this).symm
        · cases k
      · cases k
    · cases h
  · cases h
/-- Block b of w is a map: at the key x it holds g x; it has n entries. -/
def TMap {K A : Type} (P : Program) (k e : TypeId) (κ : K → Value) (ok : K → Prop) (ε : A → Value) (w : World) (b : Nat) (g : K → Option A) (n : Nat) : Prop :=
  ∃ D : DataW Unit, w.ownsMap P k (plainElem P e) b n D ∧ Maps.size D = n ∧ ∀ x, ok x → ∀ l, keyOf P k (κ x) = some l →
    ((∃ a d, g x = some a ∧ Maps.has D l = true ∧ plainElem P e (ε a) = some (d, []) ∧ ∀ z, D.atKey l z = d) ∨ (g x = none ∧ Maps.has D l = false))
section
variable {K A : Type} {P : Program} {k e t : TypeId} {κ : K → Value} {ok : K → Prop} {ε : A → Value} {w w' : World} {b n : Nat} {g : K → Option A}
theorem TMap.made (w : World) : TMap P k e κ ok ε (w.alloc (.map #[] 0)) w.heap.size (fun _ => none) 0 :=
  ⟨_, World.ownsMap_made w P k _, rfl, fun _ _ _ _ => .inr ⟨rfl, rfl⟩⟩
theorem TMap.made_at (w : World) {b : Nat} (hb : b = w.heap.size) : TMap P k e κ ok ε (w.alloc (.map #[] 0)) b (fun _ => none) 0 := by subst hb; exact TMap.made w
theorem TMap.lt (h : TMap P k e κ ok ε w b g n) : b < w.heap.size := by
  obtain ⟨D, h, _⟩ := h
  exact h.lt
theorem TMap.keep (h : TMap P k e κ ok ε w b g n) (hb : w'.heap[b]? = w.heap[b]?) : TMap P k e κ ok ε w' b g n := by
  obtain ⟨D, ⟨es, clock, h1, r⟩, h2⟩ := h
  exact ⟨D, ⟨es, clock, hb.trans h1, r⟩, h2⟩
theorem TMap.below (h : TMap P k e κ ok ε w b g n) (hb : Below w.heap.size w w') : TMap P k e κ ok ε w' b g n := h.keep (hb.block b h.lt)
theorem TMap.lookup (h : TMap P k e κ ok ε w b g n) (KK : Keyed P k) (ht : P.underlying t = some (.map k e)) {a0 : A} {zd : DataW Unit} (hz : (zeroValue e).run P w = .ok (ε a0) w) (hzd : plainElem P e (ε a0) = some (zd, []))
    {x : K} (hx : ok x) {l : Lit} (hkey : keyOf P k (κ x) = some l) : (Instr.lookup t (.map (some b)) (κ x) false).run P w = .ok (ε ((g x).getD a0)) w := by
  obtain ⟨D, h1, h2, h3⟩ := h
  obtain ⟨v, ps, hrun, hv⟩ := h1.lookup KK ht hz hzd hkey
  rcases h3 x hx l hkey with ⟨a, d, hg, _, ha, hat⟩ | ⟨hg, hn⟩
  · rw [hat zd] at hv
    rw [hrun, hg, plainElem_inj hv ha]
    rfl
  · rw [Maps.atKey_of_not_has hn zd] at hv
    rw [hrun, hg, plainElem_inj hv hzd]
    rfl
theorem TMap.update [DecidableEq K] (h : TMap P k e κ ok ε w b g n) (KK : Keyed P k) (ht : P.underlying t = some (.map k e)) (hn : n < maxLen) (hinj : ∀ x y, κ x = κ y → x = y) {x : K} {l : Lit} (hx : ok x) (hkey : keyOf P k (κ x) = some l)
    {a : A} {d : DataW Unit} (hd : plainElem P e (ε a) = some (d, [])) :
    ∃ w', (Instr.mapUpdate t (.map (some b)) (κ x) (ε a)).run P w = .ok () w' ∧ TMap P k e κ ok ε w' b (fun y => if y = x then some a else g y) (if (g x).isSome then n else n + 1) ∧ w.grownBy w' (some b) := by
  obtain ⟨D, h1, h2, h3⟩ := h
  obtain ⟨w', hrun, h4, h5⟩ := h1.update KK ht hn hkey hd
  have hsz : Maps.size (D.put l d) = if (g x).isSome then n else n + 1 := by
    rw [Maps.size_put (h1.tidy KK)]
    rcases h3 x hx l hkey with ⟨a', d', hg, hh, _⟩ | ⟨hg, hh⟩
    · rw [hg, hh, h2]; rfl
    · rw [hg, hh, h2]; rfl
  refine ⟨w', hrun, ⟨D.put l d, ?_, hsz, ?_⟩, h5⟩
  · obtain ⟨es, clock, r1, r2, r3, r4⟩ := h4
    refine ⟨es, clock, r1, r2, ?_, r4⟩
    have : Maps.size (D.put l d) = es.size := by rw [r4]; simp [Maps.size, length_sorted]
    omega
  · intro y hy l' hl'
    by_cases hyx : y = x
    · subst hyx
      rw [hkey] at hl'
      cases hl'
      refine .inl ⟨a, d, if_pos rfl, Maps.has_put_same h1.isMap (KK.key hkey) d, hd, fun z => Maps.atKey_put_same h1.isMap (KK.key hkey) d z⟩
    · have hne : l' ≠ l := by
        rintro rfl
        exact hyx (hinj _ _ (KK.inj hl' hkey))
      simp only [if_neg hyx]
      rcases h3 y hy l' hl' with ⟨a', d', r1, r2, r3, r4⟩ | ⟨r1, r2⟩
      · exact .inl ⟨a', d', r1, by rw [Maps.has_put_other hne]; exact r2, r3, fun z => by rw [Maps.atKey_put_other hne]; exact r4 z⟩
      · exact .inr ⟨r1, by rw [Maps.has_put_other hne]; exact r2⟩
theorem TMap.drop [DecidableEq K] (h : TMap P k e κ ok ε w b g n) (KK : Keyed P k) (ht : P.underlying t = some (.map k e)) (hinj : ∀ x y, κ x = κ y → x = y) {x : K} {l : Lit} (hx : ok x) (hkey : keyOf P k (κ x) = some l) (ty : TypeId) :
    ∃ w', (Builtin.delete_ #[t, k] ty #[.map (some b), κ x]).run P w = .ok (.tuple #[]) w' ∧ TMap P k e κ ok ε w' b (fun y => if y = x then none else g y) (if (g x).isSome then n - 1 else n) ∧ w.mapTurned w' b := by
  obtain ⟨D, h1, h2, h3⟩ := h
  obtain ⟨w', hrun, h4, h5⟩ := h1.drop KK ht hkey ty
  have hsz : Maps.size (D.del l) = if (g x).isSome then n - 1 else n := by
    have := Maps.size_del (k := l) (h1.tidy KK)
    rcases h3 x hx l hkey with ⟨a', d', hg, hh, _⟩ | ⟨hg, hh⟩
    · rw [hh] at this; rw [hg]; simp at this ⊢; omega
    · rw [hh] at this; rw [hg]; simp at this ⊢; omega
  refine ⟨w', hrun, ⟨D.del l, ?_, hsz, ?_⟩, h5⟩
  · obtain ⟨es, clock, r1, r2, r3, r4⟩ := h4
    refine ⟨es, clock, r1, r2, ?_, r4⟩
    have : Maps.size (D.del l) = es.size := by rw [r4]; simp [Maps.size, length_sorted]
    omega
  · intro y hy l' hl'
    by_cases hyx : y = x
    · subst hyx
      rw [hkey] at hl'
      cases hl'
      exact .inr ⟨if_pos rfl, Maps.has_del_same⟩
    · have hne : l' ≠ l := by
        rintro rfl
        exact hyx (hinj _ _ (KK.inj hl' hkey))
      simp only [if_neg hyx]
      rcases h3 y hy l' hl' with ⟨a', d', r1, r2, r3, r4⟩ | ⟨r1, r2⟩
      · exact .inl ⟨a', d', r1, by rw [Maps.has_del_other hne]; exact r2, r3, fun z => by rw [Maps.atKey_del_other hne]; exact r4 z⟩
      · exact .inr ⟨r1, by rw [Maps.has_del_other hne]; exact r2⟩
theorem TMap.len (h : TMap P k e κ ok ε w b g n) (ht : P.underlying t = some (.map k e)) (ty : TypeId) : (Builtin.len_ #[t] ty #[.map (some b)]).run P w = .ok (.int .i64 n) w := by
  obtain ⟨D, h1, h2, h3⟩ := h
  rw [h1.len ht ty, h2]
/-- 'm[k] = v' at the operation, for the walk. -/
theorem wpList_mapUpdate_T [DecidableEq K] {ops : Array Oper} {rest : List Oper} {o : Oper} {a : Act} {Q : Exit → Act → World → Prop} (hg : o.guard = none) (m x v : Operand) (hop : o.op = Op.mapUpdate t m x v)
    (KK : Keyed P k) (ht : P.underlying t = some (.map k e)) (h : TMap P k e κ ok ε w b g n) (hn : n < maxLen) (hinj : ∀ x y, κ x = κ y → x = y) (hm : a.eval m = .map (some b)) (y : K) (hx : a.eval x = κ y) (c : A) (hv : a.eval v = ε c) (l : Lit) (hy : ok y)
    (hkey : keyOf P k (κ y) = some l) (d : DataW Unit) (hd : plainElem P e (ε c) = some (d, []))
    (hK : ∀ w', TMap P k e κ ok ε w' b (fun z => if z = y then some c else g z) (if (g y).isSome then n else n + 1) → w.grownBy w' (some b) → wpList P ops Q rest (a.put o.dst undef) w') :
    wpList P ops Q (o :: rest) a w := by
  refine wpList_plain hg fun K' hK' => ?_
  obtain ⟨w', hrun, r1, r2⟩ := h.update KK ht hn hinj hy hkey hd
  unfold Oper.wp
  simp [execOp, hop, hm, hx, hv, hrun, Result.andThen]
  exact hK' _ _ (hK w' r1 r2)
/-- 'delete(m, k)' at the operation, for the walk. -/
theorem wpList_delete_T [DecidableEq K] {ops : Array Oper} {rest : List Oper} {o : Oper} {a : Act} {Q : Exit → Act → World → Prop} (hg : o.guard = none) (m x : Operand) (hop : o.op = Op.call { callee := Callee.builtin Builtin.delete, args := #[m, x], argTypes := #[t, k] })
    (KK : Keyed P k) (ht : P.underlying t = some (.map k e)) (h : TMap P k e κ ok ε w b g n) (hinj : ∀ x y, κ x = κ y → x = y) (hm : a.eval m = .map (some b)) (y : K) (hx : a.eval x = κ y) (l : Lit) (hy : ok y)
    (hkey : keyOf P k (κ y) = some l)
    (hK : ∀ w', TMap P k e κ ok ε w' b (fun z => if z = y then none else g z) (if (g y).isSome then n - 1 else n) → w.mapTurned w' b → wpList P ops Q rest (a.put o.dst (.tuple #[])) w') :
    wpList P ops Q (o :: rest) a w := by
  refine wpList_plain hg fun K' hK' => ?_
  obtain ⟨w', hrun, r1, r2⟩ := h.drop KK ht hinj hy hkey o.type
  unfold Oper.wp
  simp [execOp, hop, resolve, invoke, builtin, hm, hx, hrun, Result.andThen]
  exact hK' _ _ (hK w' r1 r2)
end
end Go.Proofs.YtgpkpheejefiiaaGreatDoor
end
section
set_option linter.unusedVariables false
set_option linter.unusedSimpArgs false
namespace Go.Proofs.YtgpkpheejefiiaaGreatDoor
open Go.RowKit
open Go.Maps (Keyed)
set_option maxRecDepth 100000
abbrev IM (w : World) (b : Nat) (g : Int → Option Int) (n : Nat) : Prop := TMap Tryz.prog 3 3 (fun x : Int => Value.int .i64 x) (fun x => (Lit.int .i64 x).wf = true) (fun b : Int => Value.int .i64 b) w b g n
theorem IM.isMap {w : World} {b n : Nat} {g : Int → Option Int} (h : IM w b g n) : ∃ es clock, w.heap[b]? = some (.map es clock) := by
  obtain ⟨D, ⟨es, clock, h1, _⟩, _⟩ := h
  exact ⟨es, clock, h1⟩
theorem IM.ke {base : Nat} {X : Nat → Prop} {w w' : World} {b n : Nat} {g : Int → Option Int} (h : IM w b g n) (k : Ke base X w w') (hne : ¬ X b) : IM w' b g n := by
  obtain ⟨es, clock, hm⟩ := h.isMap
  exact TMap.keep h (k.blk b (blk_lt hm) (.inr ⟨hne, fun o e => by rw [hm] at e; cases e; exact eKind_map⟩))
theorem IsE.mapb {w w' : World} {base b : Nat} {a : EA} {s : ES} {es : Array MapEntry} {clock : Nat} (h : IsE w base a s) (hm : w.heap[b]? = some (.map es clock)) (hne : ¬ a.X b) (hg : w.grownBy w' (some b)) : IsE w' base a s := by
  have off : ∀ (k : Nat) (o : Obj), w.heap[k]? = some o → k ≠ b → w'.heap[k]? = w.heap[k]? := fun k o hk hkb => hg.block k (blk_lt hk) (fun e => hkb (Option.some.inj e))
  have nc : ∀ (k : Nat) (cs : Array Value) (t : TypeId), w.heap[k]? = some (Obj.cells cs t (0, 0)) → k ≠ b := fun k cs t hk e => by rw [e, hm] at hk; cases hk
  refine ⟨(off _ _ h.blk (nc _ _ _ h.blk)).trans h.blk, ?_, isQ_keep h.q fun j cs t hj _ => off _ _ hj (nc _ _ _ hj), isL_keep h.l fun j cs t hj _ => off _ _ hj (nc _ _ _ hj), ?_, h.bq, h.bl, h.g, h.n⟩
  · obtain ⟨x, y, z, t, e⟩ := h.arr
    exact ⟨x, y, z, t, (off _ _ e (nc _ _ _ e)).trans e⟩
  · have hc := h.c
    refine ⟨⟨(off _ _ hc.blk (nc _ _ _ hc.blk)).trans hc.blk, hc.turn.agree fun k hk => ?_, ?_, ?_, fun p hp => (hc.ens p hp).off fun k cs t hk _ => (off _ _ hk (nc _ _ _ hk)).trans hk, hc.mne, hc.b1, hc.b2, hc.b3⟩, hc.toCLaw⟩
    · obtain ⟨cs, t, e, _⟩ := hc.turn.kinds hk
      exact off _ _ e (nc _ _ _ e)
    · obtain ⟨es, k⟩ := hc.kept
      exact ⟨es, k.agree (hg.block _ k.lt (fun e => hne (.inr (.inl (Option.some.inj e).symm))))⟩
    · exact hc.rows.agree (hg.block _ hc.rows.lt (fun e => hne (.inl (Option.some.inj e).symm)))
theorem sl24 (M : Nat) (hM : M ≤ 1000) (A : Option Addr) (c n : Nat) (hn : n ≤ c) (W : World) : (Instr.slice 24 (.slice A n c) none (some (.int .i64 (min (n : Int) M))) none).run Tryz.prog W = .ok (.slice A (min M n) c) W := by
  have hel : Tryz.prog.elem 24 = 41 := by simp [Program.elem, Tryz.underlying24]
  have hu : Tryz.prog.underlying 24 = some (.slice (Tryz.prog.elem 24)) := by rw [hel]; exact Tryz.underlying24
  have hi3 : (Tryz.prog.info? 41).map (fun i => i.size) = some 5 := by kernel_rfl
  obtain ⟨inf, hinf, hsz⟩ : ∃ inf, Tryz.prog.info? 41 = some inf ∧ inf.size = 5 := by
    cases h : Tryz.prog.info? 41 with
    | none => rw [h] at hi3; simp at hi3
    | some inf => rw [h] at hi3; simp at hi3; exact ⟨inf, rfl, hi3⟩
  rw [run_slice_h W 24 A n c hu .i64 _ (by omega) (by omega), hel]
  have e : (min (n : Int) M).toNat = min M n := by omega
  have em : Option.map (fun x : Addr => x.add 0) A = A := by cases A <;> simp [Addr.add]
  simp [sizeOf, typeInfo, hinf, hsz, sliced, Result.andThen, e, em]
end Go.Proofs.YtgpkpheejefiiaaGreatDoor
end
section
set_option linter.unusedVariables false
set_option linter.unusedSimpArgs false
namespace Go.Proofs.YtgpkpheejefiiaaGreatDoor
open Go.RowKit
open Go.Maps (Keyed)
set_option maxRecDepth 100000
theorem keyed3 : Maps.Keyed Tryz.prog 3 := Maps.int_keyed Tryz.underlying3
theorem zero3 (w : World) : (zeroValue 3).run Tryz.prog w = .ok (.int .i64 0) w := by kernel_rfl
theorem plain3 (d : Int) (hd : (Lit.int .i64 d).wf = true) : plainElem (H := Unit) Tryz.prog 3 (.int .i64 d) = some (.lit (.int .i64 d), []) := plainElem_int Tryz.underlying3 hd
theorem IM.look {w : World} {b n : Nat} {g : Int → Option Int} (h : IM w b g n) (x : Int) (hx : (Lit.int .i64 x).wf = true) : (Instr.lookup 38 (.map (some b)) (.int .i64 x) false).run Tryz.prog w = .ok (.int .i64 ((g x).getD 0)) w :=
  TMap.lookup (a0 := 0) h keyed3 Tryz.underlying38 (zero3 w) (plain3 0 (by decide)) hx (Maps.keyOf_int_mk Tryz.underlying3 hx)
/-- What a round of a range over the map has come by. -/
theorem IM.at {D : DataW Unit} {g : Int → Option Int} (h3 : ∀ x : Int, (Lit.int .i64 x).wf = true → ∀ l, keyOf Tryz.prog 3 (Value.int .i64 x) = some l →
    ((∃ a d, g x = some a ∧ Maps.has D l = true ∧ plainElem Tryz.prog 3 (Value.int .i64 a) = some (d, []) ∧ ∀ z, D.atKey l z = d) ∨ (g x = none ∧ Maps.has D l = false))) {x c : Int} (hx : (Lit.int .i64 x).wf = true)
    (hat : ∀ zd, D.atKey (.int .i64 x) zd = .lit (.int .i64 c)) : g x = some c := by
  rcases h3 x hx _ (Maps.keyOf_int_mk Tryz.underlying3 hx) with ⟨a, d, hg, _, hd, hz⟩ | ⟨hg, hn⟩
  · obtain ⟨a', e1, e2, _⟩ := plainElem_int_inv Tryz.underlying3 hd
    have e3 := (hz .nil).symm.trans (hat .nil)
    rw [hg]
    simp at e1 e2
    rw [e2] at e3
    simp at e3
    rw [e1, e3]
  · have := (Maps.atKey_of_not_has hn .nil).symm.trans (hat .nil)
    simp at this
theorem IsE.xoff {w : World} {base : Nat} {a : EA} {s : ES} (h : IsE w base a s) {k : Nat} {cs : Array Value} {t : TypeId} (hk : w.heap[k]? = some (.cells cs t (0, 0))) (h1 : t ≠ 184) (h2 : t ≠ 179) : ¬ a.X k := by
  intro e
  rcases e with e | e | e | e
  · obtain ⟨l, c, e2, _⟩ := h.c.rows; rw [← e, hk] at e2; cases e2
  · obtain ⟨_, l, c, e2, _⟩ := h.c.kept; rw [← e, hk] at e2; cases e2
  · have := h.q.blk; rw [← e, hk] at this; cases this; exact h1 rfl
  · have := h.l.blk; rw [← e, hk] at this; cases this; exact h2 rfl
/-- What stands in the law's loop. -/
structure LM (w : World) (base wb mb : Nat) (cells : Array Value) (e : Nat) (m q : Int) (U : World) (a : EA) (s : ES) (gm : Int → Option Int) (nm : Nat) : Prop where
  he : a.e = e
  en : IsE U base a s
  sm : s.m = m
  sq : s.s = q
  mp : IM U mb gm nm
  x : ¬ a.X mb
  wb : U.heap[wb]? = some (.cells cells 36 (0, 0))
  bel : Bel w U
  lo : w.heap.size ≤ base
  mlo : w.heap.size ≤ mb
section
variable {w U U' : World} {base wb mb : Nat} {cells : Array Value} {e : Nat} {m q : Int} {a a' : EA} {s s' : ES} {gm gm' : Int → Option Int} {nm nm' : Nat}
theorem LM.hb (h : LM w base wb mb cells e m q U a s gm nm) : base ≤ U.heap.size := by
  have := h.en.bq
  have := blk_lt h.en.q.blk
  omega
theorem LM.to (h : LM w base wb mb cells e m q U a s gm nm) (k : Bel U U') : LM w base wb mb cells e m q U' a s gm nm :=
  ⟨h.he, h.en.bel k, h.sm, h.sq, TMap.below h.mp k, h.x, blk_below h.wb k, h.bel.trans k, h.lo, h.mlo⟩
theorem LM.step (h : LM w base wb mb cells e m q U a s gm nm) (hE : IsE U' base a' s') (k : Ke base a.X U U') (he' : a'.e = a.e) (hx : a'.X = a.X) (hm : s'.m = s.m) (hq : s'.s = s.s) : LM w base wb mb cells e m q U' a' s' gm nm :=
  ⟨he'.trans h.he, hE, hm.trans h.sm, hq.trans h.sq, h.mp.ke k h.x, by rw [hx]; exact h.x, k.keep h.wb (h.en.xoff h.wb (by decide) (by decide)) (eKind_cells (by decide) (by decide) (by decide) (by decide) (by decide) (by decide)), Ke.below h.bel k h.lo, h.lo, h.mlo⟩
theorem belMap {w w1 w2 : World} {b : Nat} (h : Bel w w1) (g : w1.grownBy w2 (some b)) (hb : w.heap.size ≤ b) : Bel w w2 :=
  ⟨g.os.trans h.os, g.tape.trans h.tape, g.output.trans h.output, Nat.le_trans h.size g.size, fun k hk => (g.block k (Nat.lt_of_lt_of_le hk h.size) (fun e => by have := Option.some.inj e; omega)).trans (h.block k hk)⟩
theorem LM.map (h : LM w base wb mb cells e m q U a s gm nm) (hmp : IM U' mb gm' nm') (hg : U.grownBy U' (some mb)) : LM w base wb mb cells e m q U' a s gm' nm' := by
  obtain ⟨es, clock, hm⟩ := h.mp.isMap
  refine ⟨h.he, h.en.mapb hm h.x hg, h.sm, h.sq, hmp, h.x, (hg.block wb (blk_lt h.wb) (fun e => ?_)).trans h.wb, belMap h.bel hg h.mlo, h.lo, h.mlo⟩
  have := h.wb
  rw [Option.some.inj e, hm] at this
  cases this
theorem LM.pending (h : LM w base wb mb cells e m q U a s gm nm) (hL : ELaw s) : Calls Tryz.prog 10 #[PTR e] U fun x U' => ∃ r, x = .returned (.tuple #[.int .i64 s.l.rs.length, .int .i64 r]) ∧ Bel U U' := by
  obtain rfl := h.he
  rw [← hL.len]
  exact pending10 U base a s h.en
theorem LM.dispNone (h : LM w base wb mb cells e m q U a s gm nm) {ag p : Int} {gd : Int → Option Int} {k : Nat} (hB : B1 s ag p gd k) (hk : k ≤ 1000) (h0 : s.l.rs.length = 0) :
    Calls Tryz.prog 9 #[PTR e] U fun x U' => ∃ a' z, x = .returned (.tuple #[.int .i64 z, .int .i64 11]) ∧ LM w base wb mb cells e m q U' a' s gm nm := by
  have hpb : L21.pickB s.l = false := by unfold L21.pickB; exact decide_eq_false (by omega)
  have hps : L21.pickS s.l = s.l := by unfold L21.pickS; rw [if_neg (by omega)]
  obtain rfl := h.he
  refine (dispatch9_none U base a s h.en hB.law (fun x hx => by have := hB.wt x hx; omega) hpb).mono ?_
  rintro x U' ⟨vl, z, rfl, hE, hk⟩
  rw [hps] at hE
  exact ⟨_, z, rfl, h.step hE hk rfl rfl rfl rfl⟩
theorem LM.disp (h : LM w base wb mb cells e m q U a s gm nm) {ag p : Int} {gd : Int → Option Int} {k : Nat} (hB : B1 s ag p gd k) (hk : k ≤ 1000) (h0 : 0 < s.l.rs.length) :
    Calls Tryz.prog 9 #[PTR e] U fun x U' => ∃ a' s', x = .returned (.tuple #[.int .i64 (L21.pickK s.l), .int .i64 0]) ∧ LM w base wb mb cells e m q U' a' s' gm nm ∧ B1 s' ag (p + 1) (fun z => if z = L21.pickK s.l then none else gd z) (k + 1) ∧ s'.l.rs.length = s.l.rs.length - 1 := by
  have hpb : L21.pickB s.l = true := by unfold L21.pickB; simp; omega
  obtain rfl := h.he
  refine (dispatch9 U base a s h.en hB.law (fun x hx => by have := hB.wt x hx; omega) hpb (pick_has hB.law.l h0) h.hb).mono ?_
  rintro x U' ⟨vq, vl, c', s', rfl, hE, hk, hX⟩
  exact ⟨_, _, rfl, h.step hE hk rfl hX rfl rfl, b1_disp hB h0 s', L21.pick_len hB.law.l⟩
theorem LM.write (h : LM w base wb mb cells e m q U a s gm nm) {ag p : Int} {gd : Int → Option Int} {k : Nat} (hB : B1 s ag p gd k) (hk : k ≤ 1000) (hag : 0 ≤ ag) {key : Int} {d : ByteArray} (hk0 : 0 ≤ key) (hk1 : key < (m - 2) * q) (hd : d.size = 64) :
    Calls Tryz.prog 11 #[PTR e, .int .i64 key, .string d] U fun x U' => x = .returned (.int .i64 0) ∧ Ke base a.X U U' ∧ ∃ a' s', LM w base wb mb cells e m q U' a' s' gm nm ∧
      ((s'.l.rs.length = s.l.rs.length ∧ B1 s' ag p gd (k + 1)) ∨ (s'.l.rs.length = s.l.rs.length + 1 ∧ gd key = none ∧ B1 s' ag p (fun z => if z = key then some (p + ag + s.l.rs.length + 1) else gd z) (k + 1))) := by
  have hg := h.en.g
  have hk1' : key < (s.m - 2) * s.s := by rw [h.sm, h.sq]; exact hk1
  have hb := hg.blocks
  have hll := hB.law.llen hg
  have hae := addE_in (s := s.l) hk0 (show key < 1000 by omega) (by omega)
  obtain rfl := h.he
  refine (write11 U base a s key d h.en hB.law hk0 hk1' hd (by have := hB.clk; omega) (by have := hB.add; omega) h.hb).mono ?_
  rintro x U' ⟨vq, vl, rfl, hE, hk⟩
  refine ⟨rfl, hk, _, _, h.step hE hk rfl rfl rfl rfl, ?_⟩
  cases hh : L21.has s.l key
  · refine .inr ⟨?_, hB.bd.dom key hh, b1_write hB hg hag hk0 hk1' hd hh⟩
    show (L21.addS s.l key).rs.length = _
    rw [L21.addS_of (hae.1 hh)]
    exact L21.insR_len s.l key
  · refine .inl ⟨?_, b1_again hB hg hk0 hk1' hd hh⟩
    show (L21.addS s.l key).rs.length = _
    rw [addS_keep (by rw [hae.2 hh]; decide)]
end
end Go.Proofs.YtgpkpheejefiiaaGreatDoor
end
