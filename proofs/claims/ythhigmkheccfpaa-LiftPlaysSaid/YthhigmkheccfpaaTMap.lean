/- Maps of plain elements, that the call has made: what they hold is a function of the keys. -/
import Derived.Maps.OwnSet
import Derived.Maps.OwnOps
import Derived.Maps.Views
import Derived.WalkKit
set_option linter.unusedVariables false
set_option linter.unusedSimpArgs false
namespace Go.Proofs.Ythhigmkheccfpaa
open Go.Maps (Keyed IsMap Tidy)
open Go.RowKit
theorem plainElem_inj {H : Type} {P : Program} {e : TypeId} {u v : Value} {d : DataW H} {p q : List MemPlace} (h : plainElem P e u = some (d, p)) (k : plainElem P e v = some (d, q)) : u = v := by
  unfold plainElem at h k
  split at h
  · rename_i he
    cases h
    split at k
    · cases k; rfl
    · rename_i he2; rw [he] at he2; cases he2
    · rename_i he2; rw [he] at he2; cases he2
    · cases k
  · rename_i he
    split at h
    · rename_i hc
      obtain ⟨rfl, hw⟩ := hc
      cases h
      split at k
      · rename_i he2; rw [he] at he2; cases he2
      · rename_i he2
        split at k
        · rename_i hc2
          obtain ⟨rfl, hw2⟩ := hc2
          simp at k
          obtain ⟨⟨rfl, rfl⟩, _⟩ := k
          rfl
        · cases k
      · rename_i he2; rw [he] at he2; cases he2
      · cases k
    · cases h
  · rename_i he
    split at h
    · cases h
      split at k
      · rename_i he2; rw [he] at he2; cases he2
      · rename_i he2; rw [he] at he2; cases he2
      · split at k
        · simp at k
          have := k.1
          congr 1
          exact (ByteArray.ext this).symm
        · cases k
      · cases k
    · cases h
  · cases h
/-- Block b of w is a map: at the key x it holds g x; it has n entries. -/
def TMap {K A : Type} (P : Program) (k e : TypeId) (κ : K → Value) (ok : K → Prop) (ε : A → Value) (w : World) (b : Nat) (g : K → Option A) (n : Nat) : Prop :=
  ∃ D : DataW Unit, w.ownsMap P k (plainElem P e) b n D ∧ Maps.size D = n ∧ ∀ x, ok x → ∀ l, keyOf P k (κ x) = some l →
    ((∃ a d, g x = some a ∧ Maps.has D l = true ∧ plainElem P e (ε a) = some (d, []) ∧ ∀ z, D.atKey l z = d) ∨ (g x = none ∧ Maps.has D l = false))
section
variable {K A : Type} {P : Program} {k e t : TypeId} {κ : K → Value} {ok : K → Prop} {ε : A → Value} {w w' : World} {b n : Nat} {g : K → Option A}
theorem TMap.made (w : World) : TMap P k e κ ok ε (w.alloc (.map #[] 0)) w.heap.size (fun _ => none) 0 :=
  ⟨_, World.ownsMap_made w P k _, rfl, fun _ _ _ _ => .inr ⟨rfl, rfl⟩⟩
theorem TMap.made_at (w : World) {b : Nat} (hb : b = w.heap.size) : TMap P k e κ ok ε (w.alloc (.map #[] 0)) b (fun _ => none) 0 := by subst hb; exact TMap.made w
theorem TMap.lt (h : TMap P k e κ ok ε w b g n) : b < w.heap.size := by
  obtain ⟨D, h, _⟩ := h
  exact h.lt
theorem TMap.keep (h : TMap P k e κ ok ε w b g n) (hb : w'.heap[b]? = w.heap[b]?) : TMap P k e κ ok ε w' b g n := by
  obtain ⟨D, ⟨es, clock, h1, r⟩, h2⟩ := h
  exact ⟨D, ⟨es, clock, hb.trans h1, r⟩, h2⟩
theorem TMap.below (h : TMap P k e κ ok ε w b g n) (hb : Below w.heap.size w w') : TMap P k e κ ok ε w' b g n := h.keep (hb.block b h.lt)
theorem TMap.lookup (h : TMap P k e κ ok ε w b g n) (KK : Keyed P k) (ht : P.underlying t = some (.map k e)) {a0 : A} {zd : DataW Unit} (hz : (zeroValue e).run P w = .ok (ε a0) w) (hzd : plainElem P e (ε a0) = some (zd, []))
    {x : K} (hx : ok x) {l : Lit} (hkey : keyOf P k (κ x) = some l) : (Instr.lookup t (.map (some b)) (κ x) false).run P w = .ok (ε ((g x).getD a0)) w := by
  obtain ⟨D, h1, h2, h3⟩ := h
  obtain ⟨v, ps, hrun, hv⟩ := h1.lookup KK ht hz hzd hkey
  rcases h3 x hx l hkey with ⟨a, d, hg, _, ha, hat⟩ | ⟨hg, hn⟩
  · rw [hat zd] at hv
    rw [hrun, hg, plainElem_inj hv ha]
    rfl
  · rw [Maps.atKey_of_not_has hn zd] at hv
    rw [hrun, hg, plainElem_inj hv hzd]
    rfl
theorem TMap.update [DecidableEq K] (h : TMap P k e κ ok ε w b g n) (KK : Keyed P k) (ht : P.underlying t = some (.map k e)) (hn : n < maxLen) (hinj : ∀ x y, κ x = κ y → x = y) {x : K} {l : Lit} (hx : ok x) (hkey : keyOf P k (κ x) = some l)
    {a : A} {d : DataW Unit} (hd : plainElem P e (ε a) = some (d, [])) :
    ∃ w', (Instr.mapUpdate t (.map (some b)) (κ x) (ε a)).run P w = .ok () w' ∧ TMap P k e κ ok ε w' b (fun y => if y = x then some a else g y) (if (g x).isSome then n else n + 1) ∧ w.grownBy w' (some b) := by
  obtain ⟨D, h1, h2, h3⟩ := h
  obtain ⟨w', hrun, h4, h5⟩ := h1.update KK ht hn hkey hd
  have hsz : Maps.size (D.put l d) = if (g x).isSome then n else n + 1 := by
    rw [Maps.size_put (h1.tidy KK)]
    rcases h3 x hx l hkey with ⟨a', d', hg, hh, _⟩ | ⟨hg, hh⟩
    · rw [hg, hh, h2]; rfl
    · rw [hg, hh, h2]; rfl
  refine ⟨w', hrun, ⟨D.put l d, ?_, hsz, ?_⟩, h5⟩
  · obtain ⟨es, clock, r1, r2, r3, r4⟩ := h4
    refine ⟨es, clock, r1, r2, ?_, r4⟩
    have : Maps.size (D.put l d) = es.size := by rw [r4]; simp [Maps.size, length_sorted]
    omega
  · intro y hy l' hl'
    by_cases hyx : y = x
    · subst hyx
      rw [hkey] at hl'
      cases hl'
      refine .inl ⟨a, d, if_pos rfl, Maps.has_put_same h1.isMap (KK.key hkey) d, hd, fun z => Maps.atKey_put_same h1.isMap (KK.key hkey) d z⟩
    · have hne : l' ≠ l := by
        rintro rfl
        exact hyx (hinj _ _ (KK.inj hl' hkey))
      simp only [if_neg hyx]
      rcases h3 y hy l' hl' with ⟨a', d', r1, r2, r3, r4⟩ | ⟨r1, r2⟩
      · exact .inl ⟨a', d', r1, by rw [Maps.has_put_other hne]; exact r2, r3, fun z => by rw [Maps.atKey_put_other hne]; exact r4 z⟩
      · exact .inr ⟨r1, by rw [Maps.has_put_other hne]; exact r2⟩
theorem TMap.drop [DecidableEq K] (h : TMap P k e κ ok ε w b g n) (KK : Keyed P k) (ht : P.underlying t = some (.map k e)) (hinj : ∀ x y, κ x = κ y → x = y) {x : K} {l : Lit} (hx : ok x) (hkey : keyOf P k (κ x) = some l) (ty : TypeId) :
    ∃ w', (Builtin.delete_ #[t, k] ty #[.map (some b), κ x]).run P w = .ok (.tuple #[]) w' ∧ TMap P k e κ ok ε w' b (fun y => if y = x then none else g y) (if (g x).isSome then n - 1 else n) ∧ w.mapTurned w' b := by
  obtain ⟨D, h1, h2, h3⟩ := h
  obtain ⟨w', hrun, h4, h5⟩ := h1.drop KK ht hkey ty
  have hsz : Maps.size (D.del l) = if (g x).isSome then n - 1 else n := by
    have := Maps.size_del (k := l) (h1.tidy KK)
    rcases h3 x hx l hkey with ⟨a', d', hg, hh, _⟩ | ⟨hg, hh⟩
    · rw [hh] at this; rw [hg]; simp at this ⊢; omega
    · rw [hh] at this; rw [hg]; simp at this ⊢; omega
  refine ⟨w', hrun, ⟨D.del l, ?_, hsz, ?_⟩, h5⟩
  · obtain ⟨es, clock, r1, r2, r3, r4⟩ := h4
    refine ⟨es, clock, r1, r2, ?_, r4⟩
    have : Maps.size (D.del l) = es.size := by rw [r4]; simp [Maps.size, length_sorted]
    omega
  · intro y hy l' hl'
    by_cases hyx : y = x
    · subst hyx
      rw [hkey] at hl'
      cases hl'
      exact .inr ⟨if_pos rfl, Maps.has_del_same⟩
    · have hne : l' ≠ l := by
        rintro rfl
        exact hyx (hinj _ _ (KK.inj hl' hkey))
      simp only [if_neg hyx]
      rcases h3 y hy l' hl' with ⟨a', d', r1, r2, r3, r4⟩ | ⟨r1, r2⟩
      · exact .inl ⟨a', d', r1, by rw [Maps.has_del_other hne]; exact r2, r3, fun z => by rw [Maps.atKey_del_other hne]; exact r4 z⟩
      · exact .inr ⟨r1, by rw [Maps.has_del_other hne]; exact r2⟩
theorem TMap.len (h : TMap P k e κ ok ε w b g n) (ht : P.underlying t = some (.map k e)) (ty : TypeId) : (Builtin.len_ #[t] ty #[.map (some b)]).run P w = .ok (.int .i64 n) w := by
  obtain ⟨D, h1, h2, h3⟩ := h
  rw [h1.len ht ty, h2]
/-- 'm[k] = v' at the operation, for the walk. -/
theorem wpList_mapUpdate_T [DecidableEq K] {ops : Array Oper} {rest : List Oper} {o : Oper} {a : Act} {Q : Exit → Act → World → Prop} (hg : o.guard = none) (m x v : Operand) (hop : o.op = Op.mapUpdate t m x v)
    (KK : Keyed P k) (ht : P.underlying t = some (.map k e)) (h : TMap P k e κ ok ε w b g n) (hn : n < maxLen) (hinj : ∀ x y, κ x = κ y → x = y) (hm : a.eval m = .map (some b)) (y : K) (hx : a.eval x = κ y) (c : A) (hv : a.eval v = ε c) (l : Lit) (hy : ok y)
    (hkey : keyOf P k (κ y) = some l) (d : DataW Unit) (hd : plainElem P e (ε c) = some (d, []))
    (hK : ∀ w', TMap P k e κ ok ε w' b (fun z => if z = y then some c else g z) (if (g y).isSome then n else n + 1) → w.grownBy w' (some b) → wpList P ops Q rest (a.put o.dst undef) w') :
    wpList P ops Q (o :: rest) a w := by
  refine wpList_plain hg fun K' hK' => ?_
  obtain ⟨w', hrun, r1, r2⟩ := h.update KK ht hn hinj hy hkey hd
  unfold Oper.wp
  simp [execOp, hop, hm, hx, hv, hrun, Result.andThen]
  exact hK' _ _ (hK w' r1 r2)
/-- 'delete(m, k)' at the operation, for the walk. -/
theorem wpList_delete_T [DecidableEq K] {ops : Array Oper} {rest : List Oper} {o : Oper} {a : Act} {Q : Exit → Act → World → Prop} (hg : o.guard = none) (m x : Operand) (hop : o.op = Op.call { callee := Callee.builtin Builtin.delete, args := #[m, x], argTypes := #[t, k] })
    (KK : Keyed P k) (ht : P.underlying t = some (.map k e)) (h : TMap P k e κ ok ε w b g n) (hinj : ∀ x y, κ x = κ y → x = y) (hm : a.eval m = .map (some b)) (y : K) (hx : a.eval x = κ y) (l : Lit) (hy : ok y)
    (hkey : keyOf P k (κ y) = some l)
    (hK : ∀ w', TMap P k e κ ok ε w' b (fun z => if z = y then none else g z) (if (g y).isSome then n - 1 else n) → w.mapTurned w' b → wpList P ops Q rest (a.put o.dst (.tuple #[])) w') :
    wpList P ops Q (o :: rest) a w := by
  refine wpList_plain hg fun K' hK' => ?_
  obtain ⟨w', hrun, r1, r2⟩ := h.drop KK ht hinj hy hkey o.type
  unfold Oper.wp
  simp [execOp, hop, resolve, invoke, builtin, hm, hx, hrun, Result.andThen]
  exact hK' _ _ (hK w' r1 r2)
end
end Go.Proofs.Ythhigmkheccfpaa
