/- A checked evaluator: what symbolic values and heaps stand for. | A checked evaluator: numbers and texts. | A checked evaluator: operations that only reckon. -/
import Derived.Test.YtgpkpheejefiiaaGreatDoorX02
import Derived.Laws.Strings
import Derived.Laws.Concat
section
set_option linter.unusedVariables false
set_option linter.unusedSimpArgs false
namespace Go.Proofs.YtgpkpheejefiiaaGreatDoor
open Go.RowKit
/- the words of lists -/
theorem nthS_eq (l : List SV) : ∀ i, nthS l i = (l[i]?).getD .undef := by
  induction l with
  | nil => intro i; simp [nthS]
  | cons a l ih => intro i; cases i with
    | zero => rfl
    | succ i => show nthS l i = _; rw [ih]; simp
theorem longS_eq (l : List SV) : ∀ n, longS l n = decide (n ≤ l.length) := by
  induction l with
  | nil => intro n; cases n with
    | zero => rfl
    | succ n => exact (decide_eq_false (by simp)).symm
  | cons a l ih => intro n; cases n with
    | zero => rfl
    | succ n => show longS l n = _; rw [ih]; simp
theorem takeS_eq (l : List SV) : ∀ n, takeS l n = l.take n := by
  induction l with
  | nil => intro n; simp [takeS]
  | cons a l ih => intro n; cases n with
    | zero => rfl
    | succ n => show a :: takeS l n = _; rw [ih]; simp
theorem dropS_eq (l : List SV) : ∀ n, dropS l n = l.drop n := by
  induction l with
  | nil => intro n; simp [dropS]
  | cons a l ih => intro n; cases n with
    | zero => rfl
    | succ n => show dropS l n = _; rw [ih]; simp
theorem appS_eq (l m : List SV) : appS l m = l ++ m := by
  induction l with
  | nil => rfl
  | cons a l ih => show a :: appS l m = _; rw [ih]; rfl
theorem lenS_eq (l : List SV) : lenS l = l.length := by
  induction l with
  | nil => rfl
  | cons a l ih => show Nat.succ (lenS l) = _; rw [ih]; rfl
theorem aB_eq (a b : Bool) : aB a b = (a && b) := by cases a <;> rfl
theorem nB_eq (a : Bool) : nB a = !a := by cases a <;> rfl
theorem bI_eq {α : Type} (b : Bool) (x y : α) : bI b x y = if b then x else y := by cases b <;> rfl
theorem allS_eq (p : SV → Bool) (l : List SV) : allS p l = l.all p := by
  induction l with
  | nil => rfl
  | cons a l ih => show aB (p a) (allS p l) = _; rw [ih, aB_eq]; rfl
theorem overS_eq (l : List SV) (o : Nat) (c : List SV) : overS l o c = l.take o ++ c ++ l.drop (o + c.length) := by
  unfold overS
  rw [appS_eq, appS_eq, takeS_eq, dropS_eq, lenS_eq, List.append_assoc]
  rfl
theorem oB_some {α β : Type} {x : Option α} {k : α → Option β} {b : β} (h : oB x k = some b) : ∃ a, x = some a ∧ k a = some b := by
  cases x with
  | none => exact absurd h (by simp [oB])
  | some a => exact ⟨a, rfl, h⟩
theorem bI_some {β : Type} {c : Bool} {x : Option β} {b : β} (h : bI c x none = some b) : c = true ∧ x = some b := by
  cases c with
  | false => exact absurd h (by simp [bI])
  | true => exact ⟨rfl, h⟩
theorem bI_none {β : Type} {c : Bool} {x : Option β} {b : β} (h : bI c none x = some b) : c = false ∧ x = some b := by
  cases c with
  | true => exact absurd h (by simp [bI])
  | false => exact ⟨rfl, h⟩
theorem aB_true {a b : Bool} (h : aB a b = true) : a = true ∧ b = true := by rw [aB_eq] at h; simpa using h
theorem nB_true {a : Bool} (h : nB a = true) : a = false := by rw [nB_eq] at h; simpa using h
theorem nB_false {a : Bool} (h : nB a = false) : a = true := by rw [nB_eq] at h; simpa using h
/- nodes -/
theorem lt8 {k : Nat} (h : k < 8) : k = 0 ∨ k = 1 ∨ k = 2 ∨ k = 3 ∨ k = 4 ∨ k = 5 ∨ k = 6 ∨ k = 7 := by omega
theorem nsel_nupd {α : Type} (n : N8 α) (f : α → α) {k : Nat} (hk : k < 8) : nsel k (nupd k f n) = f (nsel k n) := by
  obtain ⟨a0, a1, a2, a3, a4, a5, a6, a7⟩ := n
  rcases lt8 hk with rfl | rfl | rfl | rfl | rfl | rfl | rfl | rfl <;> rfl
theorem nsel_nupd_ne {α : Type} (n : N8 α) (f : α → α) {j k : Nat} (hj : j < 8) (hk : k < 8) (h : j ≠ k) : nsel j (nupd k f n) = nsel j n := by
  obtain ⟨a0, a1, a2, a3, a4, a5, a6, a7⟩ := n
  rcases lt8 hk with rfl | rfl | rfl | rfl | rfl | rfl | rfl | rfl <;> rcases lt8 hj with rfl | rfl | rfl | rfl | rfl | rfl | rfl | rfl <;> first | rfl | exact absurd rfl h
theorem sel8_upd {α : Type} (n : N8 α) (f : α → α) (p : D8) : sel8 p (upd8 p f n) = f (sel8 p n) := by
  obtain ⟨a0, a1, a2, a3, a4, a5, a6, a7⟩ := n
  cases p <;> rfl
theorem sel8_ne {α : Type} (n : N8 α) (f : α → α) {p q : D8} (h : p ≠ q) : sel8 p (upd8 q f n) = sel8 p n := by
  obtain ⟨a0, a1, a2, a3, a4, a5, a6, a7⟩ := n
  cases p <;> cases q <;> first | rfl | exact absurd rfl h
theorem sel16_upd {α : Type} (n : N16 α) (f : α → α) (p : D16) : sel16 p (upd16 p f n) = f (sel16 p n) := by
  obtain ⟨a0, a1, a2, a3, a4, a5, a6, a7, a8, a9, a10, a11, a12, a13, a14, a15⟩ := n
  cases p <;> rfl
theorem sel16_ne {α : Type} (n : N16 α) (f : α → α) {p q : D16} (h : p ≠ q) : sel16 p (upd16 q f n) = sel16 p n := by
  obtain ⟨a0, a1, a2, a3, a4, a5, a6, a7, a8, a9, a10, a11, a12, a13, a14, a15⟩ := n
  cases p <;> cases q <;> first | rfl | exact absurd rfl h
theorem blt_eq (a b : Nat) : Nat.blt a b = decide (a < b) := by
  rw [Bool.eq_iff_iff]
  simp [Nat.blt, Nat.ble_eq, Nat.succ_le_iff]
theorem at_of {t : Tr} {k : Nat} {o : SO} (h : atT t k = some o) : k < 4096 := by
  unfold atT at h
  rw [blt_eq] at h
  by_cases hk : k < 4096
  · exact hk
  · rw [decide_eq_false hk] at h; exact absurd h (by simp [bI])
theorem at_upd (t : Tr) (k j : Nat) (x : Option SO) {o : SO} (h : atT (updT t k x) j = some o) : (j = k ∧ x = some o) ∨ (j ≠ k ∧ atT t j = some o) := by
  have hj := at_of h
  by_cases hk : k < 4096
  · unfold atT updT at h
    unfold atT
    rw [blt_eq, blt_eq, decide_eq_true hj, decide_eq_true hk] at h
    rw [blt_eq, decide_eq_true hj]
    have hj0 : Nat.div j 512 < 8 := by show j / 512 < 8; omega
    have hj1 : Nat.mod (Nat.div j 64) 8 < 8 := Nat.mod_lt _ (by omega)
    have hj2 : Nat.mod (Nat.div j 8) 8 < 8 := Nat.mod_lt _ (by omega)
    have hj3 : Nat.mod j 8 < 8 := Nat.mod_lt _ (by omega)
    have hk0 : Nat.div k 512 < 8 := by show k / 512 < 8; omega
    have hk1 : Nat.mod (Nat.div k 64) 8 < 8 := Nat.mod_lt _ (by omega)
    have hk2 : Nat.mod (Nat.div k 8) 8 < 8 := Nat.mod_lt _ (by omega)
    have hk3 : Nat.mod k 8 < 8 := Nat.mod_lt _ (by omega)
    simp only [bI] at h ⊢
    by_cases e0 : Nat.div j 512 = Nat.div k 512
    · rw [e0, nsel_nupd _ _ hk0] at h
      by_cases e1 : Nat.mod (Nat.div j 64) 8 = Nat.mod (Nat.div k 64) 8
      · rw [e1, nsel_nupd _ _ hk1] at h
        by_cases e2 : Nat.mod (Nat.div j 8) 8 = Nat.mod (Nat.div k 8) 8
        · rw [e2, nsel_nupd _ _ hk2] at h
          by_cases e3 : Nat.mod j 8 = Nat.mod k 8
          · rw [e3, nsel_nupd _ _ hk3] at h
            have e0' : j / 512 = k / 512 := e0
            have e1' : (j / 64) % 8 = (k / 64) % 8 := e1
            have e2' : (j / 8) % 8 = (k / 8) % 8 := e2
            have e3' : j % 8 = k % 8 := e3
            exact .inl ⟨by omega, h⟩
          · rw [nsel_nupd_ne _ _ hj3 hk3 e3] at h
            exact .inr ⟨fun e => e3 (by rw [e]), by rw [e0, e1, e2]; exact h⟩
        · rw [nsel_nupd_ne _ _ hj2 hk2 e2] at h
          exact .inr ⟨fun e => e2 (by rw [e]), by rw [e0, e1]; exact h⟩
      · rw [nsel_nupd_ne _ _ hj1 hk1 e1] at h
        exact .inr ⟨fun e => e1 (by rw [e]), by rw [e0]; exact h⟩
    · rw [nsel_nupd_ne _ _ hj0 hk0 e0] at h
      exact .inr ⟨fun e => e0 (by rw [e]), h⟩
  · unfold updT at h
    rw [blt_eq, decide_eq_false hk] at h
    exact .inr ⟨fun e => hk (e ▸ hj), h⟩
/- values -/
/-- Where the objects stand: each name's block, and how many elements it has room for. -/
abbrev Pl := Nat → Option (Nat × Nat)
def Pl.le (r r' : Pl) : Prop := ∀ g x, r g = some x → r' g = some x
theorem Pl.le_refl (r : Pl) : r.le r := fun _ _ h => h
theorem Pl.le_trans {r s t : Pl} (h : r.le s) (k : s.le t) : r.le t := fun g x e => k g x (h g x e)
def bytesOf (l : List Nat) : ByteArray := ⟨(l.map fun n => n.toUInt8).toArray⟩
mutual
inductive Emb (r : Pl) : SV → Value → Prop
  | undef : Emb r .undef Go.undef
  | nilf : Emb r .nilf .nilFunc
  | nilp : Emb r .nilp (.pointer none)
  | nils : Emb r .nils (.slice none 0 0)
  | nilm : Emb r .nilm (.map none)
  | nili : Emb r .nili .nilIface
  | bool (b : Bool) : Emb r (.bool b) (.bool b)
  | int (k : IntKind) (n : Int) : Emb r (.int k n) (.int k n)
  | str (l : List Nat) (h : ∀ b ∈ l, b < 256) : Emb r (.str l) (.string (bytesOf l))
  | ptr (g o b c : Nat) (h : r g = some (b, c)) : Emb r (.ptr g o) (.pointer (some ⟨b, o, none⟩))
  | slice (g o n c b d : Nat) (h : r g = some (b, d)) (hn : n ≤ c) : Emb r (.slice g o n c) (.slice (some ⟨b, o, none⟩) n c)
  | own (g o n j b d : Nat) (h : r g = some (b, d)) (hn : n + j ≤ d) : Emb r (.own g o n j) (.slice (some ⟨b, if d ≤ j then 0 else o, none⟩) n (d - j))
  | map (g b c : Nat) (h : r g = some (b, c)) : Emb r (.map g) (.map (some b))
  | func (f : Nat) (l m : List SV) (u v : List Value) (h : EmbL r l u) (k : EmbL r m v) : Emb r (.func f l m) (.func (.func f) u.toArray v.toArray)
  | agg (l : List SV) (u : List Value) (h : EmbL r l u) : Emb r (.agg l) (.agg u.toArray)
  | tup (l : List SV) (u : List Value) (h : EmbL r l u) : Emb r (.tup l) (.tuple u.toArray)
inductive EmbL (r : Pl) : List SV → List Value → Prop
  | nil : EmbL r [] []
  | cons (s : SV) (v : Value) (l : List SV) (u : List Value) (h : Emb r s v) (k : EmbL r l u) : EmbL r (s :: l) (v :: u)
end
mutual
theorem Emb.up {r r' : Pl} (hr : r.le r') : ∀ {s v}, Emb r s v → Emb r' s v
  | _, _, .undef => .undef
  | _, _, .nilf => .nilf
  | _, _, .nilp => .nilp
  | _, _, .nils => .nils
  | _, _, .nilm => .nilm
  | _, _, .nili => .nili
  | _, _, .bool b => .bool b
  | _, _, .int k n => .int k n
  | _, _, .str l h => .str l h
  | _, _, .ptr g o b c h => .ptr g o b c (hr _ _ h)
  | _, _, .slice g o n c b d h hn => .slice g o n c b d (hr _ _ h) hn
  | _, _, .own g o n j b d h hn => .own g o n j b d (hr _ _ h) hn
  | _, _, .map g b c h => .map g b c (hr _ _ h)
  | _, _, .func f l m u v h k => .func f l m u v (h.up hr) (k.up hr)
  | _, _, .agg l u h => .agg l u (h.up hr)
  | _, _, .tup l u h => .tup l u (h.up hr)
theorem EmbL.up {r r' : Pl} (hr : r.le r') : ∀ {l u}, EmbL r l u → EmbL r' l u
  | _, _, .nil => .nil
  | _, _, .cons s v l u h k => .cons s v l u (h.up hr) (k.up hr)
end
mutual
theorem Emb.unique {r : Pl} : ∀ {s : SV} {v u : Value}, Emb r s v → Emb r s u → v = u
  | _, _, _, .undef, .undef => rfl
  | _, _, _, .nilf, .nilf => rfl
  | _, _, _, .nilp, .nilp => rfl
  | _, _, _, .nils, .nils => rfl
  | _, _, _, .nilm, .nilm => rfl
  | _, _, _, .nili, .nili => rfl
  | _, _, _, .bool _, .bool _ => rfl
  | _, _, _, .int _ _, .int _ _ => rfl
  | _, _, _, .str _ _, .str _ _ => rfl
  | _, _, _, .ptr _ _ b c h, .ptr _ _ b' c' h' => by
    have := h.symm.trans h'
    simp at this
    rw [this.1]
  | _, _, _, .slice _ _ _ _ b d h _, .slice _ _ _ _ b' d' h' _ => by
    have := h.symm.trans h'
    simp at this
    rw [this.1]
  | _, _, _, .own _ _ _ _ b d h _, .own _ _ _ _ b' d' h' _ => by
    have := h.symm.trans h'
    simp at this
    rw [this.1, this.2]
  | _, _, _, .map _ b c h, .map _ b' c' h' => by
    have := h.symm.trans h'
    simp at this
    rw [this.1]
  | _, _, _, .func _ _ _ _ _ h k, .func _ _ _ _ _ h' k' => by rw [h.unique h', k.unique k']
  | _, _, _, .agg _ _ h, .agg _ _ h' => by rw [h.unique h']
  | _, _, _, .tup _ _ h, .tup _ _ h' => by rw [h.unique h']
theorem EmbL.unique {r : Pl} : ∀ {l : List SV} {u v : List Value}, EmbL r l u → EmbL r l v → u = v
  | _, _, _, .nil, .nil => rfl
  | _, _, _, .cons _ _ _ _ h k, .cons _ _ _ _ h' k' => by rw [h.unique h', k.unique k']
end
theorem EmbL.len {r : Pl} {l : List SV} {u : List Value} (h : EmbL r l u) : l.length = u.length := by
  induction l generalizing u with
  | nil => cases h; rfl
  | cons s l ih => cases h with | cons _ _ _ _ h k => simp [ih k]
theorem EmbL.get {r : Pl} {l : List SV} {u : List Value} (h : EmbL r l u) {i : Nat} {s : SV} (hi : l[i]? = some s) : ∃ v, u[i]? = some v ∧ Emb r s v := by
  induction l generalizing u i with
  | nil => simp at hi
  | cons t l ih =>
    cases h with
    | cons _ v _ u h k =>
      cases i with
      | zero => simp at hi; subst hi; exact ⟨v, rfl, h⟩
      | succ i => simpa using ih k (by simpa using hi)
theorem EmbL.nth {r : Pl} {l : List SV} {u : List Value} (h : EmbL r l u) {i : Nat} (hi : longS l (Nat.succ i) = true) : ∃ v, u[i]? = some v ∧ Emb r (nthS l i) v := by
  rw [longS_eq] at hi
  have hl : i < l.length := of_decide_eq_true hi
  rw [nthS_eq, List.getElem?_eq_getElem hl]
  exact h.get (List.getElem?_eq_getElem hl)
theorem EmbL.append {r : Pl} {l m : List SV} {u v : List Value} (h : EmbL r l u) (k : EmbL r m v) : EmbL r (l ++ m) (u ++ v) := by
  induction l generalizing u with
  | nil => cases h; exact k
  | cons t l ih => cases h with | cons _ _ _ _ h j => exact .cons _ _ _ _ h (ih j)
theorem EmbL.rep {r : Pl} {s : SV} {v : Value} (h : Emb r s v) (n : Nat) : EmbL r (List.replicate n s) (List.replicate n v) := by
  induction n with
  | zero => exact .nil
  | succ n ih => exact .cons _ _ _ _ h ih
theorem EmbL.take {r : Pl} {l : List SV} {u : List Value} (h : EmbL r l u) (n : Nat) : EmbL r (l.take n) (u.take n) := by
  induction l generalizing u n with
  | nil => cases h; simpa using EmbL.nil
  | cons t l ih =>
    cases h with
    | cons _ w _ u h k =>
      cases n with
      | zero => simpa using EmbL.nil
      | succ n => exact .cons _ _ _ _ h (ih k n)
theorem EmbL.drop {r : Pl} {l : List SV} {u : List Value} (h : EmbL r l u) (n : Nat) : EmbL r (l.drop n) (u.drop n) := by
  induction l generalizing u n with
  | nil => cases h; simpa using EmbL.nil
  | cons t l ih =>
    cases h with
    | cons _ w _ u h k =>
      cases n with
      | zero => exact .cons _ _ _ _ h k
      | succ n => exact ih k n
theorem Emb.one {r : Pl} {s : SV} {v : Value} (h : Emb r s v) (ho : s.one = true) : v.oneCell' = true := by
  cases h <;> first | rfl | exact absurd ho (by simp [SV.one])
theorem Emb.cells {r : Pl} {s : SV} {v : Value} (h : Emb r s v) (hs : allS SV.one s.cells = true) : EmbL r s.cells v.cells.toList := by
  rw [allS_eq] at hs
  cases h <;> first
    | (exact .cons _ _ _ _ (by constructor <;> assumption) .nil)
    | (simpa [SV.cells, SV.onAgg, Value.cells] using ‹EmbL r _ _›)
    | (simp [SV.cells, SV.onAgg, SV.one] at hs)
theorem EmbL.ones {r : Pl} {l : List SV} {u : List Value} (h : EmbL r l u) (ho : l.all SV.one = true) : ∀ v ∈ u, v.oneCell' = true := by
  induction l generalizing u with
  | nil => cases h; simp
  | cons s l ih =>
    cases h with
    | cons _ v _ u h k =>
      simp at ho
      intro x hx
      rcases List.mem_cons.1 hx with rfl | hx
      · exact h.one ho.1
      · exact ih k (by simpa using ho.2) x hx
/- objects -/
inductive EmbM (r : Pl) : List (Int × SV) → List MapEntry → Prop
  | nil : EmbM r [] []
  | cons (k : Int) (s : SV) (v : Value) (b : Nat) (l : List (Int × SV)) (u : List MapEntry) (h : Emb r s v) (m : EmbM r l u) : EmbM r ((k, s) :: l) (⟨.int .i64 k, v, b⟩ :: u)
theorem EmbM.up {r r' : Pl} (hr : r.le r') {l : List (Int × SV)} {u : List MapEntry} (h : EmbM r l u) : EmbM r' l u := by
  induction h with
  | nil => exact .nil
  | cons k s v b l u h _ ih => exact .cons k s v b l u (h.up hr) ih
/-- What an object is in the world. -/
inductive ObjR (r : Pl) : SO → Nat → Obj → Prop
  | cells (l : List SV) (t : TypeId) (c : Nat) (u : List Value) (h : EmbL r l u) : ObjR r (.cells l t) c (.cells u.toArray t (0, 0))
  | row (l : List SV) (m : Nat) (t : TypeId) (z : Nat) (u x : List Value) (h : EmbL r l u) (c : Nat) (hx : ∀ v ∈ x, v.oneCell' = true) (hc : u.length + x.length = c * m) (hz : z ≤ u.length) (z0 : Nat) (h0 : z0 ≤ z) : ObjR r (.row l m t z) c (.cells (u ++ x).toArray t (0, z0))
  | ro (l : List SV) (c : Nat) (u x : List Value) (t : TypeId) (fr : Nat × Nat) (h : EmbL r l u) : ObjR r (.ro l) c (.cells (u ++ x).toArray t fr)
  | map (es : List (Int × SV)) (c : Nat) (l : List MapEntry) (k : Nat) (h : EmbM r es l) (hb : (l.map (·.born)).Pairwise (· < ·)) (hk : ∀ e ∈ l, e.born < k) : ObjR r (.map es) c (.map l.toArray k)
theorem ObjR.up {r r' : Pl} (hr : r.le r') {s : SO} {c : Nat} {o : Obj} (h : ObjR r s c o) : ObjR r' s c o := by
  cases h with
  | cells l t c u h => exact .cells l t c u (h.up hr)
  | row l m t z u x h c hx hc hz z0 h0 => exact .row l m t z u x (h.up hr) c hx hc hz z0 h0
  | ro l c u x t fr h => exact .ro l c u x t fr (h.up hr)
  | map es c l k h hb hk => exact .map es c l k (h.up hr) hb hk
structure Sim (r : Pl) (S : Tr) (nx : Nat) (w : World) : Prop where
  obj : ∀ g o, atT S g = some o → ∃ b c y, r g = some (b, c) ∧ w.heap[b]? = some y ∧ ObjR r o c y
  inj : ∀ g h o p b c d, atT S g = some o → atT S h = some p → r g = some (b, c) → r h = some (b, d) → g = h
  dom : ∀ g b c, r g = some (b, c) → b < w.heap.size ∧ g < nx
def feet (r : Pl) : Nat → Prop := fun k => ∃ g c, r g = some (k, c)
theorem feet_up {r r' : Pl} (h : r.le r') {k : Nat} (hk : feet r k) : feet r' k := let ⟨g, c, e⟩ := hk; ⟨g, c, h _ _ e⟩
theorem Sim.bel {r : Pl} {S : Tr} {nx : Nat} {w w' : World} (h : Sim r S nx w) (k : Bel w w') : Sim r S nx w' :=
  ⟨fun g o e => let ⟨b, c, y, h1, h2, h3⟩ := h.obj g o e; ⟨b, c, y, h1, blk_below h2 k, h3⟩, h.inj, fun g b c e => let ⟨h1, h2⟩ := h.dom g b c e; ⟨Nat.lt_of_lt_of_le h1 k.size, h2⟩⟩
theorem Sim.wid {r : Pl} {S : Tr} {nx nx' : Nat} {w : World} (h : Sim r S nx w) (k : nx ≤ nx') : Sim r S nx' w := ⟨h.obj, h.inj, fun g b c e => let ⟨h1, h2⟩ := h.dom g b c e; ⟨h1, by omega⟩⟩
theorem Sim.cells {r : Pl} {S : Tr} {nx : Nat} {w : World} (h : Sim r S nx w) {g : Nat} {l : List SV} (hl : cellsAt S g = some l) :
    ∃ b c u x t f, r g = some (b, c) ∧ w.heap[b]? = some (.cells (u ++ x).toArray t f) ∧ EmbL r l u := by
  obtain ⟨o, hg, hl⟩ := oB_some hl
  obtain ⟨b, c, y, h1, h2, h3⟩ := h.obj g o hg
  cases h3 with
  | cells l' t c u k => simp [SO.list] at hl; subst hl; exact ⟨b, c, u, [], t, (0, 0), h1, by simpa using h2, k⟩
  | row l' m t z u x k c hx hc hz z0 h0 => simp [SO.list] at hl; subst hl; exact ⟨b, c, u, x, t, (0, z0), h1, h2, k⟩
  | ro l' c u x t f k => simp [SO.list] at hl; subst hl; exact ⟨b, c, u, x, t, f, h1, h2, k⟩
  | map es c l k => simp [SO.list] at hl
theorem blk_cellF {w : World} {g : Nat} {cs : Array Value} {t : TypeId} {f : Nat × Nat} (h : w.heap[g]? = some (.cells cs t f)) (j : Nat) : w.cell? ⟨g, j, none⟩ = cs[j]? := by simp [World.cell?, h]
/-- The cells that are read. -/
theorem Sim.readN {r : Pl} {S : Tr} {nx : Nat} {w : World} (h : Sim r S nx w) {g : Nat} {l : List SV} (hl : cellsAt S g = some l) (i n : Nat) (hn : longS l (Nat.add i n) = true) :
    ∃ b c vs, r g = some (b, c) ∧ EmbL r (takeS (dropS l i) n) vs ∧ vs.length = n ∧ ∀ j, j < n → w.cell? ⟨b, i + j, none⟩ = vs[j]? := by
  obtain ⟨b, c, u, x, t, f, h1, h2, k⟩ := h.cells hl
  rw [longS_eq] at hn
  have hn : i + n ≤ l.length := by simpa using hn
  have := k.len
  refine ⟨b, c, (u.drop i).take n, h1, by rw [takeS_eq, dropS_eq]; exact (k.drop i).take n, by simp; omega, fun j hj => ?_⟩
  rw [blk_cellF h2]
  simp [List.getElem?_append, List.getElem?_take, hj]
  intro hh; omega
theorem Sim.read {r : Pl} {S : Tr} {nx : Nat} {w : World} (h : Sim r S nx w) {g : Nat} {l : List SV} (hl : cellsAt S g = some l) {i : Nat} (hi : longS l (Nat.succ i) = true) :
    ∃ b c v, r g = some (b, c) ∧ Emb r (nthS l i) v ∧ w.cell? ⟨b, i, none⟩ = some v := by
  obtain ⟨b, c, u, x, t, f, h1, h2, k⟩ := h.cells hl
  obtain ⟨v, hv, he⟩ := k.nth hi
  refine ⟨b, c, v, h1, he, ?_⟩
  rw [blk_cellF h2]
  have := List.getElem?_eq_some_iff.1 hv
  simp [List.getElem?_append, this.1, this.2]
/-- A block's cells are set, its kind and marks kept. -/
def World.setRowF (w : World) (g : Nat) (cs : Array Value) (t : TypeId) (f : Nat × Nat) : World := { w with heap := w.heap.setIfInBounds g (.cells cs t f) }
theorem setRowF_at {w : World} {g : Nat} {cs : Array Value} {t : TypeId} {f : Nat × Nat} (h : g < w.heap.size) : (World.setRowF w g cs t f).heap[g]? = some (.cells cs t f) := by simp [World.setRowF, h]
theorem setRowF_ne {w : World} {g k : Nat} {cs : Array Value} {t : TypeId} {f : Nat × Nat} (h : k ≠ g) : (World.setRowF w g cs t f).heap[k]? = w.heap[k]? := by simp [World.setRowF, Array.getElem?_setIfInBounds_ne (Ne.symm h)]
/-- An object is another one, in its block. -/
theorem Sim.turn {r : Pl} {S : Tr} {nx : Nat} {w : World} (h : Sim r S nx w) {g b c : Nat} {o o' : SO} {y' : Obj} (hg : atT S g = some o) (hr : r g = some (b, c)) (ho : ObjR r o' c y') :
    Sim r (updT S g (some o')) nx { w with heap := w.heap.setIfInBounds b y' } ∧ Upd (feet r) w (feet r) { w with heap := w.heap.setIfInBounds b y' } := by
  have hb := (h.dom g b c hr).1
  refine ⟨⟨?_, ?_, ?_⟩, ?_⟩
  · intro j p hj
    rcases at_upd _ _ _ _ hj with ⟨rfl, e⟩ | ⟨hne, e⟩
    · obtain rfl := Option.some.inj e
      exact ⟨b, c, y', hr, by simp [hb], ho⟩
    · obtain ⟨b', c', y, q1, q2, q3⟩ := h.obj j p e
      refine ⟨b', c', y, q1, ?_, q3⟩
      have : b' ≠ b := fun eb => hne (h.inj j g p o b c' c e hg (eb ▸ q1) hr)
      simp [Array.getElem?_setIfInBounds_ne (Ne.symm this), q2]
  · intro j j' p p' b' c' d' e1 e2
    have f : ∀ j p, atT (updT S g (some o')) j = some p → ∃ q, atT S j = some q := fun j p e1 => by
      rcases at_upd _ _ _ _ e1 with ⟨rfl, e⟩ | ⟨_, e⟩
      · exact ⟨o, hg⟩
      · exact ⟨_, e⟩
    obtain ⟨q, f1⟩ := f _ _ e1
    obtain ⟨q', f2⟩ := f _ _ e2
    exact h.inj j j' q q' b' c' d' f1 f2
  · intro j b' c' e
    have := h.dom j b' c' e
    simpa using this
  · refine ⟨rfl, rfl, rfl, by simp, fun k hk hn => ?_, fun _ h => .inl h⟩
    have : k ≠ b := fun e => hn ⟨g, c, by rw [e]; exact hr⟩
    simp [Array.getElem?_setIfInBounds_ne (Ne.symm this)]
/-- A new object. -/
def Pl.new (r : Pl) (n b c : Nat) : Pl := fun g => if g = n then some (b, c) else r g
theorem Sim.le_new {r : Pl} {S : Tr} {nx : Nat} {w : World} (h : Sim r S nx w) (b c : Nat) : r.le (r.new nx b c) := fun g x e => by
  have := (h.dom g x.1 x.2 e).2
  simp only [Pl.new]
  rw [if_neg (by omega)]
  exact e
theorem Pl.new_self (r : Pl) (n b c : Nat) : (r.new n b c) n = some (b, c) := by simp [Pl.new]
/-- An object that stands already, in nobody's block, gets the next name. -/
theorem Sim.adopt {r : Pl} {S : Tr} {nx : Nat} {w : World} (h : Sim r S nx w) {b c : Nat} {o : SO} {y : Obj} (hb : w.heap[b]? = some y) (hf : ¬ feet r b) (ho : ObjR (r.new nx b c) o c y) :
    Sim (r.new nx b c) (updT S nx (some o)) (nx + 1) w := by
  have hle := h.le_new b c
  have hlt := blk_lt hb
  refine ⟨?_, ?_, ?_⟩
  · intro j p hj
    rcases at_upd _ _ _ _ hj with ⟨rfl, e⟩ | ⟨hne, e⟩
    · obtain rfl := Option.some.inj e
      exact ⟨_, c, y, Pl.new_self _ _ _ _, hb, ho⟩
    · obtain ⟨b', c', y', q1, q2, q3⟩ := h.obj j p e
      exact ⟨b', c', y', hle _ _ q1, q2, q3.up hle⟩
  · intro j j' p p' b' c' d' e1 e2 f1 f2
    simp only [Pl.new] at f1 f2
    split at f1 <;> split at f2
    · omega
    · simp at f1; exact absurd ⟨j', d', by rw [f1.1]; exact f2⟩ hf
    · simp at f2; exact absurd ⟨j, c', by rw [f2.1]; exact f1⟩ hf
    · rcases at_upd _ _ _ _ e1 with ⟨rfl, e⟩ | ⟨_, e⟩
      · omega
      · rcases at_upd _ _ _ _ e2 with ⟨rfl, e'⟩ | ⟨_, e'⟩
        · omega
        · exact h.inj j j' p p' b' c' d' e e' f1 f2
  · intro j b' c' e
    simp only [Pl.new] at e
    split at e
    · simp at e; omega
    · have := h.dom j b' c' e; omega
theorem Sim.new {r : Pl} {S : Tr} {nx : Nat} {w : World} (h : Sim r S nx w) {o : SO} {c : Nat} {y : Obj} (ho : ObjR r o c y) :
    Sim (r.new nx w.heap.size c) (updT S nx (some o)) (nx + 1) (w.alloc y) ∧ Upd (feet r) w (feet (r.new nx w.heap.size c)) (w.alloc y) := by
  have hle := h.le_new w.heap.size c
  refine ⟨(h.bel (Bel.alloc w y)).adopt (y := y) (by show (w.heap.push y)[w.heap.size]? = some y; simp) (fun ⟨g, d, e⟩ => by have := (h.dom g _ _ e).1; omega) (ho.up hle), ?_⟩
  have u := Upd.of_bel (F := feet r) (Bel.alloc w y)
  refine u.foot_of (fun k hk => ?_)
  obtain ⟨g, d, e⟩ := hk
  simp only [Pl.new] at e
  split at e
  · simp at e; right; omega
  · exact .inl ⟨g, d, e⟩
theorem Upd.up {r r' : Pl} {F : Nat → Prop} {w w' : World} (h : Upd F w (feet r) w') (hr : r'.le r) : Upd F w (feet r') w' := h.foot_of (fun k hk => .inl (feet_up hr hk))
/-- An object is given up. -/
theorem Sim.drop {r : Pl} {S : Tr} {nx : Nat} {w : World} (h : Sim r S nx w) (g : Nat) : Sim r (updT S g none) nx w := by
  have f : ∀ j p, atT (updT S g none) j = some p → atT S j = some p := fun j p hj => by
    rcases at_upd _ _ _ _ hj with ⟨_, e⟩ | ⟨_, e⟩
    · simp at e
    · exact e
  exact ⟨fun j p hj => h.obj j p (f j p hj), fun j j' p p' b c d e1 e2 => h.inj j j' p p' b c d (f _ _ e1) (f _ _ e2), h.dom⟩
theorem Sim.drew {r : Pl} {S : Tr} {nx : Nat} {w : World} (h : Sim r S nx w) : Sim r S nx { w with drawn := w.drawn + 1 } := ⟨h.obj, h.inj, h.dom⟩
/- the temporaries -/
noncomputable def getI (e : En) (i : Nat) : SV := getE (dig16 (i / 8)) (dig8 (i % 8)) e
def Glob (r : Pl) : Prop := ∀ g, g ≤ 1 → ∃ c, r g = some (g, c)
theorem Glob.up {r r' : Pl} (h : Glob r) (hr : r.le r') : Glob r' := fun g hg => let ⟨c, e⟩ := h g hg; ⟨c, hr _ _ e⟩
structure Env (n : Nat) (r : Pl) (e : En) (a : Go.Act) : Prop where
  size : a.tmps.size = n
  le : n ≤ 128
  defers : a.defers = []
  glob : Glob r
  emb : ∀ i, i < n → Emb r (getI e i) (a.tmps.getD i Go.undef)
theorem Env.up {n : Nat} {r r' : Pl} (hr : r.le r') {e : En} {a : Go.Act} (h : Env n r e a) : Env n r' e a := ⟨h.size, h.le, h.defers, h.glob.up hr, fun i hi => (h.emb i hi).up hr⟩
theorem dig8_inj {a b : Nat} (ha : a < 8) (hb : b < 8) (h : dig8 a = dig8 b) : a = b := by
  rcases lt8 ha with rfl | rfl | rfl | rfl | rfl | rfl | rfl | rfl <;> rcases lt8 hb with rfl | rfl | rfl | rfl | rfl | rfl | rfl | rfl <;> first | rfl | (exact absurd h (by simp [dig8]))
theorem lt16 {k : Nat} (h : k < 16) : k = 0 ∨ k = 1 ∨ k = 2 ∨ k = 3 ∨ k = 4 ∨ k = 5 ∨ k = 6 ∨ k = 7 ∨ k = 8 ∨ k = 9 ∨ k = 10 ∨ k = 11 ∨ k = 12 ∨ k = 13 ∨ k = 14 ∨ k = 15 := by omega
theorem dig16_inj {a b : Nat} (ha : a < 16) (hb : b < 16) (h : dig16 a = dig16 b) : a = b := by
  rcases lt16 ha with rfl | rfl | rfl | rfl | rfl | rfl | rfl | rfl | rfl | rfl | rfl | rfl | rfl | rfl | rfl | rfl <;> rcases lt16 hb with rfl | rfl | rfl | rfl | rfl | rfl | rfl | rfl | rfl | rfl | rfl | rfl | rfl | rfl | rfl | rfl <;> first | rfl | (exact absurd h (by simp [dig16]))
theorem getI_set (e : En) (s : SV) {i d : Nat} (hi : i < 128) (hd : d < 128) : getI (setE (dig16 (d / 8)) (dig8 (d % 8)) s e) i = if i = d then s else getI e i := by
  unfold getI getE setE
  by_cases h1 : dig16 (i / 8) = dig16 (d / 8)
  · rw [h1, sel16_upd]
    have e1 := dig16_inj (by omega) (by omega) h1
    by_cases h2 : dig8 (i % 8) = dig8 (d % 8)
    · have e2 := dig8_inj (by omega) (by omega) h2
      rw [h2, sel8_upd, if_pos (by omega)]
    · rw [sel8_ne _ _ h2, if_neg (fun e => h2 (by rw [e]))]
  · rw [sel16_ne _ _ h1, if_neg (fun e => h1 (by rw [e]))]
theorem Env.put {n : Nat} {r : Pl} {e : En} {a : Go.Act} (h : Env n r e a) (d : Option Nat) (hd : ∀ k, d = some k → k < 128) {s : SV} {v : Value} (hs : Emb r s v) : Env n r (putS (dstOf d) s e) (a.put d v) := by
  cases d with
  | none => exact h
  | some d =>
    have hd := hd d rfl
    refine ⟨by simp [Act.put, h.size], h.le, h.defers, h.glob, fun i hi => ?_⟩
    have hle := h.le
    show Emb r (getI (setE (dig16 (d / 8)) (dig8 (d % 8)) s e) i) _
    rw [getI_set _ _ (by omega) hd]
    simp only [Act.put, Array.getD_eq_getD_getElem?]
    by_cases hid : i = d
    · subst hid
      rw [if_pos rfl]
      have : i < a.tmps.size := by rw [h.size]; exact hi
      simp [this, hs]
    · rw [if_neg hid, Array.getElem?_setIfInBounds_ne (Ne.symm hid), ← Array.getD_eq_getD_getElem?]
      exact h.emb i hi
theorem bytesOf_toNat (s : ByteArray) : bytesOf (s.data.toList.map UInt8.toNat) = s := by
  unfold bytesOf
  rw [List.map_map]
  have : (fun n : Nat => n.toUInt8) ∘ UInt8.toNat = id := by funext x; simp
  rw [this]
  simp
theorem ofConst_emb (r : Pl) {v : Value} {s : SV} (h : ofConst v = some s) : Emb r s v := by
  unfold ofConst at h
  split at h <;> first | (obtain rfl := Option.some.inj h) | (simp at h)
  · exact .bool _
  · exact .int _ _
  · rename_i s
    have := Emb.str (r := r) (s.data.toList.map UInt8.toNat) (by intro b hb; obtain ⟨x, _, rfl⟩ := List.mem_map.1 hb; exact x.toNat_lt)
    rwa [bytesOf_toNat] at this
  · exact .nilp
  · exact .nils
  · exact .nilm
  · exact .nilf
  · exact .nili
theorem Env.opd {n : Nat} {r : Pl} {e : En} {a : Go.Act} (h : Env n r e a) {x : Operand} {y : X} (hx : opX n x = some y) : Emb r (getX y e) (a.eval x) := by
  cases x with
  | tmp i =>
    obtain ⟨hi, hy⟩ := bI_some hx
    obtain rfl := Option.some.inj hy
    rw [blt_eq] at hi
    exact h.emb i (by simpa using hi)
  | const v =>
    obtain ⟨s, hs, hy⟩ := oB_some hx
    obtain rfl := Option.some.inj hy
    exact ofConst_emb r hs
  | func f =>
    obtain rfl := Option.some.inj hx
    exact .func f [] [] [] [] .nil .nil
  | global g =>
    obtain ⟨hg, hy⟩ := bI_some hx
    obtain rfl := Option.some.inj hy
    obtain ⟨c, hc⟩ := h.glob g (Nat.le_of_ble_eq_true hg)
    exact .ptr g 0 g c hc
theorem Env.opdL {n : Nat} {r : Pl} {e : En} {a : Go.Act} (h : Env n r e a) : ∀ (l : List Operand) (m : List X), opXL n l = some m → EmbL r (getL m e) (l.map a.eval)
  | [], m, hx => by obtain rfl := Option.some.inj hx; exact .nil
  | x :: l, m, hx => by
    obtain ⟨y, h1, hx⟩ := oB_some hx
    obtain ⟨k, h2, hx⟩ := oB_some hx
    obtain rfl := Option.some.inj hx
    exact .cons _ _ _ _ (h.opd h1) (h.opdL l k h2)
inductive EmbO (r : Pl) : Option SV → Option Value → Prop
  | none : EmbO r none none
  | some (s : SV) (v : Value) (h : Emb r s v) : EmbO r (some s) (some v)
theorem Env.opdO {n : Nat} {r : Pl} {e : En} {a : Go.Act} (h : Env n r e a) {x : Option Operand} {y : Option X} (hx : opXO n x = some y) : EmbO r (getO y e) (x.map a.eval) := by
  cases x with
  | none => obtain rfl := Option.some.inj hx; exact .none
  | some x =>
    obtain ⟨z, h1, hx⟩ := oB_some hx
    obtain rfl := Option.some.inj hx
    exact .some _ _ (h.opd h1)
end Go.Proofs.YtgpkpheejefiiaaGreatDoor
end
section
set_option linter.unusedVariables false
set_option linter.unusedSimpArgs false
namespace Go.Proofs.YtgpkpheejefiiaaGreatDoor
open Go.RowKit
variable {P : Program}
theorem boolno {C : Prop} (h : false = true) : C := by cases h
theorem nosome {α : Type} {b : α} {C : Prop} (h : (none : Option α) = some b) : C := by cases h
section
variable {β : Type} {b : β} {s : SV}
theorem onInt_some {k : IntKind → Int → Option β} (h : s.onInt none k = some b) : ∃ i n, s = .int i n ∧ k i n = some b := by
  cases s <;> first | exact ⟨_, _, rfl, h⟩ | exact nosome h
theorem onBool_some {k : Bool → Option β} (h : s.onBool none k = some b) : ∃ c, s = .bool c ∧ k c = some b := by
  cases s <;> first | exact ⟨_, rfl, h⟩ | exact nosome h
theorem onStr_some {k : List Nat → Option β} (h : s.onStr none k = some b) : ∃ l, s = .str l ∧ k l = some b := by
  cases s <;> first | exact ⟨_, rfl, h⟩ | exact nosome h
theorem onPtr_some {k : Nat → Nat → Option β} (h : s.onPtr none k = some b) : ∃ g o, s = .ptr g o ∧ k g o = some b := by
  cases s <;> first | exact ⟨_, _, rfl, h⟩ | exact nosome h
theorem onMap_some {k : Nat → Option β} (h : s.onMap none k = some b) : ∃ g, s = .map g ∧ k g = some b := by
  cases s <;> first | exact ⟨_, rfl, h⟩ | exact nosome h
theorem onAgg_some {k : List SV → Option β} (h : s.onAgg none k = some b) : ∃ l, s = .agg l ∧ k l = some b := by
  cases s <;> first | exact ⟨_, rfl, h⟩ | exact nosome h
theorem onTup_some {k : List SV → Option β} (h : s.onTup none k = some b) : ∃ l, s = .tup l ∧ k l = some b := by
  cases s <;> first | exact ⟨_, rfl, h⟩ | exact nosome h
theorem onSl_some {z : Option β} {k j : Nat → Nat → Nat → Nat → Option β} (h : s.onSl none z k j = some b) :
    (s = .nils ∧ z = some b) ∨ (∃ g o n c, s = .slice g o n c ∧ k g o n c = some b) ∨ (∃ g o n c, s = .own g o n c ∧ j g o n c = some b) := by
  cases s <;> first | exact .inl ⟨rfl, h⟩ | exact .inr (.inl ⟨_, _, _, _, rfl, h⟩) | exact .inr (.inr ⟨_, _, _, _, rfl, h⟩) | exact nosome h
end
/- numbers -/
theorem wrapQ_eq (k : IntKind) (n : Int) : wrapQ k n = k.wrap n := by
  cases n with
  | negSucc m => rfl
  | ofNat m =>
    show bI (Nat.ble m (kTop k)) (Int.ofNat m) (k.wrap (Int.ofNat m)) = _
    rw [bI_eq]
    by_cases h : Nat.ble m (kTop k) = true
    · rw [if_pos h]
      have h := Nat.le_of_ble_eq_true h
      cases k <;> simp [kTop] at h <;> simp [IntKind.wrap, IntKind.bits, IntKind.signed] <;> omega
    · rw [if_neg h]
theorem eqI_eq (x y : Int) : eqI x y = (x == y) := by
  rw [Bool.eq_iff_iff, beq_iff_eq]
  cases x <;> cases y
  · show Nat.beq _ _ = true ↔ _; rw [Nat.beq_eq]; exact ⟨fun h => by rw [h], fun h => Int.ofNat.inj h⟩
  · exact ⟨fun h => boolno h, fun h => Int.noConfusion h⟩
  · exact ⟨fun h => boolno h, fun h => Int.noConfusion h⟩
  · show Nat.beq _ _ = true ↔ _; rw [Nat.beq_eq]; exact ⟨fun h => by rw [h], fun h => Int.negSucc.inj h⟩
theorem leI_eq (x y : Int) : leI x y = decide (x ≤ y) := by
  rw [Bool.eq_iff_iff, decide_eq_true_iff]
  cases x with
  | ofNat m => cases y with
    | ofNat n => show Nat.ble m n = true ↔ Int.ofNat m ≤ Int.ofNat n; rw [Nat.ble_eq]; simp
    | negSucc n => exact ⟨fun h => boolno h, fun h => by have := Int.negSucc_lt_zero n; have : (0 : Int) ≤ Int.ofNat m := Int.natCast_nonneg m; omega⟩
  | negSucc m => cases y with
    | ofNat n => exact ⟨fun _ => by have := Int.negSucc_lt_zero m; have : (0 : Int) ≤ Int.ofNat n := Int.natCast_nonneg n; omega, fun _ => rfl⟩
    | negSucc n => show Nat.ble n m = true ↔ _; rw [Nat.ble_eq]; simp [Int.negSucc_eq]
theorem ltI_eq (x y : Int) : ltI x y = decide (x < y) := by
  unfold ltI
  rw [nB_eq, leI_eq, Bool.eq_iff_iff]
  simp
theorem inI_true {i : Int} {n : Nat} (h : inI i n = true) : 0 ≤ i ∧ i < n := by
  unfold inI at h
  obtain ⟨h1, h2⟩ := aB_true h
  rw [leI_eq] at h1
  rw [ltI_eq] at h2
  exact ⟨of_decide_eq_true h1, of_decide_eq_true h2⟩
theorem kEq_true {j k : IntKind} (h : kEq j k = true) : j = k := by
  cases j <;> cases k <;> first | rfl | exact boolno h
theorem kTop_pow (k : IntKind) : ∃ p, p ≤ k.bits ∧ kTop k + 1 = 2 ^ p ∧ ∀ m, m < 2 ^ p → k.wrap (Int.ofNat m) = Int.ofNat m := by
  have key : ∀ m, m ≤ kTop k → k.wrap (Int.ofNat m) = Int.ofNat m := fun m hm => by
    rw [← wrapQ_eq]
    show bI (Nat.ble m (kTop k)) _ _ = _
    rw [bI_eq, if_pos (Nat.ble_eq_true_of_le hm)]
  cases k
  · exact ⟨7, by decide, rfl, fun m hm => key m (by show m ≤ 127; omega)⟩
  · exact ⟨15, by decide, rfl, fun m hm => key m (by show m ≤ 32767; omega)⟩
  · exact ⟨31, by decide, rfl, fun m hm => key m (by show m ≤ 2147483647; omega)⟩
  · exact ⟨63, by decide, rfl, fun m hm => key m (by show m ≤ 9223372036854775807; omega)⟩
  · exact ⟨8, by decide, rfl, fun m hm => key m (by show m ≤ 255; omega)⟩
  · exact ⟨16, by decide, rfl, fun m hm => key m (by show m ≤ 65535; omega)⟩
  · exact ⟨32, by decide, rfl, fun m hm => key m (by show m ≤ 4294967295; omega)⟩
  · exact ⟨64, by decide, rfl, fun m hm => key m (by show m ≤ 18446744073709551615; omega)⟩
theorem bitQ_eq (f : Nat → Nat → Nat) (g : IntKind → Int → Int → Int) (k : IntKind) (x y : Int)
    (hf : ∀ p m n, p ≤ k.bits → m < 2 ^ p → n < 2 ^ p → f m n < 2 ^ p ∧ g k (Int.ofNat m) (Int.ofNat n) = k.wrap (Int.ofNat (f m n))) : bitQ f g k x y = g k x y := by
  cases x with
  | negSucc m => rfl
  | ofNat m => cases y with
    | negSucc n => rfl
    | ofNat n =>
      show bI (aB (Nat.ble m (kTop k)) (Nat.ble n (kTop k))) (Int.ofNat (f m n)) _ = _
      rw [bI_eq]
      by_cases h : aB (Nat.ble m (kTop k)) (Nat.ble n (kTop k)) = true
      · rw [if_pos h]
        obtain ⟨h1, h2⟩ := aB_true h
        have h1 := Nat.le_of_ble_eq_true h1
        have h2 := Nat.le_of_ble_eq_true h2
        obtain ⟨p, hp, ht, hw⟩ := kTop_pow k
        obtain ⟨q1, q2⟩ := hf p m n hp (by omega) (by omega)
        rw [q2, hw _ q1]
      · rw [if_neg h]
theorem ofInt_toNat {w m p : Nat} (hp : p ≤ w) (hm : m < 2 ^ p) : (BitVec.ofInt w (Int.ofNat m)).toNat = m := by
  have h : m < 2 ^ w := Nat.lt_of_lt_of_le hm (Nat.pow_le_pow_right (by omega) hp)
  show (BitVec.ofInt w (m : Int)).toNat = m
  rw [BitVec.ofInt_natCast, BitVec.toNat_ofNat, Nat.mod_eq_of_lt h]
theorem and_bit (k : IntKind) (p m n : Nat) (hp : p ≤ k.bits) (hm : m < 2 ^ p) (hn : n < 2 ^ p) : Nat.land m n < 2 ^ p ∧ andG k (Int.ofNat m) (Int.ofNat n) = k.wrap (Int.ofNat (Nat.land m n)) := by
  refine ⟨Nat.lt_of_le_of_lt Nat.and_le_left hm, ?_⟩
  unfold andG
  rw [BitVec.toNat_and, ofInt_toNat hp hm, ofInt_toNat hp hn]; rfl
theorem or_bit (k : IntKind) (p m n : Nat) (hp : p ≤ k.bits) (hm : m < 2 ^ p) (hn : n < 2 ^ p) : Nat.lor m n < 2 ^ p ∧ orG k (Int.ofNat m) (Int.ofNat n) = k.wrap (Int.ofNat (Nat.lor m n)) := by
  refine ⟨Nat.or_lt_two_pow hm hn, ?_⟩
  unfold orG
  rw [BitVec.toNat_or, ofInt_toNat hp hm, ofInt_toNat hp hn]; rfl
theorem xor_bit (k : IntKind) (p m n : Nat) (hp : p ≤ k.bits) (hm : m < 2 ^ p) (hn : n < 2 ^ p) : Nat.xor m n < 2 ^ p ∧ xorG k (Int.ofNat m) (Int.ofNat n) = k.wrap (Int.ofNat (Nat.xor m n)) := by
  refine ⟨Nat.xor_lt_two_pow hm hn, ?_⟩
  unfold xorG
  rw [BitVec.toNat_xor, ofInt_toNat hp hm, ofInt_toNat hp hn]; rfl
theorem shrQ_eq (x : Int) (m : Nat) : shrQ x m = x.fdiv (2 ^ m) := by
  cases x with
  | negSucc n => rfl
  | ofNat n =>
    show Int.ofNat (n / 2 ^ m) = (Int.ofNat n).fdiv (2 ^ m)
    rw [show (2 : Int) ^ m = Int.ofNat (2 ^ m) from (Int.natCast_pow 2 m).symm]
    cases n with
    | zero => simp
    | succ n => rfl
theorem min_bI (a b : Nat) : bI (Nat.ble a b) a b = min a b := by
  rw [bI_eq]
  by_cases h : a ≤ b
  · rw [if_pos (Nat.ble_eq_true_of_le h)]; omega
  · rw [if_neg (fun e => h (Nat.le_of_ble_eq_true e))]; omega
theorem intF_ok (r : Pl) {op : BinOp} {f : IF} (hf : intF op = some f) (hsh : op ≠ .shl ∧ op ≠ .shr) {k : IntKind} {x y : Int} {s : SV} (h : f k x y = some s) (ty : TypeId) (w : World) :
    ∃ v, Emb r s v ∧ (binOp op ty (.int k x) (.int k y)).run P w = .ok v w := by
  cases op <;> first | (exact nosome hf) | (obtain rfl := Option.some.inj hf)
  case add => obtain rfl := Option.some.inj h; exact ⟨_, .int _ _, by rw [wrapQ_eq]; simp [binOp, Op.intArith]⟩
  case sub => obtain rfl := Option.some.inj h; exact ⟨_, .int _ _, by rw [wrapQ_eq]; simp [binOp, Op.intArith]; rfl⟩
  case mul => obtain rfl := Option.some.inj h; exact ⟨_, .int _ _, by rw [wrapQ_eq]; simp [binOp, Op.intArith]⟩
  case quo =>
    replace h := bI_none h
    obtain ⟨h0, h⟩ := h
    rw [eqI_eq] at h0
    have h0 : y ≠ 0 := by simpa using h0
    obtain rfl := Option.some.inj h; exact ⟨_, .int _ _, by rw [wrapQ_eq]; simp [binOp, Op.intDiv, h0]⟩
  case rem =>
    replace h := bI_none h
    obtain ⟨h0, h⟩ := h
    rw [eqI_eq] at h0
    have h0 : y ≠ 0 := by simpa using h0
    obtain rfl := Option.some.inj h; exact ⟨_, .int _ _, by simp [binOp, Op.intDiv, h0]⟩
  case and => obtain rfl := Option.some.inj h; exact ⟨_, .int _ _, by rw [bitQ_eq _ _ _ _ _ (and_bit k)]; simp [binOp, Op.intBits, andG]⟩
  case or => obtain rfl := Option.some.inj h; exact ⟨_, .int _ _, by rw [bitQ_eq _ _ _ _ _ (or_bit k)]; simp [binOp, Op.intBits, orG]⟩
  case xor => obtain rfl := Option.some.inj h; exact ⟨_, .int _ _, by rw [bitQ_eq _ _ _ _ _ (xor_bit k)]; simp [binOp, Op.intBits, xorG]⟩
  case andNot => obtain rfl := Option.some.inj h; exact ⟨_, .int _ _, by simp [binOp, Op.intBits, andNotG]⟩
  case eql => obtain rfl := Option.some.inj h; exact ⟨_, .bool _, by rw [eqI_eq]; simp [binOp, Op.intCmp]⟩
  case neq => obtain rfl := Option.some.inj h; exact ⟨_, .bool _, by rw [nB_eq, eqI_eq]; simp [binOp, Op.intCmp]; rfl⟩
  case lss => obtain rfl := Option.some.inj h; exact ⟨_, .bool _, by rw [ltI_eq]; simp [binOp, Op.intCmp]⟩
  case leq => obtain rfl := Option.some.inj h; exact ⟨_, .bool _, by rw [leI_eq]; simp [binOp, Op.intCmp]⟩
  case gtr => obtain rfl := Option.some.inj h; exact ⟨_, .bool _, by rw [ltI_eq]; simp [binOp, Op.intCmp]⟩
  case geq => obtain rfl := Option.some.inj h; exact ⟨_, .bool _, by rw [leI_eq]; simp [binOp, Op.intCmp]⟩
theorem shl_ok (r : Pl) {k j : IntKind} {x y : Int} {s : SV} (h : shlI k x y = some s) (ty : TypeId) (w : World) : ∃ v, Emb r s v ∧ (binOp .shl ty (.int k x) (.int j y)).run P w = .ok v w := by
  replace h := bI_some h
  obtain ⟨h0, h⟩ := h
  rw [leI_eq] at h0
  have h0 : ¬ y < 0 := by have := of_decide_eq_true h0; omega
  obtain rfl := Option.some.inj h
  refine ⟨_, .int _ _, ?_⟩
  rw [wrapQ_eq, min_bI]
  simp [binOp, Op.shift, h0]
theorem shr_ok (r : Pl) {k j : IntKind} {x y : Int} {s : SV} (h : shrI k x y = some s) (ty : TypeId) (w : World) : ∃ v, Emb r s v ∧ (binOp .shr ty (.int k x) (.int j y)).run P w = .ok v w := by
  replace h := bI_some h
  obtain ⟨h0, h⟩ := h
  rw [leI_eq] at h0
  have h0 : ¬ y < 0 := by have := of_decide_eq_true h0; omega
  obtain rfl := Option.some.inj h
  refine ⟨_, .int _ _, ?_⟩
  rw [shrQ_eq, min_bI]
  simp [binOp, Op.shift, h0]
theorem run_eqGuard_int (op : BinOp) (t : TypeId) (x y : Operand) (j k : IntKind) (a b : Int) (w : World) : (eqGuard op t x y (.int j a) (.int k b)).run P w = .ok () w := by
  unfold eqGuard
  split <;> simp
/- texts -/
theorem lenN_eq (l : List Nat) : lenN l = l.length := by
  induction l with
  | nil => rfl
  | cons a l ih => show Nat.succ (lenN l) = _; rw [ih]; rfl
theorem appN_eq (l m : List Nat) : appN l m = l ++ m := by
  induction l with
  | nil => rfl
  | cons a l ih => show a :: appN l m = _; rw [ih]; rfl
theorem takeN_eq (l : List Nat) : ∀ n, takeN l n = l.take n := by
  induction l with
  | nil => intro n; simp [takeN]
  | cons a l ih => intro n; cases n with
    | zero => rfl
    | succ n => show a :: takeN l n = _; rw [ih]; simp
theorem dropN_eq (l : List Nat) : ∀ n, dropN l n = l.drop n := by
  induction l with
  | nil => intro n; simp [dropN]
  | cons a l ih => intro n; cases n with
    | zero => rfl
    | succ n => show dropN l n = _; rw [ih]; simp
theorem eqL_eq (l : List Nat) : ∀ m, eqL l m = (l == m) := by
  induction l with
  | nil => intro m; cases m <;> rfl
  | cons a l ih =>
    intro m
    cases m with
    | nil => rfl
    | cons b m =>
      show bI (Nat.beq a b) (eqL l m) false = ((a == b) && (l == m))
      rw [bI_eq, ih]
      have e : Nat.beq a b = (a == b) := by rw [Bool.eq_iff_iff, Nat.beq_eq, beq_iff_eq]
      rw [e]
      cases (a == b) <;> simp
theorem bytesOf_size (l : List Nat) : (bytesOf l).size = l.length := by simp [bytesOf, ByteArray.size]
theorem bytesOf_toList (l : List Nat) : (bytesOf l).toList = l.map fun n => n.toUInt8 := by rw [ByteArray.toList_eq]; simp [bytesOf]
theorem bytesOf_append (l m : List Nat) : bytesOf l ++ bytesOf m = bytesOf (l ++ m) := by
  apply ByteArray.ext
  simp [bytesOf]
theorem u8_inj {a b : Nat} (ha : a < 256) (hb : b < 256) (h : a.toUInt8 = b.toUInt8) : a = b := by
  have := congrArg UInt8.toNat h
  simp at this
  omega
theorem bytesOf_beq : ∀ (l m : List Nat), (∀ b ∈ l, b < 256) → (∀ b ∈ m, b < 256) → ((l.map fun n => n.toUInt8) == (m.map fun n => n.toUInt8)) = (l == m)
  | [], [], _, _ => rfl
  | [], _ :: _, _, _ => rfl
  | _ :: _, [], _, _ => rfl
  | a :: l, b :: m, h, k => by
    have ih := bytesOf_beq l m (fun c hc => h c (by simp [hc])) (fun c hc => k c (by simp [hc]))
    have e : (a.toUInt8 == b.toUInt8) = (a == b) := by
      rw [Bool.eq_iff_iff]
      simp
      exact ⟨fun e => u8_inj (h a (by simp)) (k b (by simp)) (by simpa using e), fun e => by rw [e]⟩
    show ((a.toUInt8 == b.toUInt8) && _) = ((a == b) && _)
    rw [e]
    exact congrArg _ ih
theorem strF_ok (r : Pl) {op : BinOp} {f : SV → SV → Option SV} (hf : strF op = some f) {x y s : SV} {u v : Value} (hx : Emb r x u) (hy : Emb r y v) (h : f x y = some s) (c d : Operand) (ty : TypeId) (w : World) :
    ∃ q, Emb r s q ∧ (eqGuard op ty c d u v).run P w = .ok () w ∧ (binOp op ty u v).run P w = .ok q w := by
  have hg : ∀ l m : List Nat, (eqGuard op ty c d (.string (bytesOf l)) (.string (bytesOf m))).run P w = .ok () w := fun l m => by unfold eqGuard; split <;> simp
  cases op <;> first | exact nosome hf | (obtain rfl := Option.some.inj hf)
  case add =>
    replace h := onStr_some h
    obtain ⟨l, rfl, h⟩ := h
    replace h := onStr_some h
    obtain ⟨m, rfl, h⟩ := h
    replace h := bI_some h
    obtain ⟨hn, h⟩ := h
    obtain rfl := Option.some.inj h
    have hn := Nat.le_of_ble_eq_true hn
    rw [lenN_eq, lenN_eq] at hn
    cases hx with
    | str _ h1 => cases hy with
      | str _ h2 =>
        refine ⟨_, .str _ (by rw [appN_eq]; intro b hb; rcases List.mem_append.1 hb with hb | hb; exact h1 b hb; exact h2 b hb), hg l m, ?_⟩
        have hn : l.length + m.length ≤ 1000000 := hn
        have hq := run_string_add_sum (P := P) (w := w) (bytesOf l) (bytesOf m) (by simp only [bytesOf_size]; omega)
        rw [binOp_string_add, hq, bytesOf_append, appN_eq]
  case eql =>
    replace h := onStr_some h
    obtain ⟨l, rfl, h⟩ := h
    replace h := onStr_some h
    obtain ⟨m, rfl, h⟩ := h
    obtain rfl := Option.some.inj h
    cases hx with
    | str _ h1 => cases hy with
      | str _ h2 =>
        refine ⟨_, .bool _, hg l m, ?_⟩
        rw [binOp_string_eql, bytesOf_toList, bytesOf_toList, bytesOf_beq l m h1 h2, eqL_eq]
        rfl
  case neq =>
    replace h := onStr_some h
    obtain ⟨l, rfl, h⟩ := h
    replace h := onStr_some h
    obtain ⟨m, rfl, h⟩ := h
    obtain rfl := Option.some.inj h
    cases hx with
    | str _ h1 => cases hy with
      | str _ h2 =>
        refine ⟨_, .bool _, hg l m, ?_⟩
        rw [binOp_string_neq, bytesOf_toList, bytesOf_toList, bytesOf_beq l m h1 h2, nB_eq, eqL_eq]
        rfl
theorem unF_ok {r : Pl} {op : UnOp} {f : SV → Option SV} (hf : unF op = some f) {x s : SV} {u : Value} (hx : Emb r x u) (h : f x = some s) (w : World) : ∃ v, Emb r s v ∧ (Op.unary op u).run P w = .ok v w := by
  cases op <;> first | exact nosome hf | (obtain rfl := Option.some.inj hf)
  case not =>
    replace h := onBool_some h
    obtain ⟨b, rfl, h⟩ := h
    obtain rfl := Option.some.inj h
    cases hx
    exact ⟨_, .bool _, by rw [nB_eq]; simp [Op.unary]⟩
  case neg =>
    replace h := onInt_some h
    obtain ⟨k, n, rfl, h⟩ := h
    obtain rfl := Option.some.inj h
    cases hx
    exact ⟨_, .int _ _, by simp [Op.unary, Op.intArith]⟩
  case xor =>
    replace h := onInt_some h
    obtain ⟨k, n, rfl, h⟩ := h
    obtain rfl := Option.some.inj h
    cases hx
    exact ⟨_, .int _ _, by simp [Op.unary, Op.intBits]⟩
end Go.Proofs.YtgpkpheejefiiaaGreatDoor
end
section
set_option linter.unusedVariables false
set_option linter.unusedSimpArgs false
namespace Go.Proofs.YtgpkpheejefiiaaGreatDoor
open Go.RowKit
variable {P : Program}
/-- The tables are the program's. -/
structure TabOK (T : Tab P) : Prop where
  und : ∀ t d, T.und t = some d → P.underlying t = some d
  inf : ∀ t n z, T.inf t = some (n, z) → ∃ i v, P.info? t = some i ∧ i.size = n ∧ i.zero = some v ∧ v.cells.size = n ∧ (∀ r, EmbL r z v.cells.toList) ∧ i.bytes ≤ 1000000
  zero : ∀ t s, zeroOf T t = some s → ∃ i v, P.info? t = some i ∧ i.zero = some v ∧ ∀ r, Emb r s v
  eqa : ∀ ty n, T.eqT ty = some n → ∀ (r : Pl) (x y : SV) (u v : Value) (b : Bool) (op : BinOp) (c d : Operand) (w : World), Emb r x u → Emb r y v → eqAgg n x y = some b → (Op.equal ty u v).run P w = .ok b w ∧ (eqGuard op ty c d u v).run P w = .ok () w
theorem run_sizeOf' {t : TypeId} {i : TypeInfo} (h : P.info? t = some i) (w : World) : (sizeOf t).run P w = .ok i.size w := by
  simp [sizeOf, typeInfo, h]
theorem run_isAgg' {t : TypeId} {d : TypeDesc} (h : P.underlying t = some d) (w : World) : (isAgg t).run P w = .ok (isRowB d) w := by
  simp only [isAgg, Sem.run_bind, run_underlying h, Result.andThen_ok]
  cases d <;> rfl
theorem run_zero' {t : TypeId} {i : TypeInfo} {v : Value} (h : P.info? t = some i) (hz : i.zero = some v) (w : World) : (zeroValue t).run P w = .ok v w := by
  simp [zeroValue, typeInfo, h, hz]
variable {T : Tab P}
theorem infP (hT : TabOK T) {t n : Nat} {z : List SV} (h : T.inf t = some (n, z)) : ∃ i v, P.info? t = some i ∧ i.size = n ∧ i.zero = some v ∧ v.cells.size = n ∧ (∀ r, EmbL r z v.cells.toList) ∧ i.bytes ≤ 1000000 := hT.inf t n z h
theorem nilP_ok {r : Pl} {ty e : TypeId} (hd : P.underlying ty = some (.pointer e)) {x y : SV} {u v : Value} {b : Bool} (hx : Emb r x u) (hy : Emb r y v) (h : eqNilV nilP x y = some b) (w : World) : (Op.equal ty u v).run P w = .ok b w := by
  show (Op.equalIn (9999 + 1) ty u v).run P w = _
  generalize 9999 = d9
  obtain ⟨a, ha, h⟩ := oB_some h
  obtain ⟨c, hc, h⟩ := oB_some h
  obtain ⟨hn, h⟩ := bI_none h
  obtain rfl := Option.some.inj h
  cases x <;> first | exact nosome ha | skip
  all_goals
    cases y <;> first | exact nosome hc | skip
  all_goals
    obtain rfl := Option.some.inj ha
    obtain rfl := Option.some.inj hc
    first | exact absurd hn (by decide) | (cases hx; cases hy; simp only [Op.equalIn, Sem.run_bind, run_underlying hd, Result.andThen_ok]; done) | (cases hx; cases hy; simp only [Op.equalIn, Sem.run_bind, run_underlying hd, Result.andThen_ok]; rfl)
theorem nilS_ok {r : Pl} {ty e : TypeId} (hd : P.underlying ty = some (.slice e)) {x y : SV} {u v : Value} {b : Bool} (hx : Emb r x u) (hy : Emb r y v) (h : eqNilV nilS x y = some b) (w : World) : (Op.equal ty u v).run P w = .ok b w := by
  show (Op.equalIn (9999 + 1) ty u v).run P w = _
  generalize 9999 = d9
  obtain ⟨a, ha, h⟩ := oB_some h
  obtain ⟨c, hc, h⟩ := oB_some h
  obtain ⟨hn, h⟩ := bI_none h
  obtain rfl := Option.some.inj h
  cases x <;> first | exact nosome ha | skip
  all_goals
    cases y <;> first | exact nosome hc | skip
  all_goals
    obtain rfl := Option.some.inj ha
    obtain rfl := Option.some.inj hc
    first | exact absurd hn (by decide) | (cases hx; cases hy; simp only [Op.equalIn, Sem.run_bind, run_underlying hd, Result.andThen_ok]; done) | (cases hx; cases hy; simp only [Op.equalIn, Sem.run_bind, run_underlying hd, Result.andThen_ok]; rfl)
theorem nilM_ok {r : Pl} {ty k e : TypeId} (hd : P.underlying ty = some (.map k e)) {x y : SV} {u v : Value} {b : Bool} (hx : Emb r x u) (hy : Emb r y v) (h : eqNilV nilM x y = some b) (w : World) : (Op.equal ty u v).run P w = .ok b w := by
  show (Op.equalIn (9999 + 1) ty u v).run P w = _
  generalize 9999 = d9
  obtain ⟨a, ha, h⟩ := oB_some h
  obtain ⟨c, hc, h⟩ := oB_some h
  obtain ⟨hn, h⟩ := bI_none h
  obtain rfl := Option.some.inj h
  cases x <;> first | exact nosome ha | skip
  all_goals
    cases y <;> first | exact nosome hc | skip
  all_goals
    obtain rfl := Option.some.inj ha
    obtain rfl := Option.some.inj hc
    first | exact absurd hn (by decide) | (cases hx; cases hy; simp only [Op.equalIn, Sem.run_bind, run_underlying hd, Result.andThen_ok]; done) | (cases hx; cases hy; simp only [Op.equalIn, Sem.run_bind, run_underlying hd, Result.andThen_ok]; rfl)
theorem eqBoolV_ok {r : Pl} {ty : TypeId} (hd : P.underlying ty = some .bool) {x y : SV} {u v : Value} {b : Bool} (hx : Emb r x u) (hy : Emb r y v) (h : eqBoolV x y = some b) (w : World) : (Op.equal ty u v).run P w = .ok b w := by
  replace h := onBool_some h
  obtain ⟨b0, rfl, h⟩ := h
  replace h := onBool_some h
  obtain ⟨b1, rfl, h⟩ := h
  obtain rfl := Option.some.inj h
  cases hx; cases hy
  rw [run_equal_bool w ty b0 b1 hd]
  cases b0 <;> cases b1 <;> rfl
theorem bin_of_equal {op : BinOp} {ty : TypeId} {u v : Value} {b : Bool} {w : World} (ho : op = .eql ∨ op = .neq) (h1 : ∀ k n, u ≠ .int k n) (h2 : ∀ k n, u ≠ .float k n) (h3 : ∀ k n m, u ≠ .complex k n m) (h4 : ∀ t, u ≠ .string t)
    (he : (Op.equal ty u v).run P w = .ok b w) : (binOp op ty u v).run P w = .ok (.bool (if op = .eql then b else !b)) w := by
  unfold binOp
  rcases ho with rfl | rfl
  · cases u <;> first | (exfalso; first | exact h1 _ _ rfl | exact h2 _ _ rfl | exact h3 _ _ _ rfl | exact h4 _ rfl) | (cases v <;> simp [he])
  · cases u <;> first | (exfalso; first | exact h1 _ _ rfl | exact h2 _ _ rfl | exact h3 _ _ _ rfl | exact h4 _ rfl) | (cases v <;> simp [he])
theorem guard_plain {op : BinOp} {ty : TypeId} {c d : Operand} {u v : Value} {w : World} (h1 : u ≠ .nilIface) (h2 : ∀ t, u ≠ .agg t) : (eqGuard op ty c d u v).run P w = .ok () w := by
  unfold eqGuard
  cases u <;> first | exact absurd rfl h1 | exact absurd rfl (h2 _) | (cases v <;> simp)
theorem eqF_ok (hT : TabOK T) {r : Pl} {op : BinOp} {ty : TypeId} {f : SV → SV → Option Bool} (hf : eqF T ty = some f) (ho : op = .eql ∨ op = .neq) {x y : SV} {u v : Value} {b : Bool} (hx : Emb r x u) (hy : Emb r y v) (h : f x y = some b) (c d : Operand) (w : World) :
    (eqGuard op ty c d u v).run P w = .ok () w ∧ (binOp op ty u v).run P w = .ok (.bool (if op = .eql then b else !b)) w := by
  unfold eqF at hf
  have agg : ∀ n, T.eqT ty = some n → eqAgg n x y = some b → (eqGuard op ty c d u v).run P w = .ok () w ∧ (binOp op ty u v).run P w = .ok (.bool (if op = .eql then b else !b)) w := fun n h1 h2 => by
    obtain ⟨k1, k2⟩ := hT.eqa ty n h1 r x y u v b op c d w hx hy h2
    refine ⟨k2, bin_of_equal ho ?_ ?_ ?_ ?_ k1⟩
    all_goals
      replace h2 := onAgg_some h2
      obtain ⟨l, rfl, h2⟩ := h2
      cases hx
      simp
  split at hf
  · obtain ⟨n, h1, hf⟩ := oB_some hf
    obtain rfl := Option.some.inj hf
    exact agg n h1 h
  · obtain ⟨n, h1, hf⟩ := oB_some hf
    obtain rfl := Option.some.inj hf
    exact agg n h1 h
  · rename_i hd
    obtain rfl := Option.some.inj hf
    have k := nilS_ok (hT.und _ _ hd) hx hy h w
    obtain ⟨a, ha, _⟩ := oB_some h
    refine ⟨guard_plain ?_ ?_, bin_of_equal ho ?_ ?_ ?_ ?_ k⟩ <;> cases x <;> first | exact nosome ha | (cases hx <;> simp)
  · rename_i hd
    obtain rfl := Option.some.inj hf
    have k := nilM_ok (hT.und _ _ hd) hx hy h w
    obtain ⟨a, ha, _⟩ := oB_some h
    refine ⟨guard_plain ?_ ?_, bin_of_equal ho ?_ ?_ ?_ ?_ k⟩ <;> cases x <;> first | exact nosome ha | (cases hx <;> simp)
  · rename_i hd
    obtain rfl := Option.some.inj hf
    have k := nilP_ok (hT.und _ _ hd) hx hy h w
    obtain ⟨a, ha, _⟩ := oB_some h
    refine ⟨guard_plain ?_ ?_, bin_of_equal ho ?_ ?_ ?_ ?_ k⟩ <;> cases x <;> first | exact nosome ha | (cases hx <;> simp)
  · rename_i hd
    obtain rfl := Option.some.inj hf
    have k := eqBoolV_ok (hT.und _ _ hd) hx hy h w
    obtain ⟨a, ha, _⟩ := onBool_some h
    subst ha
    refine ⟨guard_plain ?_ ?_, bin_of_equal ho ?_ ?_ ?_ ?_ k⟩ <;> cases hx <;> simp
  · exact nosome hf
theorem binF_ok (hT : TabOK T) {r : Pl} {op : BinOp} {ty : TypeId} {f : SV → SV → Option SV} (hf : binF T op ty = some f) {x y s : SV} {u v : Value} (hx : Emb r x u) (hy : Emb r y v) (h : f x y = some s) (c d : Operand) (w : World) :
    ∃ q, Emb r s q ∧ (eqGuard op ty c d u v).run P w = .ok () w ∧ (binOp op ty u v).run P w = .ok q w := by
  have sh : ∀ g, (g = shlI ∧ op = .shl) ∨ (g = shrI ∧ op = .shr) → shV g x y = some s → ∃ q, Emb r s q ∧ (eqGuard op ty c d u v).run P w = .ok () w ∧ (binOp op ty u v).run P w = .ok q w := fun g hg q1 => by
    replace q1 := onInt_some q1
    obtain ⟨k, m, rfl, q1⟩ := q1
    replace q1 := onInt_some q1
    obtain ⟨j, n, rfl, q1⟩ := q1
    cases hx; cases hy
    rcases hg with ⟨rfl, rfl⟩ | ⟨rfl, rfl⟩
    · obtain ⟨q, h1, h2⟩ := shl_ok (P := P) (j := j) r q1 ty w
      exact ⟨q, h1, run_eqGuard_int _ _ _ _ _ _ _ _ _, h2⟩
    · obtain ⟨q, h1, h2⟩ := shr_ok (P := P) (j := j) r q1 ty w
      exact ⟨q, h1, run_eqGuard_int _ _ _ _ _ _ _ _ _, h2⟩
  unfold binF at hf
  split at hf
  · obtain rfl := Option.some.inj hf; exact sh _ (.inl ⟨rfl, rfl⟩) h
  · obtain rfl := Option.some.inj hf; exact sh _ (.inr ⟨rfl, rfl⟩) h
  · rename_i n1 n2
    split at hf
    · split at hf
      · rename_i g hg
        obtain rfl := Option.some.inj hf
        replace h := onInt_some h
        obtain ⟨k, m, rfl, h⟩ := h
        replace h := onInt_some h
        obtain ⟨j, n, rfl, h⟩ := h
        replace h := bI_some h
        obtain ⟨hk, h⟩ := h
        obtain rfl := kEq_true hk
        cases hx; cases hy
        obtain ⟨q, h1, h2⟩ := intF_ok (P := P) r hg ⟨n1, n2⟩ h ty w
        exact ⟨q, h1, run_eqGuard_int _ _ _ _ _ _ _ _ _, h2⟩
      · exact nosome hf
    · exact strF_ok r hf hx hy h c d ty w
    · split at hf
      · split at hf
        · rename_i g hg
          obtain rfl := Option.some.inj hf
          obtain ⟨b, hb, h⟩ := oB_some h
          obtain rfl := Option.some.inj h
          obtain ⟨k1, k2⟩ := eqF_ok hT hg (op := .eql) (.inl rfl) hx hy hb c d w
          exact ⟨_, .bool _, k1, by rw [k2]; rfl⟩
        · exact nosome hf
      · split at hf
        · rename_i g hg
          obtain rfl := Option.some.inj hf
          obtain ⟨b, hb, h⟩ := oB_some h
          obtain rfl := Option.some.inj h
          obtain ⟨k1, k2⟩ := eqF_ok hT hg (op := .neq) (.inr rfl) hx hy hb c d w
          exact ⟨_, .bool _, k1, by rw [k2, nB_eq]; rfl⟩
        · exact nosome hf
      · exact nosome hf
theorem convF_ok (hT : TabOK T) {r : Pl} {src dst : TypeId} {f : SV → Option SV} (hf : convF T src dst = some f) {x s : SV} {u : Value} (hx : Emb r x u) (h : f x = some s) (w : World) : ∃ v, Emb r s v ∧ (convert src dst u).run P w = .ok v w := by
  unfold convF at hf
  split at hf
  · rename_i k j h1 h2
    obtain rfl := Option.some.inj hf
    replace h := onInt_some h
    obtain ⟨k', n, rfl, h⟩ := h
    obtain rfl := Option.some.inj h
    cases hx
    refine ⟨_, .int _ _, ?_⟩
    rw [wrapQ_eq]
    simp [convert, run_underlying (hT.und _ _ h1), run_underlying (hT.und _ _ h2), Conv.intToInt]
  · rename_i h1 h2
    obtain rfl := Option.some.inj hf
    replace h := onStr_some h
    obtain ⟨l, rfl, h⟩ := h
    obtain rfl := Option.some.inj h
    refine ⟨u, hx, ?_⟩
    cases hx
    simp [convert, run_underlying (hT.und _ _ h1), run_underlying (hT.und _ _ h2)]
  · exact nosome hf
theorem fieldA_ok (hT : TabOK T) {r : Pl} {ty : TypeId} {i k : Nat} (hf : fieldOff T ty i = some k) {x s : SV} {a : Value} (hx : Emb r x a) (h : addOff k x = some s) (w : World) : ∃ v, Emb r s v ∧ (Instr.fieldAt ty a i).run P w = .ok v w := by
  unfold fieldOff at hf
  split at hf
  · rename_i fs hd
    have hu := hT.und _ _ hd
    split at hf
    · rename_i fd hfd
      split at hf
      · rename_i n z hi
        obtain ⟨hn, hf⟩ := bI_none hf
        obtain rfl := Option.some.inj hf
        obtain ⟨i', zv, e1, e2, e3, e4, e5, _⟩ := infP hT hi
        replace h := onPtr_some h
        obtain ⟨g, o, rfl, h⟩ := h
        obtain rfl := Option.some.inj h
        cases hx with
        | ptr _ _ b c hb =>
          refine ⟨_, .ptr g (o + fd.offset) b c hb, ?_⟩
          have h0 : i'.size ≠ 0 := by
            intro e; rw [← e2, e] at hn; exact boolno hn.symm
          simp [Instr.fieldAt, Instr.sureAddr, run_underlying hu, hfd, fieldPlace, run_sizeOf' e1, h0, cells_add]
      · exact nosome hf
    · exact nosome hf
  · exact nosome hf
theorem own_off {d j o n : Nat} {i : Int} (h : n + j ≤ d) (hi : 0 ≤ i ∧ i < n) : (if d ≤ j then 0 else o) = o := by
  rw [if_neg (by omega)]
theorem idxF_ok (hT : TabOK T) {r : Pl} {ty : TypeId} {f : SV → SV → Option SV} (hf : idxF T ty = some f) {x y s : SV} {a u : Value} (hx : Emb r x a) (hy : Emb r y u) (h : f x y = some s) (w : World) :
    ∃ v, Emb r s v ∧ (Instr.indexAt ty a u).run P w = .ok v w := by
  unfold idxF at hf
  split at hf
  · rename_i e hd
    have hu := hT.und _ _ hd
    split at hf
    · rename_i m z hi
      obtain ⟨i', zv, e1, e2, e3, e4, e5, _⟩ := infP hT hi
      obtain rfl := Option.some.inj hf
      replace h := onInt_some h
      obtain ⟨k, i, rfl, h⟩ := h
      cases hy
      replace h := onSl_some h
      rcases h with ⟨rfl, h⟩ | ⟨g, o, n, c, rfl, h⟩ | ⟨g, o, n, c, rfl, h⟩
      · exact nosome h
      · obtain ⟨hb, h⟩ := bI_some h
        have hb := inI_true hb
        obtain rfl := Option.some.inj h
        cases hx with
        | slice _ _ _ _ b d hr _ => exact ⟨_, .ptr g _ b d hr, by simp [Instr.indexAt, asIntOf, run_underlying hu, hb, run_sizeOf' e1, cells_add, e2]⟩
      · obtain ⟨hb, h⟩ := bI_some h
        have hb := inI_true hb
        obtain rfl := Option.some.inj h
        cases hx with
        | own _ _ _ _ b d hr hn => exact ⟨_, .ptr g _ b d hr, by simp [Instr.indexAt, asIntOf, run_underlying hu, hb, run_sizeOf' e1, cells_add, e2, show ¬ d ≤ c by omega]⟩
    · exact nosome hf
  · rename_i n e hd
    have hu := hT.und _ _ hd
    split at hf
    · rename_i m z hi
      obtain ⟨i', zv, e1, e2, e3, e4, e5, _⟩ := infP hT hi
      obtain rfl := Option.some.inj hf
      replace h := onInt_some h
      obtain ⟨k, i, rfl, h⟩ := h
      cases hy
      replace h := onPtr_some h
      obtain ⟨g, o, rfl, h⟩ := h
      obtain ⟨hb, h⟩ := bI_some h
      have hb := inI_true hb
      obtain rfl := Option.some.inj h
      cases hx with
      | ptr _ _ b c hr => exact ⟨_, .ptr g _ b c hr, by simp [Instr.indexAt, Instr.sureAddr, asIntOf, run_underlying hu, hb, run_sizeOf' e1, cells_add, e2]⟩
    · exact nosome hf
  · exact nosome hf
theorem partF_ok (hT : TabOK T) {r : Pl} {ty : TypeId} {f : List SV → Nat → Option SV} (hf : partF T ty = some f) {l : List SV} {u : List Value} {o : Nat} {s : SV} (hl : EmbL r l u) (h : f l o = some s) (w : World) :
    ∃ v, Emb r s v ∧ (part ty u.toArray o).run P w = .ok v w := by
  unfold partF at hf
  split at hf
  · rename_i d hd
    have hu := hT.und _ _ hd
    rw [bI_eq] at hf
    split at hf
    · rename_i hr
      split at hf
      · rename_i n z hi
        obtain ⟨i', zv, e1, e2, e3, e4, e5, _⟩ := infP hT hi
        obtain rfl := Option.some.inj hf
        obtain rfl := Option.some.inj h
        refine ⟨_, .agg _ _ (by rw [takeS_eq, dropS_eq]; exact (hl.drop o).take n), ?_⟩
        simp [part, run_isAgg' hu, hr, run_sizeOf' e1, e2, List.extract]
      · exact nosome hf
    · rename_i hr
      obtain rfl := Option.some.inj hf
      obtain ⟨hlo, h⟩ := bI_some h
      obtain rfl := Option.some.inj h
      obtain ⟨v, hv, he⟩ := hl.nth hlo
      refine ⟨v, he, ?_⟩
      simp [part, run_isAgg' hu, hr, hv]
  · exact nosome hf
theorem bytesOf_get (l : List Nat) (i : Nat) : (bytesOf l)[i]? = (l[i]?).map fun n => n.toUInt8 := by
  have : (bytesOf l)[i]? = (bytesOf l).data[i]? := by
    by_cases h : i < (bytesOf l).size
    · have h' : i < (bytesOf l).data.size := h
      rw [getElem?_pos (bytesOf l) i h, getElem?_pos (bytesOf l).data i h']; rfl
    · have h' : ¬ i < (bytesOf l).data.size := h
      rw [getElem?_neg (bytesOf l) i h, getElem?_neg (bytesOf l).data i h']
  rw [this]
  simp [bytesOf]
theorem strAt_eq (l : List Nat) : ∀ i, strAt l i = (l[i]?).map fun a => .int .u8 (Int.ofNat a) := by
  induction l with
  | nil => intro i; simp [strAt]
  | cons a l ih => intro i; cases i with
    | zero => rfl
    | succ i => show strAt l i = _; rw [ih]; simp
theorem atF_ok (hT : TabOK T) {r : Pl} {ty : TypeId} {f : SV → SV → Option SV} (hf : atF T ty = some f) {x y s : SV} {a u : Value} (hx : Emb r x a) (hy : Emb r y u) (h : f x y = some s) (w : World) :
    ∃ v, Emb r s v ∧ (Instr.index ty a u).run P w = .ok v w := by
  unfold atF at hf
  split at hf
  · rename_i hd
    have hu := hT.und _ _ hd
    obtain rfl := Option.some.inj hf
    replace h := onInt_some h
    obtain ⟨k, i, rfl, h⟩ := h
    replace h := onStr_some h
    obtain ⟨l, rfl, h⟩ := h
    obtain ⟨h0, h⟩ := bI_some h
    rw [leI_eq] at h0
    have h0 := of_decide_eq_true h0
    rw [strAt_eq] at h
    cases hy
    cases hx with
    | str _ hl =>
      cases hg : l[i.toNat]? with
      | none => rw [hg] at h; exact nosome h
      | some b =>
        rw [hg] at h
        obtain rfl := Option.some.inj h
        refine ⟨_, .int .u8 b, ?_⟩
        have hb : b < 256 := hl b (List.mem_of_getElem? hg)
        have e := bytesOf_get l i.toNat
        rw [hg] at e
        have e2 : (b.toUInt8.toNat : Int) = b := by simp; omega
        simp only [Instr.index, asIntOf, Sem.run_bind, Sem.run_pure, Result.andThen_ok, run_underlying hu, h0, if_true, e, Option.map_some, e2]
  · rename_i n e hd
    have hu := hT.und _ _ hd
    split at hf
    · rename_i m z p hi hp
      obtain ⟨i', zv, e1, e2, e3, e4, e5, _⟩ := infP hT hi
      obtain rfl := Option.some.inj hf
      replace h := onInt_some h
      obtain ⟨k, i, rfl, h⟩ := h
      replace h := onAgg_some h
      obtain ⟨l, rfl, h⟩ := h
      obtain ⟨hb, h⟩ := bI_some h
      have hb := inI_true hb
      cases hy
      cases hx with
      | agg _ us k2 =>
        obtain ⟨v, j1, j2⟩ := partF_ok hT hp k2 h w
        refine ⟨v, j1, ?_⟩
        simp only [Instr.index, asIntOf, Sem.run_bind, Sem.run_pure, Result.andThen_ok, run_underlying hu, if_pos hb, run_sizeOf' e1, e2]
        exact j2
    · exact nosome hf
  · exact nosome hf
theorem fieldF_ok (hT : TabOK T) {r : Pl} {ty : TypeId} {i : Nat} {f : SV → Option SV} (hf : fieldF T ty i = some f) {x s : SV} {a : Value} (hx : Emb r x a) (h : f x = some s) (w : World) : ∃ v, Emb r s v ∧ (Instr.field ty a i).run P w = .ok v w := by
  unfold fieldF at hf
  split at hf
  · rename_i fs hd
    have hu := hT.und _ _ hd
    split at hf
    · rename_i fd hfd
      split at hf
      · rename_i p hp
        obtain rfl := Option.some.inj hf
        replace h := onAgg_some h
        obtain ⟨l, rfl, h⟩ := h
        cases hx with
        | agg _ us k2 =>
          obtain ⟨v, j1, j2⟩ := partF_ok hT hp k2 h w
          refine ⟨v, j1, ?_⟩
          simp [Instr.field, run_underlying hu, hfd, asAgg, j2]
      · exact nosome hf
    · exact nosome hf
  · exact nosome hf
end Go.Proofs.YtgpkpheejefiiaaGreatDoor
end
