/- Known functions: words; numbers that are atomic. | Known functions: how many writes a batch may have; new bytes. -/
import Derived.Test.YtgpkpheejefiiaaGreatDoorX03
import Derived.Test.YtgpkpheejefiiaaGreatDoorX06
import Derived.Test.YtgpkpheejefiiaaGreatDoorX07
import Derived.Lib.MakeNoZero
section
set_option linter.unusedVariables false
set_option linter.unusedSimpArgs false
namespace Go.Proofs.YtgpkpheejefiiaaGreatDoor
open Go.RowKit
section
variable {s : SV} {z : List Nat} {v : SV} {S' : Tr} {nx' : Nat}
theorem vInt {k : IntKind → Int → VO} (h : s.onInt (.stuck z) k = .val v S' nx') : ∃ i n, s = .int i n ∧ k i n = .val v S' nx' := by
  cases s <;> first | exact ⟨_, _, rfl, h⟩ | (simp [SV.onInt] at h)
theorem vBool {k : Bool → VO} (h : s.onBool (.stuck z) k = .val v S' nx') : ∃ b, s = .bool b ∧ k b = .val v S' nx' := by
  cases s <;> first | exact ⟨_, rfl, h⟩ | (simp [SV.onBool] at h)
theorem vStr {k : List Nat → VO} (h : s.onStr (.stuck z) k = .val v S' nx') : ∃ l, s = .str l ∧ k l = .val v S' nx' := by
  cases s <;> first | exact ⟨_, rfl, h⟩ | (simp [SV.onStr] at h)
theorem vPtr {k : Nat → Nat → VO} (h : s.onPtr (.stuck z) k = .val v S' nx') : ∃ g o, s = .ptr g o ∧ k g o = .val v S' nx' := by
  cases s <;> first | exact ⟨_, _, rfl, h⟩ | (simp [SV.onPtr] at h)
theorem vMap {k : Nat → VO} (h : s.onMap (.stuck z) k = .val v S' nx') : ∃ g, s = .map g ∧ k g = .val v S' nx' := by
  cases s <;> first | exact ⟨_, rfl, h⟩ | (simp [SV.onMap] at h)
theorem vTup {k : List SV → VO} (h : s.onTup (.stuck z) k = .val v S' nx') : ∃ l, s = .tup l ∧ k l = .val v S' nx' := by
  cases s <;> first | exact ⟨_, rfl, h⟩ | (simp [SV.onTup] at h)
theorem vAgg {k : List SV → VO} (h : s.onAgg (.stuck z) k = .val v S' nx') : ∃ l, s = .agg l ∧ k l = .val v S' nx' := by
  cases s <;> first | exact ⟨_, rfl, h⟩ | (simp [SV.onAgg] at h)
theorem vFun {k : Nat → List SV → List SV → VO} (h : s.onFun (.stuck z) k = .val v S' nx') : ∃ f l m, s = .func f l m ∧ k f l m = .val v S' nx' := by
  cases s <;> first | exact ⟨_, _, _, rfl, h⟩ | (simp [SV.onFun] at h)
theorem vbI {b : Bool} {x : VO} (h : bI b x (.stuck z) = .val v S' nx') : b = true ∧ x = .val v S' nx' := by
  cases b with
  | false => simp [bI] at h
  | true => exact ⟨rfl, h⟩
theorem vvB {α : Type} {x : Option α} {n : Nat} {k : α → VO} (h : vB x n k = .val v S' nx') : ∃ a, x = some a ∧ k a = .val v S' nx' := by
  cases x with
  | none => simp [vB] at h
  | some a => exact ⟨a, rfl, h⟩
theorem vVO {x : VO} {k : SV → Tr → Nat → VO} (h : VO.rec (motive := fun _ => VO) .stuck k x = .val v S' nx') : ∃ s1 S1 n1, x = .val s1 S1 n1 ∧ k s1 S1 n1 = .val v S' nx' := by
  cases x with
  | stuck l => simp at h
  | val s1 S1 n1 => exact ⟨s1, S1, n1, rfl, h⟩
theorem vA1 {l : List SV} {k : SV → VO} (h : a1 l k = .val v S' nx') : ∃ x, l = [x] ∧ k x = .val v S' nx' := by
  match l, h with
  | [x], h => exact ⟨x, rfl, h⟩
theorem vA2 {l : List SV} {k : SV → SV → VO} (h : a2 l k = .val v S' nx') : ∃ x y, l = [x, y] ∧ k x y = .val v S' nx' := by
  match l, h with
  | [x, y], h => exact ⟨x, y, rfl, h⟩
theorem vA3 {l : List SV} {k : SV → SV → SV → VO} (h : a3 l k = .val v S' nx') : ∃ x y z, l = [x, y, z] ∧ k x y z = .val v S' nx' := by
  match l, h with
  | [x, y, z], h => exact ⟨x, y, z, rfl, h⟩
theorem vCell {p : SV} {S : Tr} {k : Nat → Nat → SO → List SV → VO} (h : cellV p S k = .val v S' nx') : ∃ g o ob l, p = .ptr g o ∧ atT S g = some ob ∧ ob.list = some l ∧ o < l.length ∧ ob.open o = true ∧ k g o ob l = .val v S' nx' := by
  obtain ⟨g, o, rfl, h⟩ := vPtr h
  obtain ⟨ob, h1, h⟩ := vvB h
  obtain ⟨l, h2, h⟩ := vvB h
  obtain ⟨h3, h⟩ := vbI h
  obtain ⟨h3, h4⟩ := aB_true h3
  rw [longS_eq] at h3
  exact ⟨g, o, ob, l, rfl, h1, h2, of_decide_eq_true h3, h4, h⟩
theorem vVal {s1 : SV} {S1 : Tr} {n1 : Nat} (h : VO.val s1 S1 n1 = .val v S' nx') : s1 = v ∧ S1 = S' ∧ n1 = nx' := by
  simpa using h
end
theorem EmbL.nil_inv {r : Pl} {u : List Value} (h : EmbL r [] u) : u = [] := by cases h; rfl
theorem EmbL.one1 {r : Pl} {x : SV} {u : List Value} (h : EmbL r [x] u) : ∃ v, u = [v] ∧ Emb r x v := by
  cases h with | cons _ v _ _ h k => cases k; exact ⟨v, rfl, h⟩
theorem EmbL.two2 {r : Pl} {x y : SV} {u : List Value} (h : EmbL r [x, y] u) : ∃ v w, u = [v, w] ∧ Emb r x v ∧ Emb r y w := by
  cases h with | cons _ v _ _ h k => obtain ⟨w, rfl, k1⟩ := k.one1; exact ⟨v, w, rfl, h, k1⟩
theorem EmbL.three3 {r : Pl} {x y z : SV} {u : List Value} (h : EmbL r [x, y, z] u) : ∃ v w t, u = [v, w, t] ∧ Emb r x v ∧ Emb r y w ∧ Emb r z t := by
  cases h with | cons _ v _ _ h k => obtain ⟨w, t, rfl, k1, k2⟩ := k.two2; exact ⟨v, w, t, rfl, h, k1, k2⟩
theorem Emb.int_inv {r : Pl} {k : IntKind} {n : Int} {v : Value} (h : Emb r (.int k n) v) : v = .int k n := by cases h; rfl
theorem Emb.str_inv {r : Pl} {l : List Nat} {v : Value} (h : Emb r (.str l) v) : v = .string (bytesOf l) ∧ ∀ b ∈ l, b < 256 := by cases h with | str _ h => exact ⟨rfl, h⟩
theorem Emb.ptr_inv {r : Pl} {g o : Nat} {v : Value} (h : Emb r (.ptr g o) v) : ∃ b c, r g = some (b, c) ∧ v = .pointer (some ⟨b, o, none⟩) := by cases h with | ptr _ _ b c h => exact ⟨b, c, h, rfl⟩
theorem Emb.map_inv {r : Pl} {g : Nat} {v : Value} (h : Emb r (.map g) v) : ∃ b c, r g = some (b, c) ∧ v = .map (some b) := by cases h with | map _ b c h => exact ⟨b, c, h, rfl⟩
theorem Emb.tup_inv {r : Pl} {l : List SV} {v : Value} (h : Emb r (.tup l) v) : ∃ u, v = .tuple u.toArray ∧ EmbL r l u := by cases h with | tup _ u h => exact ⟨u, rfl, h⟩
theorem Emb.agg_inv {r : Pl} {l : List SV} {v : Value} (h : Emb r (.agg l) v) : ∃ u, v = .agg u.toArray ∧ EmbL r l u := by cases h with | agg _ u h => exact ⟨u, rfl, h⟩
/-- A cell of an object. -/
theorem cellAt {r : Pl} {S : Tr} {nx : Nat} {w : World} (hs : Sim r S nx w) {g o : Nat} {ob : SO} {l : List SV} (hg : atT S g = some ob) (hl : ob.list = some l) (ho : o < l.length) (hop : ob.open o = true) {b c : Nat} (hr : r g = some (b, c)) :
    ∃ v, w.cell? ⟨b, o, none⟩ = some v ∧ Emb r (nthS l o) v ∧ w.frozen? ⟨b, o, none⟩ = false ∧
      ∀ s x, Emb r s x → Sim r (wrV S g o ob l s) nx (w.setCell ⟨b, o, none⟩ x) ∧ Upd (feet r) w (feet r) (w.setCell ⟨b, o, none⟩ x) := by
  obtain ⟨b1, c1, v, e1, h1, h2⟩ := hs.read (g := g) (l := l) (i := o) (by unfold cellsAt; rw [hg]; exact hl) (by rw [longS_eq]; exact decide_eq_true ho)
  rw [hr] at e1
  obtain ⟨rfl, rfl⟩ : b = b1 ∧ c = c1 := by simpa using e1
  obtain ⟨b', c', yy, q1, q2, q3⟩ := hs.obj g ob hg
  rw [hr] at q1
  obtain ⟨rfl, rfl⟩ : b = b' ∧ c = c' := by simpa using q1
  have hw : ∀ s x, Emb r s x → _ := fun s x hx => q3.write hl hop (ss := [s]) (vs := [x]) (.cons _ _ _ _ hx .nil) (by simp; omega)
  refine ⟨v, h2, h1, ?_, fun s x hx => ?_⟩
  · obtain ⟨cur, t, z, rfl, z1, z2, z3⟩ := hw _ _ h1
    simp [World.frozen?, q2]
    omega
  · obtain ⟨cur, t, z, rfl, z1, z2, z3⟩ := hw s x hx
    have e : w.setCell ⟨b, o, none⟩ x = w.setRow b (cur.toList.take o ++ [x] ++ cur.toList.drop (o + [x].length)).toArray := by
      rw [setCell_eq_setRow w b o cur t (0, z) x q2]
      congr 1
      simp at z2
      have : o < cur.toList.length := by simp; omega
      have e2 := List.set_eq_take_append_cons_drop (l := cur.toList) (i := o) (a := x)
      rw [if_pos this] at e2
      have : cur.setIfInBounds o x = (cur.toList.set o x).toArray := by
        rw [← Array.toList_setIfInBounds]
      rw [this, e2]
      simp
    rw [e]
    exact hs.turnT hg hr z3 (Turn.setRow q2 _)
def KnOK (f : Nat) (k : KN) : Prop := ∀ cb, CBOK Tryz.prog cb → ∀ args S nx s S' nx', k cb args S nx = .val s S' nx' → ∀ r w args', Sim r S nx w → Glob r → EmbL r args args' → CallOK Tryz.prog r w f args' s S' nx'
theorem known_store (f : Nat) (hrun : ∀ {w : World} {a : Addr} {u : Value} {k : IntKind} {x : Int}, w.cell? a = some u → w.frozen? a = false → (callFunc f #[.pointer (some a), .int k x]).run Tryz.prog w = .ok (.value (.tuple #[])) (w.setCell a (.int k x))) : KnOK f kStore := by
  intro cb _ args S nx s S' nx' h r w args' hs hG ha
  obtain ⟨p, v, rfl, h⟩ := vA2 h
  obtain ⟨k, x, rfl, h⟩ := vInt h
  obtain ⟨g, o, ob, l, rfl, h1, h2, h3, h4, h⟩ := vCell h
  obtain ⟨rfl, rfl, rfl⟩ := vVal h
  obtain ⟨v1, v2, rfl, e1, e2⟩ := ha.two2
  obtain rfl := e2.int_inv
  obtain ⟨b, c, hr, rfl⟩ := e1.ptr_inv
  obtain ⟨u, q1, q2, q3, q4⟩ := cellAt hs h1 h2 h3 h4 hr
  obtain ⟨k1, k2⟩ := q4 (.int k x) (.int k x) (.int k x)
  exact .inl ⟨r, _, _, Pl.le_refl r, k1, .undef, k2, hrun q1 q3⟩
theorem known_load (f : Nat) (q : IntKind) (hrun : ∀ {w : World} {a : Addr} {x : Int}, w.cell? a = some (.int q x) → (callFunc f #[.pointer (some a)]).run Tryz.prog w = .ok (.value (.int q x)) w) : KnOK f (kLoad q) := by
  intro cb _ args S nx s S' nx' h r w args' hs hG ha
  obtain ⟨p, rfl, h⟩ := vA1 h
  obtain ⟨g, o, ob, l, rfl, h1, h2, h3, h4, h⟩ := vCell h
  obtain ⟨k, x, hx, h⟩ := vInt h
  obtain ⟨hk, h'⟩ := vbI h
  clear h
  obtain rfl := kEq_true hk
  obtain ⟨rfl, rfl, rfl⟩ := vVal h'
  obtain ⟨v1, rfl, e1⟩ := ha.one1
  obtain ⟨b, c, hr, rfl⟩ := e1.ptr_inv
  obtain ⟨u, q1, q2, q3, q4⟩ := cellAt hs h1 h2 h3 h4 hr
  rw [hx] at q2
  obtain rfl := q2.int_inv
  exact .inl ⟨r, _, _, Pl.le_refl r, hs, .int _ _, Upd.refl _ _, hrun q1⟩
theorem known_add (f : Nat) (q : IntKind) (hrun : ∀ {w : World} {a : Addr} {x d : Int}, w.cell? a = some (.int q x) → w.frozen? a = false → (callFunc f #[.pointer (some a), .int q d]).run Tryz.prog w = .ok (.value (.int q (q.wrap (x + d)))) (w.setCell a (.int q (q.wrap (x + d))))) : KnOK f (kAdd q) := by
  intro cb _ args S nx s S' nx' h r w args' hs hG ha
  obtain ⟨p, v, rfl, h⟩ := vA2 h
  obtain ⟨j, d, rfl, h⟩ := vInt h
  obtain ⟨g, o, ob, l, rfl, h1, h2, h3, h4, h⟩ := vCell h
  obtain ⟨k, x, hx, h⟩ := vInt h
  obtain ⟨hk, h'⟩ := vbI h
  clear h
  obtain ⟨hk1, hk2⟩ := aB_true hk
  obtain rfl := kEq_true hk1
  obtain rfl := kEq_true hk2
  obtain ⟨rfl, rfl, rfl⟩ := vVal h'
  obtain ⟨v1, v2, rfl, e1, e2⟩ := ha.two2
  obtain rfl := e2.int_inv
  obtain ⟨b, c, hr, rfl⟩ := e1.ptr_inv
  obtain ⟨u, q1, q2, q3, q4⟩ := cellAt hs h1 h2 h3 h4 hr
  rw [hx] at q2
  obtain rfl := q2.int_inv
  rw [wrapQ_eq]
  obtain ⟨k1, k2⟩ := q4 _ _ (.int _ _)
  exact .inl ⟨r, _, _, Pl.le_refl r, k1, .int _ _, k2, hrun q1 q3⟩
theorem known_cas (f : Nat) (q : IntKind) (hhit : ∀ {w : World} {a : Addr} {x y : Int}, w.cell? a = some (.int q x) → w.frozen? a = false → (callFunc f #[.pointer (some a), .int q x, .int q y]).run Tryz.prog w = .ok (.value (.bool true)) (w.setCell a (.int q y)))
    (hmiss : ∀ {w : World} {a : Addr} {x o y : Int}, w.cell? a = some (.int q x) → w.frozen? a = false → ¬ x = o → (callFunc f #[.pointer (some a), .int q o, .int q y]).run Tryz.prog w = .ok (.value (.bool false)) w) : KnOK f (kCas q) := by
  intro cb _ args S nx s S' nx' h r w args' hs hG ha
  obtain ⟨p, u, v, rfl, h⟩ := vA3 h
  obtain ⟨i, y, rfl, h⟩ := vInt h
  obtain ⟨j, z, rfl, h⟩ := vInt h
  obtain ⟨g, o, ob, l, rfl, h1, h2, h3, h4, h⟩ := vCell h
  obtain ⟨k, x, hx, h⟩ := vInt h
  obtain ⟨hk, h'⟩ := vbI h
  clear h
  obtain ⟨hk1, hk⟩ := aB_true hk
  obtain ⟨hk2, hk3⟩ := aB_true hk
  obtain rfl := kEq_true hk1
  obtain rfl := kEq_true hk2
  obtain rfl := kEq_true hk3
  obtain ⟨v1, v2, v3, rfl, e1, e2, e3⟩ := ha.three3
  obtain rfl := e2.int_inv
  obtain rfl := e3.int_inv
  obtain ⟨b, c, hr, rfl⟩ := e1.ptr_inv
  obtain ⟨u, q1, q2, q3, q4⟩ := cellAt hs h1 h2 h3 h4 hr
  rw [hx] at q2
  obtain rfl := q2.int_inv
  rw [bI_eq, eqI_eq] at h'
  split at h'
  · rename_i hxy
    have hxy : x = y := by simpa using hxy
    subst hxy
    obtain ⟨rfl, rfl, rfl⟩ := vVal h'
    obtain ⟨k1, k2⟩ := q4 _ _ (.int _ z)
    exact .inl ⟨r, _, _, Pl.le_refl r, k1, .bool _, k2, hhit q1 q3⟩
  · rename_i hxy
    obtain ⟨rfl, rfl, rfl⟩ := vVal h'
    exact .inl ⟨r, _, _, Pl.le_refl r, hs, .bool _, Upd.refl _ _, hmiss q1 q3 (by simpa using hxy)⟩
theorem kn111 : KnOK 111 kStore := known_store 111 fun h hf => run_call_store (P := Tryz.prog) Tryz.func111 (by kernel_rfl) (by kernel_rfl) (by kernel_rfl) (by kernel_rfl) h hf
theorem kn112 : KnOK 112 kStore := known_store 112 fun h hf => run_call_store (P := Tryz.prog) Tryz.func112 (by kernel_rfl) (by kernel_rfl) (by kernel_rfl) (by kernel_rfl) h hf
theorem kn189 : KnOK 189 (kLoad .u32) := known_load 189 .u32 fun h => xLoad32 h
theorem kn190 : KnOK 190 (kLoad .i64) := known_load 190 .i64 fun h => xLoad h
theorem kn191 : KnOK 191 (kAdd .i64) := known_add 191 .i64 fun h hf => xAdd h hf
theorem kn239 : KnOK 239 (kCas .i64) := known_cas 239 .i64 (fun h hf => run_call_cas_hit (P := Tryz.prog) Tryz.func239 (by kernel_rfl) (by kernel_rfl) (by kernel_rfl) .i64 (by kernel_rfl) h hf)
  (fun h hf hn => run_call_cas_miss (P := Tryz.prog) Tryz.func239 (by kernel_rfl) (by kernel_rfl) (by kernel_rfl) .i64 (by kernel_rfl) h hf hn)
end Go.Proofs.YtgpkpheejefiiaaGreatDoor
end
section
set_option linter.unusedVariables false
set_option linter.unusedSimpArgs false
namespace Go.Proofs.YtgpkpheejefiiaaGreatDoor
open Go.RowKit
theorem enter_ok {f : Nat} {fn : Func} {c : Code} (hf : Tryz.prog.funcs[f]? = some fn) (hnm : fn.name ≠ "runtime.NumGoroutine") (hb : fn.body = some c) (args : Array Value) (w : World) : (callFunc f args).run Tryz.prog w = .ok (.enter f args) w := by
  simp [callFunc, hf, hnm, hb]
theorem enter_run {f : Nat} (h : (match Tryz.prog.funcs[f]? with | some fn => fn.name != "runtime.NumGoroutine" && fn.body.isSome | none => false) = true) (args : Array Value) (w : World) : (callFunc f args).run Tryz.prog w = .ok (.enter f args) w := by
  cases hf : Tryz.prog.funcs[f]? with
  | none => rw [hf] at h; simp at h
  | some fn =>
    rw [hf] at h
    simp only [Bool.and_eq_true, bne_iff_ne] at h
    obtain ⟨c, hc⟩ := Option.isSome_iff_exists.1 h.2
    exact enter_ok hf h.1 hc args w
/-- A call that enters: its contract. -/
theorem CallOK.calls {r : Pl} {w : World} {f : Nat} {args : List Value} {s : SV} {S : Tr} {nx : Nat} (h : CallOK Tryz.prog r w f args s S nx) (he : (callFunc f args.toArray).run Tryz.prog w = .ok (.enter f args.toArray) w) :
    Calls Tryz.prog f args.toArray w fun e w' => ∃ r' v, e = .returned v ∧ r.le r' ∧ Sim r' S nx w' ∧ Emb r' s v ∧ Upd (feet r) w (feet r') w' := by
  rcases h with ⟨r', v, w', _, _, _, _, h⟩ | ⟨_, h⟩
  · rw [he] at h; simp at h
  · exact h
/-- A call that changes nothing that stood, and answers a plain value. -/
theorem known_bel {f : Nat} {args : List Value} {w : World} {r : Pl} {S : Tr} {nx : Nat} {s : SV} {v : Value} (hs : Sim r S nx w) (he : (callFunc f args.toArray).run Tryz.prog w = .ok (.enter f args.toArray) w) (hv : Emb r s v)
    (h : Calls Tryz.prog f args.toArray w fun e w' => e = .returned v ∧ Bel w w') : CallOK Tryz.prog r w f args s S nx :=
  .inr ⟨he, h.mono fun e w' ⟨h1, h2⟩ => ⟨r, v, h1, Pl.le_refl r, hs.bel h2, hv, Upd.of_bel h2⟩⟩
set_option maxRecDepth 100000 in
theorem kn156 : KnOK 156 kMost := by
  intro cb _ args S nx s S' nx' h r w args' hs hG ha
  match args, h with
  | [], h =>
    obtain ⟨rfl, rfl, rfl⟩ := vVal h
    obtain rfl := ha.nil_inv
    exact known_bel hs (enter_run (by kernel_rfl) _ _) (.int .i64 44) (mostB w)
theorem digits_ints : ∀ (n t : Nat) (acc : Array Value), (∀ v ∈ acc, v.oneCell' = true) → ∀ v ∈ Extern.BytealgMakeNoZero.digits n t acc, v.oneCell' = true
  | 0, _, acc, h => h
  | n + 1, t, acc, h => digits_ints n (t / 256) _ (fun v hv => by
      rcases Array.mem_push.1 hv with hv | rfl
      · exact h v hv
      · rfl)
theorem run_makeNoZero1 {P : Program} (w : World) (ps : Array TypeId) (t e : TypeId) (ht : P.underlying t = some (.slice e)) (n : Nat) (hn : n ≤ 281474976710656) :
    ∃ cs : Array Value, (Extern.BytealgMakeNoZero.makeNoZero ps #[t] #[.int .i64 n]).run P w = .ok (.slice (some ⟨w.heap.size, 0, none⟩) n cs.size) (w.drew.drew.alloc (.cells cs e)) ∧ n ≤ cs.size ∧ ∀ v ∈ cs, v.oneCell' = true := by
  have hdef : Extern.BytealgMakeNoZero.makeNoZero ps #[t] #[.int .i64 n] =
      (do
        let .slice elem ← underlying t | stuck "bytealg.MakeNoZero: slice type expected"
        if (n : Int) < 0 || (n : Int) > 2 ^ 48 then runtimePanic (.error "makeslice: len out of range")
        let cap ← choose (.appendCap (n : Int).toNat 0 elem)
        askRoom cap
        let bytes ← choose (.extern "internal/bytealg.MakeNoZero.bytes" 0)
        let a ← newRow elem (Extern.BytealgMakeNoZero.digits cap bytes #[])
        pure (.slice (some a) (n : Int).toNat cap)) := rfl
  refine ⟨Extern.BytealgMakeNoZero.digits (grownCap w n 0 e) ((Question.extern "internal/bytealg.MakeNoZero.bytes" 0).cut (w.tape (w.drawn + 1) (.extern "internal/bytealg.MakeNoZero.bytes" 0))) #[], ?_, ?_, ?_⟩
  · rw [hdef]
    have h1 : ¬ (n : Int) < 0 := by omega
    have h2 : ¬ (281474976710656 : Int) < (n : Int) := by omega
    simp [run_underlying ht, h1, h2, Question.forced, newRow, Lib.size_digits, grownCap]
  · rw [Lib.size_digits]
    simpa using grownCap_ge w n 0 e
  · exact digits_ints _ _ _ (by simp)
set_option maxRecDepth 100000 in
theorem kn346 : KnOK 346 kNoZero := by
  intro cb _ args S nx s S' nx' h r w args' hs hG ha
  obtain ⟨x, rfl, h1⟩ := vA1 h
  obtain ⟨k, n, ex, h2⟩ := vInt h1
  obtain ⟨hc, h3⟩ := vbI h2
  obtain ⟨hk, hn⟩ := aB_true hc
  have hk := kEq_true hk
  have hn := inI_true hn
  obtain ⟨e1, e2, e3⟩ := vVal h3
  subst ex; subst hk
  obtain ⟨v, rfl, hv⟩ := ha.one1
  obtain rfl := hv.int_inv
  obtain ⟨m, rfl⟩ : ∃ m : Nat, n = m := ⟨n.toNat, by omega⟩
  have hm : m < 100000 := by omega
  rw [Int.toNat_natCast] at e1
  obtain ⟨cs, r1, r2, r3⟩ := run_makeNoZero1 (P := Tryz.prog) w #[3] 58 5 Tryz.underlying58 m (by omega)
  have hs2 : Sim r S nx w.drew.drew := (hs.bel (Bel.drew w)).bel (Bel.drew _)
  have ho : ObjR r (.row [] 1 5 0) cs.size (.cells cs 5 (0, 0)) := by
    have := ObjR.row (r := r) [] 1 5 0 [] cs.toList .nil cs.size (by intro v hv; exact r3 v (by simpa using hv)) (by simp) (by simp) 0 (by simp)
    simpa using this
  obtain ⟨k1, k2⟩ := hs2.new ho
  have hrun : (callFunc 346 #[.int .i64 (m : Int)]).run Tryz.prog w = .ok (.value (.slice (some ⟨w.heap.size, 0, none⟩) m cs.size)) (w.drew.drew.alloc (.cells cs 5)) := by
    rw [run_callFunc_extern (P := Tryz.prog) Tryz.func346 (by kernel_rfl) (by kernel_rfl) (by kernel_rfl) (e := Extern.BytealgMakeNoZero.makeNoZero #[3] #[58]) (by kernel_rfl), r1]
    rfl
  have hemb : Emb (r.new nx w.heap.size cs.size) s (.slice (some ⟨w.heap.size, 0, none⟩) m cs.size) := by
    rw [← e1]
    have := Emb.own (r := r.new nx w.heap.size cs.size) nx 0 m 0 w.heap.size cs.size (Pl.new_self _ _ _ _) (by omega)
    simpa using this
  exact .inl ⟨r.new nx w.heap.size cs.size, _, _, hs2.le_new _ _, by rw [← e2, ← e3]; exact k1, hemb, (Upd.of_bel ((Bel.drew w).trans (Bel.drew _))).trans k2, hrun⟩
end Go.Proofs.YtgpkpheejefiiaaGreatDoor
end
