/- The package's variables, as the row grants them. | The rows of the laws: what their worlds have; a world of that kind; a setup, opened. -/
import Derived.Test.YtgpkpheejefiiaaGreatDoorX10
import Derived.Test.YtgpkpheejefiiaaGreatDoorRows
import Derived.WalkKit
import Derived.ProofKit
import Derived.OpenShut
import Derived.LaidLaws
import Derived.LaidHandle
import Derived.MakeChecks
import Derived.Handed
import Derived.Stop.Joined
import Derived.Below
import Derived.SizedLaws
import Derived.Lib.SmallJoins
import Derived.ChangeSame
import Derived.ChangeVars
import Derived.ChangeOld
import Derived.ShutString
import Derived.JoinedOf
import Derived.RowKit
import Derived.RowKitTokens
section
set_option linter.unusedVariables false
set_option linter.unusedSimpArgs false
set_option maxRecDepth 100000
namespace Go.Proofs.YtgpkpheejefiiaaGreatDoor
open Go.ChangeShapes Go.WideShapes Go.ChangeAt Go.RowKit
def deInts : List Int := [0, 1, 56, 2, 57, 49, 28, 3, 61, 58, 42, 50, 38, 29, 17, 4, 62, 47, 59, 36, 45, 43, 51, 22, 53, 39, 33, 30, 24, 18, 12, 5, 63, 55, 48, 27, 60, 41, 37, 16, 46, 35, 44, 21, 52, 32, 23, 11, 54, 26, 40, 15, 34, 20, 31, 10, 25, 14, 19, 9, 13, 8, 7, 6]
def startInts : List Int := [-1, 0, 0, 0]
theorem int_of_trod {H : Type} {enc : TypeId × Value → H} {P : Program} {w : World} {base : Nat} {sp : Nat → Bool} {held : Bool} {fuel : Nat} {t : TypeId} {k : IntKind} {c : Value} {y : DataW H × List MemPlace}
    (ht : P.underlying t = some (.int k)) (h : DataW.trod enc P w base sp held fuel t [c] = some y) : ∃ n, c = .int k n ∧ y = (.lit (.int k n), []) := by
  cases fuel with
  | zero => simp [DataW.trod] at h
  | succ fuel =>
    cases c <;> simp [DataW.trod, ht] at h
    rename_i k' n
    obtain ⟨⟨rfl, _⟩, rfl⟩ := h
    exact ⟨n, rfl, rfl⟩
/-- Cells that read as whole numbers. -/
theorem ints_of_cells {H : Type} {k : IntKind} : ∀ (cs : List Value) (xs : List (DataW H × List MemPlace)) (l : List Int), cs.length = xs.length → (∀ (i : Nat) (c : Value), cs[i]? = some c → ∃ n y, xs[i]? = some y ∧ c = Value.int k n ∧ y = (DataW.lit (.int k n), ([] : List MemPlace))) → xs.map (·.1) = l.map (fun x => DataW.lit (.int k x)) → cs = l.map (Value.int k)
  | [], [], [], _, _, _ => rfl
  | [], [], a :: l, _, _, h => by simp at h
  | [], _ :: _, _, h, _, _ => by simp at h
  | _ :: _, [], _, h, _, _ => by simp at h
  | c :: cs, x :: xs, [], _, _, h => by simp at h
  | c :: cs, x :: xs, a :: l, hl, hc, h => by
    obtain ⟨n, y, h1, rfl, rfl⟩ := hc 0 c rfl
    simp at h1
    subst h1
    simp at h
    obtain ⟨rfl, h2⟩ := h
    rw [List.map_cons, ints_of_cells cs xs l (by simpa using hl) (fun i c hi => hc (i + 1) c (by simpa using hi)) (by simpa using h2)]
theorem cells258 : Tryz.prog.cellsOf 258 = 4 := by kernel_rfl
theorem cells463 : Tryz.prog.cellsOf 463 = 64 := by kernel_rfl
theorem cellsL3 : Tryz.prog.cellsOf 3 = 1 := by kernel_rfl
theorem cellsL5 : Tryz.prog.cellsOf 5 = 1 := by kernel_rfl
theorem gname0 : Tryz.prog.globalNamed "trunnion/ahead.start" = some 0 := by kernel_rfl
theorem gname1 : Tryz.prog.globalNamed "math/bits.deBruijn64tab" = some 1 := by kernel_rfl
theorem gtype0 : (Tryz.prog.globals[0]?).map (·.type) = some 258 := by kernel_rfl
theorem gtype1 : (Tryz.prog.globals[1]?).map (·.type) = some 463 := by kernel_rfl
abbrev lVars : List (String × DataW Unit) := [("math/bits.deBruijn64tab", Rows.laid_math_bits_deBruijn64tab), ("trunnion/ahead.start", Rows.laid_trunnion_ahead_start)]
theorem drop_take1 {α : Type} {l : List α} {i : Nat} {c : α} (h : l[i]? = some c) : (l.drop i).take 1 = [c] := by
  induction l generalizing i with
  | nil => simp at h
  | cons a l ih =>
    cases i with
    | zero => simp at h; simp [h]
    | succ i => simp at h; simpa using ih h
theorem start_of_trod {W : World} {fuel : Nat} {cs : List Value} {p : List MemPlace} (h : DataW.trod (fun _ => ()) Tryz.prog W 0 (fun _ => true) false fuel 258 cs = some (Rows.laid_trunnion_ahead_start, p)) : cs = startInts.map (Value.int .i64) := by
  obtain ⟨xs, n, _, hx, hl, hlen, hg⟩ := DataW.trod_struct Tryz.underlying258 h
  rw [cells258] at hl
  obtain ⟨c0, c1, c2, c3, rfl⟩ : ∃ c0 c1 c2 c3, cs = [c0, c1, c2, c3] := by
    match cs, hl with
    | [a, b, c, d], _ => exact ⟨a, b, c, d, rfl⟩
  obtain ⟨y0, y1, y2, y3, rfl⟩ : ∃ y0 y1 y2 y3, xs = [y0, y1, y2, y3] := by
    match xs, hlen with
    | [a, b, c, d], _ => exact ⟨a, b, c, d, rfl⟩
  obtain ⟨n0, rfl, rfl⟩ := int_of_trod Tryz.underlying3 (show DataW.trod (fun _ => ()) Tryz.prog W 0 (fun _ => true) false n 3 [c0] = some y0 by simpa [cellsL3] using hg 0 _ rfl)
  obtain ⟨n1, rfl, rfl⟩ := int_of_trod Tryz.underlying3 (show DataW.trod (fun _ => ()) Tryz.prog W 0 (fun _ => true) false n 3 [c1] = some y1 by simpa [cellsL3] using hg 1 _ rfl)
  obtain ⟨n2, rfl, rfl⟩ := int_of_trod Tryz.underlying3 (show DataW.trod (fun _ => ()) Tryz.prog W 0 (fun _ => true) false n 3 [c2] = some y2 by simpa [cellsL3] using hg 2 _ rfl)
  obtain ⟨n3, rfl, rfl⟩ := int_of_trod Tryz.underlying3 (show DataW.trod (fun _ => ()) Tryz.prog W 0 (fun _ => true) false n 3 [c3] = some y3 by simpa [cellsL3] using hg 3 _ rfl)
  simp [Rows.laid_trunnion_ahead_start] at hx
  obtain ⟨⟨rfl, rfl, rfl, rfl⟩, _⟩ := hx
  rfl
theorem de_of_trod {W : World} {fuel : Nat} {cs : List Value} {p : List MemPlace} (h : DataW.trod (fun _ => ()) Tryz.prog W 0 (fun _ => true) false fuel 463 cs = some (Rows.laid_math_bits_deBruijn64tab, p)) : cs = deInts.map (Value.int .u8) := by
  obtain ⟨xs, n, _, hx, hl, hlen, hg⟩ := DataW.trod_array Tryz.underlying463 h
  rw [cells463] at hl
  rw [cellsL5] at hg
  have e : (Rows.laid_math_bits_deBruijn64tab : DataW Unit) = .agg (deInts.map fun x => DataW.lit (.int .u8 x)) := rfl
  rw [e] at hx
  simp only [Prod.mk.injEq, DataW.agg.injEq] at hx
  refine ints_of_cells cs xs deInts (by omega) (fun i c hi => ?_) hx.1.symm
  have hi' : i < 64 := by
    have := (List.getElem?_eq_some_iff.1 hi).1
    omega
  have h1 := hg i hi'
  rw [Nat.mul_one, drop_take1 hi] at h1
  obtain ⟨y, hy⟩ : ∃ y, xs[i]? = some y := ⟨xs[i], List.getElem?_eq_getElem (by omega)⟩
  rw [hy] at h1
  obtain ⟨z, e1, e2⟩ := int_of_trod Tryz.underlying5 h1
  exact ⟨z, y, hy, e1, e2⟩
theorem vars_of_laid {W : World} (h : laidMetH Tryz.prog lVars W) : W.var? Tryz.prog "trunnion/ahead.start" = some (startInts.map (Value.int .i64)).toArray ∧ W.var? Tryz.prog "math/bits.deBruijn64tab" = some (deInts.map (Value.int .u8)).toArray := by
  rw [Go.MakeChecks.laidMetH_plain _ _ _ (by kernel_rfl)] at h
  obtain ⟨ps, ⟨g, t, cs, fuel, p, q, hg, ht, hvar, hd, ⟨g2, t2, cs2, fuel2, p2, q2, hg2, ht2, hvar2, hd2, _, _⟩, _⟩, _⟩ := h
  obtain rfl := Option.some.inj (gname1.symm.trans hg)
  obtain rfl := Option.some.inj (gtype1.symm.trans ht)
  obtain rfl := Option.some.inj (gname0.symm.trans hg2)
  obtain rfl := Option.some.inj (gtype0.symm.trans ht2)
  rw [hvar, hvar2]
  obtain ⟨l⟩ := cs
  obtain ⟨l2⟩ := cs2
  have e1 := de_of_trod hd
  have e2 := start_of_trod hd2
  simp only [] at e1 e2
  rw [e1, e2]
  exact ⟨rfl, rfl⟩
theorem zrow0 : (((begin Tryz.prog (fun _ _ => 0) default).world.heap[0]?).bind Obj.row?).map (·.2) = some 258 := by kernel_rfl
theorem zrow1 : (((begin Tryz.prog (fun _ _ => 0) default).world.heap[1]?).bind Obj.row?).map (·.2) = some 463 := by kernel_rfl
theorem gsize : decide (1 < Tryz.prog.globals.size) = true := by kernel_rfl
theorem gw_of {W : World} (hs : W.ShapedOpen Tryz.prog) (h : laidMetH Tryz.prog lVars W) : GW W := by
  obtain ⟨v0, v1⟩ := vars_of_laid h
  have key : ∀ g t, g ≤ 1 → (((begin Tryz.prog (fun _ _ => 0) default).world.heap[g]?).bind Obj.row?).map (·.2) = some t → ∃ cs, W.heap[g]? = some (.cells cs t (0, 0)) := fun g t hg1 hz => by
    cases hr : ((begin Tryz.prog (fun _ _ => 0) default).world.heap[g]?).bind Obj.row? with
    | none => rw [hr] at hz; simp at hz
    | some x =>
      obtain ⟨z, t'⟩ := x
      rw [hr] at hz
      simp at hz
      subst hz
      obtain ⟨cs, h1, _⟩ := hs.1 g z t' (by have := of_decide_eq_true gsize; omega) hr
      exact ⟨cs, h1⟩
  obtain ⟨c0, h0⟩ := key 0 258 (by omega) zrow0
  obtain ⟨c1, h1⟩ := key 1 463 (by omega) zrow1
  have e0 : c0 = (startInts.map (Value.int .i64)).toArray := by
    unfold World.var? at v0
    rw [gname0] at v0
    simp [h0] at v0
    simpa using v0
  have e1 : c1 = (deInts.map (Value.int .u8)).toArray := by
    unfold World.var? at v1
    rw [gname1] at v1
    simp only [Option.bind_some, h1] at v1
    exact Option.some.inj v1
  subst e0 e1
  exact ⟨⟨_, ints0, h0⟩, ⟨deInts.map (Value.int .u8), rfl, h1⟩⟩
end Go.Proofs.YtgpkpheejefiiaaGreatDoor
end
section
set_option linter.unusedVariables false
set_option linter.unusedSimpArgs false
namespace Go.Proofs.YtgpkpheejefiiaaGreatDoor
open Go.ChangeShapes Go.WideShapes Go.ChangeAt Go.RowKit
set_option maxRecDepth 100000
/-- A law under a condition of its world, of which it is known, too, how its variables stand. -/
theorem returns_shaped {H : Type} {enc : TypeId × Value → H} {a : Assume} {C : Checked} {os : Os} {f : FuncId} {fn : Func} {s : ChangeSpec} {conds : List PathCond} {apart fresh handsOn again : Bool} {X : World → Array Value → Prop}
    (hX : ∀ (w w' : World) (args : Array Value), w.heap = w'.heap → X w args → X w' args)
    (own : ownKnob C.prog.godebug = none) (started : os.Started) (noInit : C.prog.inits.idxOf? f = none) (hfn : C.prog.funcs[f]? = some fn)
    (witness : ∃ (w : World) (tape : Tape) (i : Input), w.os = os ∧ (w.forCall tape i).Shaped C.prog ∧ i.vars = [] ∧ Input.okWide C.prog (w.forCall tape i) .any w.heap.size f i ∧
      ((s.pre enc C.prog fn conds apart (w.forCall tape i).memory i.args ∧ X (w.forCall tape i).memory i.args) ∧ sizedMet enc C.prog fn (OpenSpec.ofChange s) apart (w.forCall tape i).memory i.args) ∧ a.holds C.prog (lone (Frame.enter C.prog f i.args .normal) [] (w.forCall tape i)))
    (law : ∀ (W : World) (base : Nat) (args : Array Value) (ds gs : List (DataW H)) (before : List MemPlace), W.ShapedOpen C.prog →
      (∀ (j : Nat) t v, fn.params[j]? = some t → args[j]? = some v → Value.okWide C.prog W .any base t v) →
      DataW.Whole enc C.prog fn.params.toList s.vars apart W args.toList ds gs before → X W args →
      Calls C.prog f args W fun e W' => ∃ v, e = .returned v ∧ s.post enc C.prog fn apart fresh handsOn again W args v W') :
    ReturnsInHanded a C os f .any (fun w args => (s.pre enc C.prog fn conds apart w args ∧ X w args) ∧ sizedMet enc C.prog fn (OpenSpec.ofChange s) apart w args) (s.post enc C.prog fn apart fresh handsOn again) := by
  refine returnsInHanded_of_calls own started noInit witness ?_
  intro w tape i _ hsh _ hok hpre _
  obtain ⟨_, _, _, fn', hfn', _, _, _, _, hval⟩ := hok
  obtain rfl : fn' = fn := Option.some.inj (hfn'.symm.trans hfn)
  obtain ⟨⟨⟨ds, gs, before, hw, _⟩, hx⟩, _⟩ := hpre
  refine (law (w.forCall tape i) w.heap.size i.args ds gs before hsh hval (DataW.Whole.of_heap (w' := w.forCall tape i) (by rfl) hw) (hX _ _ _ (by rfl) hx)).mono fun e W' ⟨v, he, hp⟩ => ?_
  subst he
  exact ChangeSpec.post_blind hp
theorem own : ownKnob Tryz.prog.godebug = none := by kernel_rfl
theorem laidOut : laidOutB Tryz.prog = true := by kernel_rfl
set_option maxRecDepth 100000 in
theorem open_setup {w : World} {b0 : Nat} {args : Value} (h : Value.okWide Tryz.prog w .any b0 23 args) : ∃ (x0 : Int) (x1 : Int) (x2 : Int) (x3 : Int) (x4 : Int) (x5 : Int) (x6 : Int), args = .agg #[.int .i64 x0, .int .i64 x1, .int .i64 x2, .int .i64 x3, .int .i64 x4, .int .i64 x5, .int .i64 x6] ∧ IntKind.has .i64 x0 ∧ IntKind.has .i64 x1 ∧ IntKind.has .i64 x2 ∧ IntKind.has .i64 x3 ∧ IntKind.has .i64 x4 ∧ IntKind.has .i64 x5 ∧ IntKind.has .i64 x6 := by
  simp only [Value.okWide, Tryz.underlying23] at h
  obtain ⟨cs, rfl, hsz, ts, hts, _, hc⟩ := h
  have hts' : Tryz.prog.cellTypes Tryz.prog.depth 23 = some [3, 3, 3, 3, 3, 3, 3] := by kernel_rfl
  obtain rfl : [3, 3, 3, 3, 3, 3, 3] = ts := Option.some.inj (hts'.symm.trans hts)
  have hcn : Tryz.prog.cellsOf 23 = 7 := by kernel_rfl
  rw [hcn] at hsz
  clear hts hts' hcn
  obtain ⟨u0, hu0, g0⟩ := hc 0 cs[0] (Array.getElem?_eq_getElem (by omega))
  obtain rfl : 3 = u0 := by simpa using hu0
  simp only [Cell.okWide, Tryz.underlying3] at g0
  obtain ⟨x0, e0, w0⟩ : ∃ x, cs[0] = .int .i64 x ∧ IntKind.has .i64 x := by
    generalize cs[0] = c at g0
    cases c <;> simp [Cell.ok, Tryz.underlying3] at g0
    obtain ⟨rfl, g⟩ := g0
    exact ⟨_, rfl, g⟩
  obtain ⟨u1, hu1, g1⟩ := hc 1 cs[1] (Array.getElem?_eq_getElem (by omega))
  obtain rfl : 3 = u1 := by simpa using hu1
  simp only [Cell.okWide, Tryz.underlying3] at g1
  obtain ⟨x1, e1, w1⟩ : ∃ x, cs[1] = .int .i64 x ∧ IntKind.has .i64 x := by
    generalize cs[1] = c at g1
    cases c <;> simp [Cell.ok, Tryz.underlying3] at g1
    obtain ⟨rfl, g⟩ := g1
    exact ⟨_, rfl, g⟩
  obtain ⟨u2, hu2, g2⟩ := hc 2 cs[2] (Array.getElem?_eq_getElem (by omega))
  obtain rfl : 3 = u2 := by simpa using hu2
  simp only [Cell.okWide, Tryz.underlying3] at g2
  obtain ⟨x2, e2, w2⟩ : ∃ x, cs[2] = .int .i64 x ∧ IntKind.has .i64 x := by
    generalize cs[2] = c at g2
    cases c <;> simp [Cell.ok, Tryz.underlying3] at g2
    obtain ⟨rfl, g⟩ := g2
    exact ⟨_, rfl, g⟩
  obtain ⟨u3, hu3, g3⟩ := hc 3 cs[3] (Array.getElem?_eq_getElem (by omega))
  obtain rfl : 3 = u3 := by simpa using hu3
  simp only [Cell.okWide, Tryz.underlying3] at g3
  obtain ⟨x3, e3, w3⟩ : ∃ x, cs[3] = .int .i64 x ∧ IntKind.has .i64 x := by
    generalize cs[3] = c at g3
    cases c <;> simp [Cell.ok, Tryz.underlying3] at g3
    obtain ⟨rfl, g⟩ := g3
    exact ⟨_, rfl, g⟩
  obtain ⟨u4, hu4, g4⟩ := hc 4 cs[4] (Array.getElem?_eq_getElem (by omega))
  obtain rfl : 3 = u4 := by simpa using hu4
  simp only [Cell.okWide, Tryz.underlying3] at g4
  obtain ⟨x4, e4, w4⟩ : ∃ x, cs[4] = .int .i64 x ∧ IntKind.has .i64 x := by
    generalize cs[4] = c at g4
    cases c <;> simp [Cell.ok, Tryz.underlying3] at g4
    obtain ⟨rfl, g⟩ := g4
    exact ⟨_, rfl, g⟩
  obtain ⟨u5, hu5, g5⟩ := hc 5 cs[5] (Array.getElem?_eq_getElem (by omega))
  obtain rfl : 3 = u5 := by simpa using hu5
  simp only [Cell.okWide, Tryz.underlying3] at g5
  obtain ⟨x5, e5, w5⟩ : ∃ x, cs[5] = .int .i64 x ∧ IntKind.has .i64 x := by
    generalize cs[5] = c at g5
    cases c <;> simp [Cell.ok, Tryz.underlying3] at g5
    obtain ⟨rfl, g⟩ := g5
    exact ⟨_, rfl, g⟩
  obtain ⟨u6, hu6, g6⟩ := hc 6 cs[6] (Array.getElem?_eq_getElem (by omega))
  obtain rfl : 3 = u6 := by simpa using hu6
  simp only [Cell.okWide, Tryz.underlying3] at g6
  obtain ⟨x6, e6, w6⟩ : ∃ x, cs[6] = .int .i64 x ∧ IntKind.has .i64 x := by
    generalize cs[6] = c at g6
    cases c <;> simp [Cell.ok, Tryz.underlying3] at g6
    obtain ⟨rfl, g⟩ := g6
    exact ⟨_, rfl, g⟩
  refine ⟨x0, x1, x2, x3, x4, x5, x6, ?_, w0, w1, w2, w3, w4, w5, w6⟩
  congr 1
  apply Array.ext
  · simpa using hsz
  · intro i h1 h2
    have : i = 0 ∨ i = 1 ∨ i = 2 ∨ i = 3 ∨ i = 4 ∨ i = 5 ∨ i = 6 := by simp at h2; omega
    rcases this with rfl | rfl | rfl | rfl | rfl | rfl | rfl <;> simp [e0, e1, e2, e3, e4, e5, e6]
def relay (cs : Array Value) (o : Obj) : Obj := match o with
  | .cells _ t frozen => .cells cs t frozen
  | o => o
noncomputable def laidWorld (os : Os) : World :=
  { World.holding Tryz.prog os ⟨#[], #[], []⟩ with heap := ((World.holding Tryz.prog os ⟨#[], #[], []⟩).heap.modify 0 (relay (startInts.map (Value.int .i64)).toArray)).modify 1 (relay (deInts.map (Value.int .u8)).toArray) }
theorem laidWorld_row0 (os : Os) (args : Array Value) : ((laidWorld os).forCall (fun _ _ => 0) ⟨#[], args, []⟩).memory.heap[0]? = some (.cells (startInts.map (Value.int .i64)).toArray 258 (0, 0)) := by kernel_rfl
theorem laidWorld_row1 (os : Os) (args : Array Value) : ((laidWorld os).forCall (fun _ _ => 0) ⟨#[], args, []⟩).memory.heap[1]? = some (.cells (deInts.map (Value.int .u8)).toArray 463 (0, 0)) := by kernel_rfl
theorem laidWorld_met (os : Os) (args : Array Value) : laidMetH Tryz.prog lVars ((laidWorld os).forCall (fun _ _ => 0) ⟨#[], args, []⟩).memory := by
  rw [Go.MakeChecks.laidMetH_plain _ _ _ (by kernel_rfl)]
  refine ⟨_, ⟨1, 463, (deInts.map (Value.int .u8)).toArray, 8, [], MemPlace.row ⟨0, 0, none⟩ 4, gname1, gtype1, by kernel_rfl, by kernel_rfl, ⟨0, 258, (startInts.map (Value.int .i64)).toArray, 8, [], [], gname0, gtype0, by kernel_rfl, by kernel_rfl, rfl, rfl⟩, rfl⟩, by decide +kernel, fun b off h => ?_⟩
  have hb : b = 0 ∨ b = 1 := by
    rcases List.mem_append.1 h with h | h
    · rcases List.mem_append.1 h with h | h
      · obtain ⟨i, _, e⟩ := List.mem_map.1 h
        cases e
        exact .inr rfl
      · simp at h
    · obtain ⟨i, _, e⟩ := List.mem_map.1 h
      cases e
      exact .inl rfl
  rcases hb with rfl | rfl
  · refine ⟨⟨_, _, laidWorld_row0 os args⟩, fun u v hc => ?_⟩
    rw [blk_cell (laidWorld_row0 os args)] at hc
    simp at hc
  · refine ⟨⟨_, _, laidWorld_row1 os args⟩, fun u v hc => ?_⟩
    rw [blk_cell (laidWorld_row1 os args)] at hc
    simp at hc
end Go.Proofs.YtgpkpheejefiiaaGreatDoor
end
