/- The row of AheadLeaps: whatever the input, the law returns true. It holds without a condition. -/
import Derived.Test.YtfbibiiiepgdaaaDoorRows
import Derived.Test.YtfbibiiiepgdaaaDoorTie
import Derived.Test.YtfbibiiiepgdaaaDoorCards
import Derived.Test.YtfbibiiiepgdaaaDoorLeapsWalk
import Derived.SevenTiedAt
import Derived.WalkKit
import Derived.ProofKit
import Derived.OpenShut
import Derived.ShutString
import Derived.ChangeOld
import Derived.Below
import Derived.SizedLaws
import Derived.Lib.SmallJoins
import Derived.ChangeSame
import Derived.ChangeVars
import Derived.JoinedOf
import Derived.RowKit
import Derived.RowKitTokens
import Derived.LaidLaws
import Derived.LaidHandle
import Derived.Stop.Joined
import Derived.MakeChecks

namespace Go.Proofs.YtfbibiiiepgdaaaDoor.aheadLeaps
open Go.ChangeShapes Go.WideShapes Go.ChangeAt Go.RowKit
open Go.ChangeMaps (open_string shut_string)
set_option linter.unusedVariables false
theorem own : ownKnob Tryd.prog.godebug = none := by kernel_rfl
theorem laidOut : laidOutB Tryd.prog = true := by kernel_rfl
set_option maxRecDepth 100000 in
theorem open_arg0 {w : World} {b0 : Nat} {args : Value} (h : Value.okWide Tryd.prog w .any b0 22 args) : ∃ (x0 : Int) (x1 : Int) (x2 : Int), args = .agg #[.int .i64 x0, .int .i64 x1, .int .i64 x2] ∧ IntKind.has .i64 x0 ∧ IntKind.has .i64 x1 ∧ IntKind.has .i64 x2 := by
  simp only [Value.okWide, Tryd.underlying22] at h
  obtain ⟨cs, rfl, hsz, ts, hts, _, hc⟩ := h
  have hts' : Tryd.prog.cellTypes Tryd.prog.depth 22 = some [3, 3, 3] := by kernel_rfl
  obtain rfl : [3, 3, 3] = ts := Option.some.inj (hts'.symm.trans hts)
  have hcn : Tryd.prog.cellsOf 22 = 3 := by kernel_rfl
  rw [hcn] at hsz
  clear hts hts' hcn
  obtain ⟨u0, hu0, g0⟩ := hc 0 cs[0] (Array.getElem?_eq_getElem (by omega))
  obtain rfl : 3 = u0 := by simpa using hu0
  simp only [Cell.okWide, Tryd.underlying3] at g0
  obtain ⟨x0, e0, w0⟩ : ∃ x, cs[0] = .int .i64 x ∧ IntKind.has .i64 x := by
    generalize cs[0] = c at g0
    cases c <;> simp [Cell.ok, Tryd.underlying3] at g0
    obtain ⟨rfl, g⟩ := g0
    exact ⟨_, rfl, g⟩
  obtain ⟨u1, hu1, g1⟩ := hc 1 cs[1] (Array.getElem?_eq_getElem (by omega))
  obtain rfl : 3 = u1 := by simpa using hu1
  simp only [Cell.okWide, Tryd.underlying3] at g1
  obtain ⟨x1, e1, w1⟩ : ∃ x, cs[1] = .int .i64 x ∧ IntKind.has .i64 x := by
    generalize cs[1] = c at g1
    cases c <;> simp [Cell.ok, Tryd.underlying3] at g1
    obtain ⟨rfl, g⟩ := g1
    exact ⟨_, rfl, g⟩
  obtain ⟨u2, hu2, g2⟩ := hc 2 cs[2] (Array.getElem?_eq_getElem (by omega))
  obtain rfl : 3 = u2 := by simpa using hu2
  simp only [Cell.okWide, Tryd.underlying3] at g2
  obtain ⟨x2, e2, w2⟩ : ∃ x, cs[2] = .int .i64 x ∧ IntKind.has .i64 x := by
    generalize cs[2] = c at g2
    cases c <;> simp [Cell.ok, Tryd.underlying3] at g2
    obtain ⟨rfl, g⟩ := g2
    exact ⟨_, rfl, g⟩
  refine ⟨x0, x1, x2, ?_, w0, w1, w2⟩
  congr 1
  apply Array.ext
  · simpa using hsz
  · intro i h1 h2
    have : i = 0 ∨ i = 1 ∨ i = 2 := by simp at h2; omega
    rcases this with rfl | rfl | rfl <;> simp [e0, e1, e2]
def IsRow (k : IntKind) (w : World) (a : Option Addr) (len cap : Nat) (zs : List Int) : Prop :=
  (a = none ∧ len = 0 ∧ cap = 0 ∧ zs = []) ∨
  ∃ x, a = some x ∧ len ≤ cap ∧ cap ≤ maxLen ∧ zs.length = cap ∧ (∀ i, i < zs.length → w.cell? (x.add i) = some (.int k (zs.getD i 0))) ∧ ∀ n ∈ zs, (Lit.int k n).wf = true
theorem vnamed : Tryd.prog.globalNamed "trunnion/ahead.start" = some 0 := by kernel_rfl
theorem vtype : (Tryd.prog.globals[0]?).map (·.type) = some 50 := by kernel_rfl
theorem cells50 : Tryd.prog.cellsOf 50 = 4 := by kernel_rfl
theorem cells3 : Tryd.prog.cellsOf 3 = 1 := by kernel_rfl
def cells4 : Array Value := #[.int .i64 (-1), .int .i64 0, .int .i64 0, .int .i64 0]
theorem int_of_trod {H : Type} {enc : TypeId × Value → H} {P : Program} {w : World} {base : Nat} {sp : Nat → Bool} {held : Bool} {fuel : Nat} {t : TypeId} {k : IntKind} {c : Value} {y : DataW H × List MemPlace}
    (ht : P.underlying t = some (.int k)) (h : DataW.trod enc P w base sp held fuel t [c] = some y) : ∃ n, c = .int k n ∧ y = (.lit (.int k n), []) := by
  cases fuel with
  | zero => simp [DataW.trod] at h
  | succ fuel =>
    cases c <;> simp [DataW.trod, ht] at h
    rename_i k' n
    obtain ⟨⟨rfl, _⟩, rfl⟩ := h
    exact ⟨n, rfl, rfl⟩
theorem cells_of_laid {W : World} (h : laidMet Tryd.prog [("trunnion/ahead.start", Rows.laid_trunnion_ahead_start)] W) : W.var? Tryd.prog "trunnion/ahead.start" = some cells4 := by
  obtain ⟨ps, ⟨g, t, cs, fuel, p, q, hg, ht, hvar, hd, _, _⟩, _⟩ := h
  obtain rfl := Option.some.inj (vnamed.symm.trans hg)
  obtain rfl := Option.some.inj (vtype.symm.trans ht)
  rw [hvar]
  congr 1
  obtain ⟨l⟩ := cs
  obtain ⟨xs, n, _, hx, hl, hlen, hg⟩ := DataW.trod_struct Tryd.underlying50 hd
  rw [cells50] at hl
  obtain ⟨c0, c1, c2, c3, rfl⟩ : ∃ c0 c1 c2 c3, l = [c0, c1, c2, c3] := by
    match l, hl with
    | [a, b, c, d], _ => exact ⟨a, b, c, d, rfl⟩
  obtain ⟨y0, y1, y2, y3, rfl⟩ : ∃ y0 y1 y2 y3, xs = [y0, y1, y2, y3] := by
    match xs, hlen with
    | [a, b, c, d], _ => exact ⟨a, b, c, d, rfl⟩
  obtain ⟨n0, rfl, rfl⟩ := int_of_trod Tryd.underlying3 (show DataW.trod (fun _ => ()) Tryd.prog W 0 (fun _ => true) false n 3 [c0] = some y0 by simpa [cells3] using hg 0 _ rfl)
  obtain ⟨n1, rfl, rfl⟩ := int_of_trod Tryd.underlying3 (show DataW.trod (fun _ => ()) Tryd.prog W 0 (fun _ => true) false n 3 [c1] = some y1 by simpa [cells3] using hg 1 _ rfl)
  obtain ⟨n2, rfl, rfl⟩ := int_of_trod Tryd.underlying3 (show DataW.trod (fun _ => ()) Tryd.prog W 0 (fun _ => true) false n 3 [c2] = some y2 by simpa [cells3] using hg 2 _ rfl)
  obtain ⟨n3, rfl, rfl⟩ := int_of_trod Tryd.underlying3 (show DataW.trod (fun _ => ()) Tryd.prog W 0 (fun _ => true) false n 3 [c3] = some y3 by simpa [cells3] using hg 3 _ rfl)
  simp [Rows.laid_trunnion_ahead_start] at hx
  obtain ⟨⟨rfl, rfl, rfl, rfl⟩, _⟩ := hx
  rfl
theorem laid_of {W : World} (h : laidMetH Tryd.prog Rows.aheadLeapsRow.laid W) : Laid W := by
  have h1 : laidMetH Tryd.prog [("trunnion/ahead.start", Rows.laid_trunnion_ahead_start)] W := h
  rw [Go.MakeChecks.laidMetH_plain _ _ _ (by kernel_rfl)] at h1
  have h2 := cells_of_laid h1
  exact ⟨by simpa [cells4] using World.var?_cell vnamed h2 0, by simpa [cells4] using World.var?_cell vnamed h2 1, by simpa [cells4] using World.var?_cell vnamed h2 2, by simpa [cells4] using World.var?_cell vnamed h2 3⟩
noncomputable def laidWorld (os : Os) : World :=
  { World.holding Tryd.prog os ⟨#[], #[], []⟩ with heap := (World.holding Tryd.prog os ⟨#[], #[], []⟩).heap.modify 0 fun
      | .cells _ t frozen => .cells cells4 t frozen
      | o => o }
theorem laidWorld_row (os : Os) (args : Array Value) : ((laidWorld os).forCall (fun _ _ => 0) ⟨#[], args, []⟩).memory.heap[0]? = some (.cells cells4 50 (0, 0)) := by kernel_rfl
theorem laidWorld_met (os : Os) (args : Array Value) : laidMetH Tryd.prog Rows.aheadLeapsRow.laid ((laidWorld os).forCall (fun _ _ => 0) ⟨#[], args, []⟩).memory := by
  show laidMetH Tryd.prog [("trunnion/ahead.start", Rows.laid_trunnion_ahead_start)] _
  rw [Go.MakeChecks.laidMetH_plain _ _ _ (by kernel_rfl)]
  refine ⟨_, ⟨0, 50, cells4, 8, [], [], by kernel_rfl, by kernel_rfl, by kernel_rfl, by kernel_rfl, rfl, rfl⟩, by decide, fun b off h => ?_⟩
  have h' : MemPlace.cell b off ∈ [MemPlace.cell 0 0, .cell 0 1, .cell 0 2, .cell 0 3] := h
  have hb : b = 0 := by
    simp at h'
    omega
  subst hb
  refine ⟨⟨_, _, laidWorld_row os args⟩, fun u v hc => ?_⟩
  simp only [World.cell?, laidWorld_row os args] at hc
  simp at h'
  rcases h' with rfl | rfl | rfl | rfl <;> simp [cells4] at hc
set_option maxRecDepth 100000 in
theorem lifted (os : Os) (started : os.Started) (H : Type) (enc : TypeId × Value → H) :
    ReturnsInHanded {} Tryd.checked os 6 .any (fun w args => (Rows.aheadLeapsSpec.pre enc Tryd.prog Tryd.f6 [] false w args ∧ laidMetH Tryd.prog Rows.aheadLeapsRow.laid w) ∧ sizedMet enc Tryd.prog Tryd.f6 (OpenSpec.ofChange Rows.aheadLeapsSpec) false w args) (Rows.aheadLeapsSpec.post enc Tryd.prog Tryd.f6 false true false false) := by
  refine returnsInHanded_of_change_and (C := Tryd.checked) (X := fun w _ => laidMetH Tryd.prog Rows.aheadLeapsRow.laid w) (fun _ _ _ hh h => h.of_heap hh) own started (by kernel_rfl) Tryd.func6
    (ChangeSpec.witness_at (enc := enc) (C := Tryd.checked) (os := os) (X := fun w _ => laidMetH Tryd.prog Rows.aheadLeapsRow.laid w) false (laidWorld os) #[.agg #[.int .i64 0, .int .i64 0, .int .i64 0], .slice none 0 0] 8 rfl (by kernel_rfl) (by kernel_rfl) (by kernel_rfl) (by kernel_rfl) (by kernel_rfl) (laidWorld_met os _)) ?_
  intro W base args ds gs before hval0 hW _ _ hL _
  have hval : ∀ (j : Nat) t v, Tryd.f6.params[j]? = some t → args[j]? = some v → Value.okWide Tryd.prog W .any base t v := hval0
  have hW' := hW
  obtain ⟨p, q, hA0, hV, rfl, hfz, hnd⟩ := hW
  have hA : DataW.TrodAll enc Tryd.prog W 0 (fun _ => true) true Tryd.f6.params.toList args.toList ds p := hA0
  have hLaid := laid_of hL
  rw [Tryd.params6] at hA hval
  obtain ⟨v0, vs0, d0, ds0, p0, q0, hargs, rfl, rfl, h0, r0⟩ := trodAll_cons hA
  obtain ⟨v1, vs1, d1, ds1, p1, q1, rfl, rfl, rfl, h1, r1⟩ := trodAll_cons r0
  obtain ⟨rfl, rfl, rfl⟩ := trodAll_nil r1
  obtain rfl : args = #[v0, v1] := by cases args; simp_all
  obtain ⟨rfl, rfl⟩ := trodVars_none hV
  have k0 := h0
  have lt0 : ∀ x ∈ p0, x.block < W.heap.size := by obtain ⟨m, hm⟩ := k0; exact DataW.trod_lt m _ _ _ hm
  obtain ⟨a0_0, a0_1, a0_2, rfl, w0_0, w0_1, w0_2⟩ := open_arg0 (hval 0 22 v0 rfl rfl)
  obtain ⟨a1, len1, cap1, rfl⟩ := okWide_slice Tryd.underlying36 (hval 1 36 v1 rfl rfl)
  have k1 := h1
  have lt1 : ∀ x ∈ p1, x.block < W.heap.size := by obtain ⟨m, hm⟩ := k1; exact DataW.trod_lt m _ _ _ hm
  obtain ⟨z1, w1⟩ : ∃ zs, IsRow .i64 W a1 len1 cap1 zs := by
    obtain ⟨fuel, hf⟩ := h1
    rcases open_ints Tryd.underlying36 Tryd.underlying3 (by kernel_rfl) hf with ⟨hcs, _⟩ | ⟨x, l, c, zs, hcs, _, hl, hm, hz, _, hcell, hwz⟩
    · simp [Value.cells] at hcs
      obtain ⟨rfl, rfl, rfl⟩ := hcs
      exact ⟨[], .inl ⟨rfl, rfl, rfl, rfl⟩⟩
    · simp [Value.cells] at hcs
      obtain ⟨rfl, rfl, rfl⟩ := hcs
      exact ⟨zs, .inr ⟨_, rfl, hl, hm, by simpa using hz, hcell, hwz⟩⟩
  clear hA0 hval0
  refine (Leaps.leaps_law a0_0 a0_1 a0_2 a1 len1 cap1 z1 w0_0 w0_1 w0_2 w1 hLaid W rfl).mono fun e W' ⟨he, bel⟩ => ?_
  subst he
  exact ⟨_, rfl, _, _, _, [], _, [], hW', trodAll_mk1 (shut_bool Tryd.underlying4 _), (trodAll_cons_mk (Below.trod laidOut (by kernel_rfl) (of_decide_eq_true (by kernel_rfl)) k0 bel lt0) (trodAll_cons_mk (Below.trod laidOut (by kernel_rfl) (of_decide_eq_true (by kernel_rfl)) k1 bel lt1) trodAll_mk0)), rfl, bel.frame _, fun h => by cases h⟩
theorem over : Rows.aheadLeapsRow.holds Tryd.pinned (OpenSpec.ofChange Rows.aheadLeapsSpec) :=
  OpenClaim.holds_of_wide 6 Tryd.f6 rfl rfl rfl rfl rfl rfl rfl ⟨rfl, rfl, rfl, rfl, rfl⟩ rfl rfl rfl rfl rfl (by kernel_rfl) Tryd.func6 (by kernel_rfl)
    (of_decide_eq_true (by kernel_rfl)) (by unfold Func.isWrapper; first | (rw [if_pos (by decide +kernel)]; kernel_rfl) | (rw [if_neg (by decide +kernel)]; exact ⟨rfl, rfl⟩))
    (fun os started H enc _ => lifted os started H enc)
theorem card_holds : Rows.AheadLeapsCardSaid :=
  Claim7.holds_tied_plain_at .later [] [.data] true (true, "4547f18a67460efd5bc783346d02fb4bd3bc53b033c0e50e13a2f1c7468029f4") false
    over (fun _ h => by cases h) (by kernel_rfl) (fun _ h => by cases h) aheadLeaps_row_tie rfl ⟨rfl, rfl⟩ (by kernel_rfl) rfl
    (fun f fn hf hfn => by
      obtain rfl : f = 6 := Option.some.inj ((show Tryd.prog.funcNamed Rows.aheadLeapsRow.func = some 6 by kernel_rfl).symm.trans hf) |>.symm
      obtain rfl : fn = Tryd.f6 := (Option.some.inj (Tryd.func6.symm.trans hfn)).symm
      exact ⟨by kernel_rfl, fun j t ht => by
        have ht' : Tryd.f6.params[j]? = some t := ht
        rw [Tryd.params6] at ht'
        have h3 : t = 22 ∨ t = 36 := by
          match j, ht' with
          | 0, h => first | (have h2 := Option.some.inj h; simp [← h2]) | simp_all
          | 1, h => first | (have h2 := Option.some.inj h; simp [← h2]) | simp_all
          | j + 2, h => simp at h
        rcases h3 with rfl | rfl
        · exact (show Tryd.prog.wantsStandIn 22 = false by kernel_rfl)
        · exact (show Tryd.prog.wantsStandIn 36 = false by kernel_rfl)⟩)
    (by kernel_rfl)
theorem proved : Rows.AheadLeapsCardSaid := card_holds
end Go.Proofs.YtfbibiiiepgdaaaDoor.aheadLeaps
namespace Go.Proofs.YtfbibiiiepgdaaaDoor
/-- The row, under a short name, for the claim. -/
theorem aheadLeaps_holds : Rows.AheadLeapsCardSaid := aheadLeaps.proved
end Go.Proofs.YtfbibiiiepgdaaaDoor

