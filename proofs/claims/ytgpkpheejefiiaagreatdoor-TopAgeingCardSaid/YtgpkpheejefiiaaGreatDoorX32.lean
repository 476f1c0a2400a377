/- Known functions: syndrome.Make; a walk of slices.Backward. | Known functions: syndrome.Make, walked. | Known functions: syndrome.Make. -/
import Derived.Test.YtgpkpheejefiiaaGreatDoorX10
import Derived.RangeFuncNested
import Derived.RangeFuncBound
import Derived.RangeFuncCalls
import Derived.RangeFuncFrom
import Derived.RangeFuncBox
import Derived.RangeFuncLeaves
import Derived.Shelf.Abstract
import Derived.Shelf.RegionOpen
import Derived.WalkKit
import Derived.OwnWalkIn
import Derived.TacticsInMore
import Derived.LoopNIn
import Derived.LoopIn
import Derived.RegionIn
section
set_option linter.unusedVariables false
set_option linter.unusedSimpArgs false
namespace Go.Proofs.YtgpkpheejefiiaaGreatDoor
open Go.RowKit Go.Shelf Go.Proofs
attribute [local go_sem] Oper.semAt_some
set_option maxRecDepth 100000 in
set_option maxHeartbeats 2000000 in
/-- slices.Backward's iterator: so many rounds, from the last text on. T k: k rounds are over. -/
theorem back1_in (n : Nat) (l Bs b off len cap : Nat) (ss : List (List Nat)) (hl2 : len ≤ 30) (J : Nat → World → Prop)
    (hBs : ∀ k W, J k W → W.cell? ⟨Bs, 0, none⟩ = some (.slice (some ⟨b, off, none⟩) len cap)) (hc : ∀ k W, J k W → ∀ j, j < len → W.cell? ⟨b, off + j, none⟩ = some (.string (bytesOf ((ss[j]?).getD []))))
    (hY : ∀ k W, k < len → J k W → YieldAt Fence.wide (n - 1) Tryz.prog l #[.int .i64 ((len - 1 - k : Nat) : Int), .string (bytesOf ((ss[len - 1 - k]?).getD []))] W fun e W' => e = .returned (.bool true) ∧ J (k + 1) W')
    (W : World) (h0 : J 0 W) : CallsIn Fence.wide n Tryz.prog 370 #[.func (.yield l) #[] #[], .pointer (some ⟨Bs, 0, none⟩)] W fun e W' => (∃ v, e = .returned v) ∧ J len W' := by
  have hw0 : IntKind.i64.wrap ((len : Int) - 1) = (len : Int) - 1 := w64i (by omega) (by omega)
  have hBs0 := hBs 0 W h0
  refine callsIn_of_wp Tryz.func370 rfl trivial ?_ rfl
  simp only [Tryz.ntmps370, List.size_toArray, List.length_cons, List.length_nil, Nat.reduceAdd, Nat.reduceSub, Array.replicate_succ, Array.replicate_zero, List.push_toArray, List.append_toArray, List.nil_append, List.cons_append]
  gi_wp2
  gi_loopw [3] (fun i wr => ∃ k : Nat, k ≤ len ∧ i = .int .i64 ((len : Int) - 1 - k) ∧ J k wr) (fun i _ => (intOf i + 1).toNat)
  case atStart => exact ⟨0, Nat.zero_le _, by simp, h0⟩
  case round =>
    obtain ⟨k, hk, rfl, hJs⟩ := hrel
    have hBs' := hBs k wr hJs
    by_cases hlt : k < len
    · have hi : ((len : Int) - 1 - k) = ((len - 1 - k : Nat) : Int) := by omega
      have hcx := hc k wr hJs (len - 1 - k) (by omega)
      obtain ⟨fn, tmps, assign, body, hy, hR⟩ := hY k wr hlt hJs
      rw [hi]
      have HK := Lib.hid hi
      have hidx : len - 1 - k < len := by omega
      have hwi : IntKind.i64.wrap (((len - 1 - k : Nat) : Int) - 1) = ((len - 1 - k : Nat) : Int) - 1 := w64i (by omega) (by omega)
      generalize hid : len - 1 - k = idx at *
      generalize (ss[idx]?).getD [] = sx at *
      have hge : decide ((idx : Int) ≥ 0) = true := by simp
      have hge2 : decide (0 ≤ (idx : Int)) = true := by simp
      gi_wp2
      refine ⟨fun h => absurd h (by simp [Fence.wide]), hR.mono ?_⟩
      rintro e W3 ⟨rfl, hJ3⟩
      gi_wp2
      go_roundw
      case rel => exact ⟨k + 1, by omega, by congr 1; omega, hJ3⟩
      case measure => simp [intOf]
    · obtain rfl : k = len := by omega
      have hneg : ((k : Int) - 1 - k) = -1 := by omega
      rw [hneg]
      gi_wp2
      go_end0
      exact ⟨⟨_, rfl⟩, hJs⟩
/-- A range over a function that goes round so many times, its body never left; T k: k rounds are over; it minds neither of the loop's own two blocks. -/
theorem range_rounds {n : Nat} {g : Operand} {ps : Array Tmp} {assign body : Code} {Q : Exit → Act → World → Prop} {a : Act} {w : World} {gf : Nat} {lb : Array Value} (hg : a.eval g = .func (.func gf) #[] lb) (eg : ∀ args w, (callFunc gf args).run Tryz.prog w = .ok (.enter gf args) w)
    (len : Nat) (item : Nat → Array Value) (hps : ∀ k, (item k).size = ps.size) (T : Nat → World → Prop) (hT : ∀ k W l o, w.heap.size ≤ l → T k W → T k (W.putObj l o)) (hTa : ∀ k W o, T k W → T k (W.alloc o)) (h0 : T 0 w)
    (hiter : ∀ (l : Nat) (J : Nat → World → Prop), (∀ k W, J k W → T k W) → (∀ k W, k < len → J k W → YieldAt Fence.wide (n - 1 - 1) Tryz.prog l (item k) W fun e W' => e = .returned (.bool true) ∧ J (k + 1) W') → ∀ W, J 0 W →
      CallsIn Fence.wide (n - 1) Tryz.prog gf (#[.func (.yield l) #[] #[]] ++ lb) W fun e W' => (∃ v, e = .returned v) ∧ J len W')
    (a₁ : Nat → Act) (hassign : ∀ (l k : Nat) (W : World) (K : Act → World → Prop), K (a₁ k) W → assign.wpIn (Fence.wide.inRound l) (n - 1 - 1) Tryz.prog (Exit.then K (fun _ _ _ => False)) { tmps := (ps.zip (item k)).foldl (fun t (p, v) => t.setIfInBounds p v) a.tmps, defers := [] } W)
    (hbody : ∀ (l k : Nat) (W : World), k < len → T k W → body.wpIn (Fence.wide.inRound l) (n - 1 - 1) Tryz.prog (fun e _ W' => e = .normal ∧ KeepsOthers W W' ∧ T (k + 1) W') (a₁ k) W)
    (hdone : ∀ (D : Nat) (W : World), w.heap.size ≤ D → T len W → W.heap[D]? = some (.deferred (some [])) → Q .normal { a with defers := { target := .collected D, args := #[] } :: a.defers } W) :
    (Code.rangeFunc g ps assign body).wpIn Fence.wide n Tryz.prog Q a w := by
  refine wpIn_rangeFunc fun fn hfn => ?_
  obtain ⟨rec, hrec⟩ : ∃ rec : LoopState → Loop, rec = fun st => { state := st, pending := none, fn, tmps := a.tmps, params := ps, assign, body, defers := w.heap.size } := ⟨_, rfl⟩
  have e0 := run_enterLoop_outer (P := Tryz.prog) (w := w) fn a.tmps ps assign body
  obtain ⟨W1, hW1⟩ : ∃ W1, (w.alloc (.deferred (some []))).alloc (.loop (rec .ready)) = W1 := ⟨_, rfl⟩
  have hsz : W1.heap.size = w.heap.size + 2 := by rw [← hW1]; simp
  have hL : W1.heap[w.heap.size + 1]? = some (.loop (rec .ready)) := by
    rw [← hW1]
    have := World.alloc_heap_new (w.alloc (.deferred (some []))) (.loop (rec .ready))
    rwa [World.size_alloc] at this
  have hD : W1.heap[w.heap.size]? = some (.deferred (some [])) := by
    rw [← hW1]
    exact (Below.heap_alloc _ _ _ (by simp)).trans (World.alloc_heap_new w _)
  have hT1 : T 0 W1 := by rw [← hW1]; exact hTa _ _ _ (hTa _ _ _ h0)
  refine ⟨w.heap.size + 1, [{ target := .collected w.heap.size, args := #[] }], W1, { target := .fn (.func gf) lb, args := #[.func (.yield (w.heap.size + 1)) #[] #[]] }, W1, gf, #[.func (.yield (w.heap.size + 1)) #[] #[]] ++ lb, W1, ?_, ?_, fun f' _ => trivial, ?_, fun h => by simp [Fence.wide] at h, ?_⟩
  · rw [show Fence.wide.round = none from rfl, e0, ← hW1, hrec]
  · simp only [resolve, hg]
    simp [go_sem]
  · simp [invoke, go_sem, eg]
  · refine (hiter (w.heap.size + 1) (fun k W => T k W ∧ W.heap[w.heap.size + 1]? = some (.loop (rec .ready)) ∧ W.heap[w.heap.size]? = some (.deferred (some []))) (fun k W h => h.1) ?_ W1 ⟨hT1, hL, hD⟩).mono ?_
    · rintro k W hk ⟨hi, hl, hd⟩
      have hlt : w.heap.size + 1 < W.heap.size := (Array.getElem?_eq_some_iff.1 hl).1
      have hy := run_yield (P := Tryz.prog) (args := item k) hl (by rw [hrec]; exact hps k)
      rw [hrec] at hy
      refine ⟨fn, _, assign, body, hy, roundIn_of_wpIn hfn (hassign _ k W _ ⟨_, run_beginRound hl (by rw [hrec]), ?_⟩)⟩
      have hl2 : (W.putObj (w.heap.size + 1) (.loop { rec .ready with state := .busy })).heap[w.heap.size + 1]? = some (.loop { rec .ready with state := .busy }) := World.putObj_heap_same hlt
      have hd2 : (W.putObj (w.heap.size + 1) (.loop { rec .ready with state := .busy })).heap[w.heap.size]? = some (.deferred (some [])) := (World.putObj_heap_other (by omega)).trans hd
      refine wpIn_mono (hbody _ k _ hk (hT _ _ _ _ (by omega) hi)) ?_
      rintro e a3 W3 ⟨rfl, hk3, hi3⟩
      have hl3 := hk3.same _ _ hl2 rfl
      have hd3 := hk3.same _ _ hd2 rfl
      have hr := run_endRound (P := Tryz.prog) none hl3
      refine ⟨_, _, hr, rfl, hT _ _ _ _ (by omega) hi3, ?_, (World.putObj_heap_other (by omega)).trans hd3⟩
      rw [World.putObj_heap_same (Array.getElem?_eq_some_iff.1 hl3).1, hrec]
      rfl
    · rintro e W2 ⟨⟨v, rfl⟩, hi, hl, hd⟩
      have hr := run_endLoop (P := Tryz.prog) hl (by rw [hrec]; simp)
      refine ⟨none, _, by rw [hrec] at hr; exact hr, hdone _ _ (Nat.le_refl _) (hT _ _ _ _ (by omega) hi) ((World.putObj_heap_other (by omega)).trans hd)⟩
end Go.Proofs.YtgpkpheejefiiaaGreatDoor
end
section
/- Known functions: syndrome.Make; a walk of slices.Backward. -/
set_option linter.unusedVariables false
set_option linter.unusedSimpArgs false
namespace Go.Proofs.YtgpkpheejefiiaaGreatDoor
open Go.RowKit Go.Shelf Go.Proofs
attribute [local go_sem] Oper.semAt_some
set_option maxRecDepth 100000 in
set_option maxHeartbeats 2000000 in
theorem backward_in (n : Nat) (a : Option Addr) (len cap : Nat) (w : World) :
    CallsIn Fence.wide n Tryz.prog 362 #[.slice a len cap] w fun e w' => e = .returned (.func (.func 370) #[] #[.pointer (some ⟨w.heap.size, 0, none⟩)]) ∧ w' = w.alloc (.cells #[.slice a len cap] 34) := by
  refine callsIn_of_wp Tryz.func362 rfl trivial ?_ rfl
  simp only [Tryz.ntmps362, List.size_toArray, List.length_cons, List.length_nil, Nat.reduceAdd, Nat.reduceSub, Array.replicate_succ, Array.replicate_zero, List.push_toArray, List.append_toArray, List.nil_append, List.cons_append]
  gi_wp2
  go_ret
  exact ⟨rfl, rfl⟩
/-- all that stood but one block is as it was -/
structure BelX (bt : Nat) (w w' : World) : Prop where
  os : w'.os = w.os
  tape : w'.tape = w.tape
  output : w'.output = w.output
  size : w.heap.size ≤ w'.heap.size
  blk : ∀ k, k < w.heap.size → k ≠ bt → w'.heap[k]? = w.heap[k]?
theorem BelX.of_bel {bt : Nat} {w w' : World} (h : Bel w w') : BelX bt w w' := ⟨h.os, h.tape, h.output, h.size, fun k hk _ => h.block k hk⟩
theorem BelX.trans {bt : Nat} {a b c : World} (h : BelX bt a b) (k : BelX bt b c) : BelX bt a c :=
  ⟨k.os.trans h.os, k.tape.trans h.tape, k.output.trans h.output, Nat.le_trans h.size k.size, fun i hi hn => (k.blk i (Nat.lt_of_lt_of_le hi h.size) hn).trans (h.blk i hi hn)⟩
theorem BelX.set (bt : Nat) (w : World) (o : Nat) (v : Value) : BelX bt w (w.setCell ⟨bt, o, none⟩ v) :=
  ⟨rfl, rfl, rfl, (((Below.refl 0 w).setCell (p := ⟨bt, o, none⟩) (Nat.zero_le _) v).size), fun k _ hn => Below.heap_setCell w ⟨bt, o, none⟩ v k hn⟩
set_option maxRecDepth 100000 in
set_option maxHeartbeats 4000000 in
theorem makeB (w : World) (b off len cap : Nat) (ss : List (List Nat)) (p z : List Nat) (q : Nat → List Nat) (X : World → Prop) (hlen : ss.length = len) (h2 : 2 ≤ len) (h30 : len ≤ 30) (hb : b < w.heap.size) (hp : p.length ≤ 1000000)
    (h247 : ∀ W, Bel w W → w.heap.size < W.heap.size → Calls Tryz.prog 247 #[.slice (some ⟨b, off, none⟩) len cap] W fun e W1 => e = .returned (.tuple #[.string (bytesOf p), .int .i64 0]) ∧ W.heap.size ≤ W1.heap.size ∧ (∀ k, w.heap.size ≤ k → k < W.heap.size → W1.heap[k]? = W.heap[k]?) ∧
      Calls Tryz.prog 206 #[.int .i64 (p.length : Int)] W1 fun e W2 => e = .returned (.string (bytesOf z)) ∧ W1.heap.size ≤ W2.heap.size ∧ (∀ k, w.heap.size ≤ k → k < W.heap.size → W2.heap[k]? = W1.heap[k]?) ∧ (∀ j, j < len → W2.cell? ⟨b, off + j, none⟩ = some (.string (bytesOf ((ss[j]?).getD [])))) ∧ GW W2 ∧ X W2)
    (hq0 : q 0 = z) (hq : ∀ k, k < len → ∀ W, GW W → Calls Tryz.prog 359 #[.string (bytesOf (q k)), .string (bytesOf ((ss[len - 1 - k]?).getD []))] W fun e w' => (∃ x, e = .returned (.tuple #[.string (bytesOf (q (k + 1))), x])) ∧ Bel W w') :
    Calls Tryz.prog 344 #[.slice (some ⟨b, off, none⟩) len cap] w fun e W' => e = .returned (.tuple #[.string (bytesOf p), .string (bytesOf (q len)), .int .i64 0]) ∧ ∃ W2, X W2 ∧ w.heap.size < W2.heap.size ∧ BelX w.heap.size W2 W' := by
  refine (callsIn_wide (n := 6)).1 ?_
  have H247 := Lib.hid h247
  have HQ := Lib.hid hq
  have hd1 : decide ((len : Int) < 2) = false := by simp; omega
  have hd2 : decide ((len : Int) > 30) = false := by simp; omega
  have hd3 : decide (30 < (len : Int)) = false := by simp; omega
  have hsz := bytesOf_size p
  clear h247 hq
  generalize bytesOf p = P at *
  refine callsIn_of_wp_marks Tryz.func344 rfl trivial ?_ rfl
  simp only [Tryz.ntmps344, List.size_toArray, List.length_cons, List.length_nil, Nat.reduceAdd, Nat.reduceSub, Array.replicate_succ, Array.replicate_zero, List.push_toArray, List.append_toArray, List.nil_append, List.cons_append]
  gi_wp2_with fail
  refine ⟨trivial, ?_⟩
  have hbt0 := heap_alloc_new w (.cells #[.string ⟨#[]⟩] 9)
  have hsw : (w.alloc (.cells #[.string ⟨#[]⟩] 9)).heap.size = w.heap.size + 1 := by simp
  refine (callsIn_wide.2 (H247.out _ (Bel.alloc w _) (by simp))).mono ?_
  rintro e W1 ⟨rfl, z1, z2, K206⟩
  have hbt1 := (z2 w.heap.size (Nat.le_refl _) (by omega)).trans hbt0
  have HZ1 := Lib.hid (And.intro hbt1 z1)
  have K206' := Lib.hid K206
  clear hbt0 z2 K206 hbt1 z1
  gi_wp2_with fail
  refine ⟨trivial, ?_⟩
  refine (callsIn_wide.2 K206'.out).mono ?_
  rintro e W2 ⟨rfl, y1, y2, y3, y4, y5⟩
  have hbt2 := (y2 w.heap.size (Nat.le_refl _) (by omega)).trans HZ1.out.1
  have hlt2 : w.heap.size < W2.heap.size := by have := HZ1.out.2; omega
  have c2 := blk_cell hbt2 0
  have f2 := blk_frozen hbt2 0
  have HY := Lib.hid (And.intro y3 (And.intro y4 y5))
  have HB2 := Lib.hid hbt2
  clear y1 y2 y3 y4 y5 hbt2
  have KB := Lib.hid backward_in
  gi_wp2_with fail
  refine ⟨trivial, (KB.out _ _ _ _ _).mono ?_⟩
  rintro e w' ⟨rfl, rfl⟩
  have hs3 : (W2.setCell ⟨w.heap.size, 0, none⟩ (.string (bytesOf z))).heap.size = W2.heap.size := setc_size HB2.out _
  rw [hs3]
  have hb3 := setc_blk (i := 0) HB2.out (.string (bytesOf z))
  have hx3 := BelX.set w.heap.size W2 0 (.string (bytesOf z))
  obtain ⟨W4, hW4⟩ : ∃ W4, (W2.setCell ⟨w.heap.size, 0, none⟩ (.string (bytesOf z))).alloc (.cells #[.slice (some ⟨b, off, none⟩) len cap] 34) = W4 := ⟨_, rfl⟩
  have hs4 : W4.heap.size = W2.heap.size + 1 := by rw [← hW4]; simp [hs3]
  have hb4 : W4.heap[w.heap.size]? = some (.cells #[.string (bytesOf z)] 9 (0, 0)) := by
    rw [← hW4]
    exact blk_below hb3 (Bel.alloc _ _)
  have hx4 : BelX w.heap.size W2 W4 := by rw [← hW4]; exact hx3.trans (BelX.of_bel (Bel.alloc _ _))
  have hc4 : W4.cell? ⟨W2.heap.size, 0, none⟩ = some (.slice (some ⟨b, off, none⟩) len cap) := by
    have := heap_alloc_new (W2.setCell ⟨w.heap.size, 0, none⟩ (.string (bytesOf z))) (.cells #[.slice (some ⟨b, off, none⟩) len cap] 34)
    rw [hs3, hW4] at this
    exact blk_cell this 0
  have hlt4 : w.heap.size < W4.heap.size := by omega
  rw [hW4]
  have HW := Lib.hid (And.intro hx4 (And.intro hc4 hs4))
  clear hs3 hb3 hx3 hW4 c2 f2 hx4 hc4 hs4
  have hgw : ∀ W, BelX w.heap.size W4 W → GW W := fun W h => by
    obtain ⟨m0, i0, k0⟩ := HY.out.2.1.g0
    obtain ⟨m1, i1, k1⟩ := HY.out.2.1.g1
    have hx := HW.out.1.trans h
    have h0 := blk_lt k0
    have h1 := blk_lt k1
    have e0 : 0 ≠ w.heap.size := fun e => by
      have := HB2.out; rw [← e, k0] at this; simp at this
    have e1 : 1 ≠ w.heap.size := fun e => by
      have := HB2.out; rw [← e, k1] at this; simp at this
    exact ⟨⟨m0, i0, (hx.blk 0 h0 e0).trans k0⟩, ⟨m1, i1, (hx.blk 1 h1 e1).trans k1⟩⟩
  gi_wp2_with fail
  refine range_rounds (gf := 370) (lb := #[.pointer (some ⟨W2.heap.size, 0, none⟩)]) rfl (enter_run (by kernel_rfl)) len (fun k => #[.int .i64 ((len - 1 - k : Nat) : Int), .string (bytesOf ((ss[len - 1 - k]?).getD []))]) ?hps
    (fun k W => W.heap[w.heap.size]? = some (.cells #[.string (bytesOf (q k))] 9 (0, 0)) ∧ BelX w.heap.size W4 W) ?tput ?tall ⟨by rw [hq0]; exact hb4, BelX.of_bel (Bel.refl _)⟩ ?iter (fun k => { tmps := #[Value.slice (some ⟨b, off, none⟩) len cap, undef, .string P, .pointer (some ⟨w.heap.size, 0, none⟩), .int .i64 0, undef, .string (bytesOf ((ss[len - 1 - k]?).getD [])), Value.slice (some ⟨b, off, none⟩) len cap, .int .i64 len, .bool false, .bool false, Value.slice (some ⟨b, off, none⟩) len cap, .int .i64 len, .bool false, .bool false, .tuple #[.string P, .int .i64 0], Value.slice (some ⟨b, off, none⟩) len cap, .tuple #[.string P, .int .i64 0], .string P, .int .i64 0, .int .i64 0, .bool false, undef, .string P, .int .i64 p.length, .string (bytesOf z), Value.slice (some ⟨b, off, none⟩) len cap, .func (.func 370) #[] #[.pointer (some ⟨W2.heap.size, 0, none⟩)], .int .i64 ((len - 1 - k : Nat) : Int), .string (bytesOf ((ss[len - 1 - k]?).getD [])), undef, undef, undef, undef, undef, undef, undef, undef], defers := [] }) ?assign ?body ?done
  case hps => intro _; rfl
  case tput =>
    rintro k W l o hl ⟨t1, t2⟩
    refine ⟨(World.putObj_heap_other (by omega)).trans t1, ⟨t2.os, t2.tape, t2.output, by have := t2.size; simp [World.putObj]; omega, fun i hi hn => (World.putObj_heap_other (by omega)).trans (t2.blk i hi hn)⟩⟩
  case tall =>
    rintro k W o ⟨t1, t2⟩
    exact ⟨blk_below t1 (Bel.alloc _ _), t2.trans (BelX.of_bel (Bel.alloc _ _))⟩
  case iter =>
    intro l J hJT hJ W hW
    refine back1_in 5 l W2.heap.size b off len cap ss h30 J (fun k W h => ?_) (fun k W h j hj => ?_) hJ W hW
    · have hx := (hJT k W h).2
      have := hx.blk W2.heap.size (by have := HW.out.2.2; omega) (by omega)
      rw [← HW.out.2.1]
      simp [World.cell?, this]
    · have hx := HW.out.1.trans (hJT k W h).2
      have := hx.blk b (by omega) (by omega)
      rw [← HY.out.1 j hj]
      simp [World.cell?, this]
  case assign =>
    intro l k W K hK
    gi_wp2_with fail
    exact hK
  case body =>
    rintro l k W hk ⟨t1, t2⟩
    have c1 := blk_cell t1 0
    have f1 := blk_frozen t1 0
    have KQ := Lib.hid (HQ.out k hk W (hgw W t2))
    have HT := Lib.hid (And.intro t1 t2)
    clear t1 t2
    gi_wp2_with fail
    refine ⟨trivial, (CallsIn.inRound l (callsIn_wide.2 KQ.out)).mono ?_⟩
    rintro e W' ⟨⟨x, rfl⟩, hb⟩
    have t3 := blk_below HT.out.1 hb
    have c1' := blk_cell t3 0
    have f1' := blk_frozen t3 0
    have HB := Lib.hid hb
    clear hb c1 f1 KQ
    gi_wp2_with fail
    exact ⟨(⟨HB.out.size, fun i o hi _ => (HB.out.block i (blk_lt hi)).trans hi⟩ : KeepsOthers W W').trans (KeepsOthers.setCell _ _ _), setc_blk (i := 0) t3 _, HT.out.2.trans ((BelX.of_bel HB.out).trans (BelX.set w.heap.size W' 0 _))⟩
  case done =>
    rintro D W hD ⟨t1, t2⟩ hK
    have c1 := blk_cell t1 0
    have f1 := blk_frozen t1 0
    have HT := Lib.hid (And.intro t1 t2)
    clear t1 t2
    gi_wp2_with fail
    gi_region
    have hK' : (W.setCell ⟨w.heap.size, 0, none⟩ (.string (bytesOf (q len)))).drew.heap[D]? = some (.deferred (some [])) := (KeepsOthers.setCell W ⟨w.heap.size, 0, none⟩ (.string (bytesOf (q len)))).same D _ hK rfl
    have hb6 : (W.setCell ⟨w.heap.size, 0, none⟩ (.string (bytesOf (q len)))).drew.heap[w.heap.size]? = some (.cells #[.string (bytesOf (q len))] 9 (0, 0)) := setc_blk (i := 0) HT.out.1 _
    have hx6 : BelX w.heap.size W4 (W.setCell ⟨w.heap.size, 0, none⟩ (.string (bytesOf (q len)))).drew := HT.out.2.trans ((BelX.set w.heap.size W 0 _).trans (BelX.of_bel (Bel.drew _)))
    generalize (W.setCell ⟨w.heap.size, 0, none⟩ (.string (bytesOf (q len)))).drew = W6 at *
    gi_wp2_with fail
    refine ⟨by simp, .inl ⟨_, _, rfl, run_takeDeferred hK', ?_⟩⟩
    have hb7 : (W6.putObj D (.deferred none)).heap[w.heap.size]? = some (.cells #[.string (bytesOf (q len))] 9 (0, 0)) := (World.putObj_heap_other (by omega)).trans hb6
    have c7 := blk_cell hb7 0
    refine ⟨.tuple #[.string P, .string (bytesOf (q len)), .int .i64 0], ?_, rfl, W2, HY.out.2.2, hlt2, ?_⟩
    · simp [results, Tryz.f344, go_sem, c7]
    · exact HW.out.1.trans ⟨hx6.os, hx6.tape, hx6.output, by have := hx6.size; simp [World.putObj]; omega, fun i hi hn => (World.putObj_heap_other (by omega)).trans (hx6.blk i hi hn)⟩
end Go.Proofs.YtgpkpheejefiiaaGreatDoor
end
section
set_option linter.unusedVariables false
set_option linter.unusedSimpArgs false
namespace Go.Proofs.YtgpkpheejefiiaaGreatDoor
open Go.RowKit
theorem octsN_ok : ∀ {l : List (List Nat)}, octsN l = true → ∀ s ∈ l, ∀ b ∈ s, b < 256
  | [], _, b, hb => by simp at hb
  | a :: l, h, s, hs => by
    obtain ⟨h1, h2⟩ := aB_true (a := octN a) (b := octsN l) h
    rcases List.mem_cons.1 hs with rfl | hs
    · exact octN_ok h1
    · exact octsN_ok h2 s hs
theorem dblGo_ok {cb : CB} (hcb : CBOK Tryz.prog cb) : ∀ (l : List (List Nat)) (z : List Nat) (k : List Nat → VO) {v : SV} {S' : Tr} {nx' : Nat}, dblGo cb l z k = .val v S' nx' → (∀ b ∈ z, b < 256) → (∀ s ∈ l, ∀ b ∈ s, b < 256) →
    ∃ q : Nat → List Nat, q 0 = z ∧ k (q l.length) = .val v S' nx' ∧ (∀ b ∈ q l.length, b < 256) ∧ ∀ j, j < l.length → ∀ W, GW W →
      Calls Tryz.prog 359 #[.string (bytesOf (q j)), .string (bytesOf ((l[l.length - 1 - j]?).getD []))] W fun e w' => (∃ x, e = .returned (.tuple #[.string (bytesOf (q (j + 1))), x])) ∧ Bel W w'
  | [], z, k, v, S', nx', h, hz, hl => ⟨fun _ => z, rfl, h, hz, fun j hj => by simp at hj⟩
  | s :: l, z, k, v, S', nx', h, hz, hl => by
    have h : dblGo cb l z (fun q' => pure359 cb q' s k) = .val v S' nx' := h
    obtain ⟨q, q0, q1, q2, q3⟩ := dblGo_ok hcb l z _ h hz (fun t ht => hl t (by simp [ht]))
    obtain ⟨t, t1, t2, t3⟩ := pure359_ok hcb q1 q2 (hl s (by simp))
    have hn : ¬ (l.length + 1 ≤ l.length) := by omega
    refine ⟨fun j => if j ≤ l.length then q j else t, by simp [q0], ?_, ?_, fun j hj W hW => ?_⟩
    · show k (if l.length + 1 ≤ l.length then q (l.length + 1) else t) = _
      rw [if_neg hn]; exact t2
    · show ∀ b ∈ (if l.length + 1 ≤ l.length then q (l.length + 1) else t), b < 256
      rw [if_neg hn]; exact t1
    have hj : j < l.length + 1 := by simpa using hj
    show Calls Tryz.prog 359 #[.string (bytesOf (if j ≤ l.length then q j else t)), .string (bytesOf (((s :: l)[l.length + 1 - 1 - j]?).getD []))] W fun e w' => (∃ x, e = .returned (.tuple #[.string (bytesOf (if j + 1 ≤ l.length then q (j + 1) else t)), x])) ∧ Bel W w'
    by_cases hjl : j = l.length
    · subst hjl
      rw [if_pos (Nat.le_refl _), if_neg hn]
      have : l.length + 1 - 1 - l.length = 0 := by omega
      rw [this]
      exact t3 W hW
    · rw [if_pos (by omega), if_pos (by omega)]
      have e : l.length + 1 - 1 - j = (l.length - 1 - j) + 1 := by omega
      rw [e]
      exact q3 j (by omega) W hW
theorem strs_emb {r : Pl} : ∀ {l : List SV} {ss : List (List Nat)} {u : List Value}, strs l = some ss → EmbL r l u → l.length = ss.length ∧ ∀ j, j < ss.length → u[j]? = some (.string (bytesOf ((ss[j]?).getD [])))
  | [], ss, u, h, hu => by
    have h : some ([] : List (List Nat)) = some ss := h
    obtain rfl := Option.some.inj h
    exact ⟨rfl, fun j hj => by simp at hj⟩
  | x :: l, ss, u, h, hu => by
    obtain ⟨m, rfl, h1⟩ := onStr_some h
    obtain ⟨rest, h2, h3⟩ := oB_some h1
    obtain rfl := Option.some.inj h3
    cases hu with
    | cons _ v _ u' a b =>
      obtain ⟨k1, k2⟩ := strs_emb h2 b
      refine ⟨by simp [k1], fun j hj => ?_⟩
      cases j with
      | zero => simpa using a.str_inv.1
      | succ j => simpa using k2 j (by simpa using hj)
theorem kMakeK_ok {cb : CB} (hcb : CBOK Tryz.prog cb) {x : SV} {S : Tr} {nx g o n c0 : Nat} {s : SV} {S' : Tr} {nx' : Nat} (h : kMakeK cb x S nx g o n c0 = .val s S' nx') {r : Pl} {w : World} (hs : Sim r S nx w) (hG : Glob r) {b d cap : Nat} (hr : r g = some (b, d)) (hx : Emb r x (.slice (some ⟨b, o, none⟩) n cap)) :
    CallOK Tryz.prog r w 344 [.slice (some ⟨b, o, none⟩) n cap] s S' nx' := by
  obtain ⟨hc, h1⟩ := vbI h
  obtain ⟨hc1, hc2⟩ := aB_true hc
  have hc1 : 2 ≤ n := Nat.le_of_ble_eq_true hc1
  have hc2 : n ≤ 30 := Nat.le_of_ble_eq_true hc2
  obtain ⟨s1, S1, n1, e1, h2⟩ := vVO h1
  obtain ⟨m, em, h3⟩ := vTup h2
  subst em
  match m, h3, e1 with
  | [.str p, .int k e], h3, e1 =>
    obtain ⟨hke, h4⟩ := vbI h3
    obtain ⟨hk', he'⟩ := aB_true hke
    have hk := kEq_true hk'
    rw [eqI_eq] at he'
    have he : e = 0 := by simpa using he'
    subst hk; subst he
    obtain ⟨s2, S2, n2, e2, h5⟩ := vVO h4
    obtain ⟨hg2, h6⟩ := vbI h5
    obtain ⟨l, hl, h7⟩ := vvB h6
    obtain ⟨hln, h8⟩ := vbI h7
    obtain ⟨ss, hss, h9⟩ := vvB h8
    obtain ⟨z, ez, h10⟩ := vStr h9
    subst ez
    obtain ⟨hok, h11⟩ := vbI h10
    obtain ⟨hz, hok2⟩ := aB_true hok
    obtain ⟨hsv, hpl⟩ := aB_true hok2
    have hpl : lenN p ≤ 1000000 := Nat.le_of_ble_eq_true hpl
    rw [lenN_eq] at hpl
    obtain ⟨q, q0, q1, q2, q3⟩ := dblGo_ok hcb ss z _ h11 (octN_ok hz) (octsN_ok hsv)
    obtain ⟨x1, x2, x3⟩ := vVal q1
    have hb : b < w.heap.size := (hs.dom g b d hr).1
    have hfeet : ∀ k, feet r k → k < w.heap.size := fun k ⟨g', d', e'⟩ => (hs.dom g' k d' e').1
    have hsl : ss.length = n := by
      have : ∀ {l : List SV} {m : List (List Nat)}, strs l = some m → l.length = m.length := by
        intro l
        induction l with
        | nil => intro m h; have h : some ([] : List (List Nat)) = some m := h; obtain rfl := Option.some.inj h; rfl
        | cons y l ih =>
          intro m h
          obtain ⟨m', rfl, h1⟩ := onStr_some h
          obtain ⟨rest, h2, h3⟩ := oB_some h1
          obtain rfl := Option.some.inj h3
          simp [ih h2]
      have h1 := this hss
      rw [takeS_eq, dropS_eq] at h1
      rw [longS_eq] at hln
      have hln : o + n ≤ l.length := of_decide_eq_true hln
      simp at h1
      omega
    have K := makeB w b o n cap ss p z q (fun W2 => ∃ r2, r.le r2 ∧ Sim r2 S2 n2 W2 ∧ Upd (feet r) w (feet r2) W2 ∧ (∀ k, feet r2 k → k ≠ w.heap.size) ∧ ∀ b ∈ p, b < 256) hsl hc1 hc2 hb hpl ?_ q0 (fun k hk W hW => by rw [← hsl] at hk ⊢; exact q3 k hk W hW)
    · refine .inr ⟨enter_run (by kernel_rfl) _ _, K.mono ?_⟩
      rintro e W' ⟨rfl, W2, ⟨r2, a1, a2, a3, a4, a5⟩, hlt, hbx⟩
      rw [hsl] at q2 x1
      refine ⟨r2, _, rfl, a1, ?_, ?_, ?_⟩
      · rw [← x2, ← x3]
        exact ⟨fun g o hg => by
            obtain ⟨b, c, y, k1, k2, k3⟩ := a2.obj g o hg
            exact ⟨b, c, y, k1, (hbx.blk b (blk_lt k2) (a4 b ⟨g, c, k1⟩)).trans k2, k3⟩,
          a2.inj, fun g b c e => by have := a2.dom g b c e; have := hbx.size; omega⟩
      · rw [← x1]
        exact .tup _ _ (.cons _ _ _ _ (.str _ a5) (.cons _ _ _ _ (.str _ q2) (.cons _ _ _ _ (.int _ _) .nil)))
      · exact ⟨hbx.os.trans a3.os, hbx.tape.trans a3.tape, hbx.output.trans a3.output, Nat.le_trans a3.size hbx.size, fun k hk hn => (hbx.blk k (Nat.lt_of_lt_of_le hk a3.size) (by omega)).trans (a3.blk k hk hn), a3.foot⟩
    · intro W hW hWlt
      have hsW : Sim r S nx W := hs.bel hW
      refine ((hcb 247 [x] S nx _ S1 n1 e1 r W [.slice (some ⟨b, o, none⟩) n cap] hsW hG (.cons _ _ _ _ hx .nil)).calls (enter_run (by kernel_rfl) _ _)).mono ?_
      rintro ee W1 ⟨r1, v1, b1, b2, b3, b4, b5⟩
      obtain ⟨u, rfl, hu⟩ := b4.tup_inv
      obtain ⟨u1, u2, rfl, hu1, hu2⟩ := hu.two2
      obtain ⟨rfl, hpv⟩ := hu1.str_inv
      obtain rfl := hu2.int_inv
      have hf1 : ∀ k, feet r1 k → k < w.heap.size ∨ W.heap.size ≤ k := fun k hk => (b5.foot k hk).imp (hfeet k) id
      refine ⟨b1, b5.size, fun k hk1 hk2 => b5.blk k hk2 (fun hf => by have := hfeet k hf; omega), ?_⟩
      have e2' : cb 206 [.int .i64 (Int.ofNat (lenN p))] S1 n1 = .val (.str z) S2 n2 := e2
      rw [lenN_eq] at e2'
      refine ((hcb 206 _ S1 n1 _ S2 n2 e2' r1 W1 [.int .i64 (p.length : Int)] b3 (hG.up b2) (.cons _ _ _ _ (.int _ _) .nil)).calls (enter_run (by kernel_rfl) _ _)).mono ?_
      rintro ee W2 ⟨r2, v2, c1, c2, c3, c4, c5⟩
      obtain ⟨rfl, hzv⟩ := c4.str_inv
      refine ⟨c1, c5.size, fun k hk1 hk2 => c5.blk k (Nat.lt_of_lt_of_le hk2 b5.size) (fun hf => by rcases hf1 k hf with h | h <;> omega), fun j hj => ?_, GW.of_sim c3 ((hG.up b2).up c2) hg2, r2, Pl.le_trans b2 c2, c3, (Upd.of_bel hW).trans (b5.trans c5), ?_, hpv⟩
      · obtain ⟨b', d', vs, m1, m2, m3, m4⟩ := c3.readN hl o n hln
        have := Pl.le_trans b2 c2 g _ hr
        rw [this] at m1
        obtain ⟨rfl, rfl⟩ : b = b' ∧ d = d' := by simpa using m1
        rw [m4 j hj]
        exact (strs_emb hss m2).2 j (by omega)
      · intro k hf e
        subst e
        rcases c5.foot _ hf with h | h
        · rcases hf1 _ h with h | h <;> omega
        · have := b5.size; omega
theorem kn344 : KnOK 344 kMake := by
  intro cb hcb args S nx s S' nx' h r w args' hs hG ha
  obtain ⟨x, rfl, h1⟩ := vA1 h
  obtain ⟨v, rfl, hv⟩ := ha.one1
  cases x <;> first | (simp [SV.onSl] at h1; done) | skip
  · rename_i g o n c
    cases hv with
    | slice _ _ _ _ b d hr hn => exact kMakeK_ok (c0 := c) hcb h1 hs hG hr (.slice g o n c b d hr hn)
  · rename_i g o n j
    cases hv with
    | own _ _ _ _ b d hr hn =>
      have h1 : kMakeK cb (.own g o n j) S nx g o n j = .val s S' nx' := h1
      have h2 : 2 ≤ n := by
        obtain ⟨hc, _⟩ := vbI h1
        exact Nat.le_of_ble_eq_true (aB_true hc).1
      have hx := Emb.own (r := r) g o n j b d hr hn
      rw [if_neg (by omega)] at hx ⊢
      exact kMakeK_ok hcb h1 hs hG hr hx
end Go.Proofs.YtgpkpheejefiiaaGreatDoor
end
