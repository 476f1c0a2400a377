/- A new turn, a new cache. | A new planner; worlds that are kept but for a foot. -/
import Derived.Test.YtgpkpheejefiiaaGreatDoorX28
import Derived.WideMake
section
set_option linter.unusedVariables false
set_option linter.unusedSimpArgs false
namespace Go.Proofs.YtgpkpheejefiiaaGreatDoor
open Go.RowKit
set_option maxRecDepth 100000
set_option maxHeartbeats 2000000 in
theorem newT (w : World) (most limit : Int) (h1 : 1 ≤ most) (h2 : most ≤ 64) (h3 : 0 ≤ limit) (h4 : limit < most) :
    Calls Tryz.prog 145 #[.int .i64 most, .int .i64 limit] w fun e w' => e = .returned (.tuple #[PTR (w.heap.size + 1), .int .i64 0]) ∧ w' = (w.alloc (.map #[] 0)).alloc (.cells #[.int .i64 most, .int .i64 limit, .slice none 0 0, .slice none 0 0, .map (some w.heap.size)] 287) := by
  have d1 : decide (most < 1) = false := decide_eq_false (by omega)
  have d2 : decide (most > 64) = false := decide_eq_false (by omega)
  have d2' : decide (64 < most) = false := decide_eq_false (by omega)
  have d3 : decide (limit < 0) = false := decide_eq_false (by omega)
  have d4 : decide (limit ≥ most) = false := decide_eq_false (by omega)
  have d4' : decide (most ≤ limit) = false := decide_eq_false (by omega)
  have hmm := fun w => run_makeMap_plain (P := Tryz.prog) (w := w) 285
  go_enter Tryz.func145, Tryz.ntmps145
  go_wp2_with fail
  go_ret2
  refine ⟨by simp, rfl⟩
/-- A new turn, a new cache. -/
theorem isC_new {w w' : World} {base : Nat} {g : Nat} (limit : Int) (n : Nat) (hb : base ≤ w.heap.size) (h0 : 0 ≤ limit) (h2 : 2 ≤ n) (h5 : n ≤ 5) (m1 m2 gt gc : Nat) (l1 : base ≤ m1) (l2 : base ≤ m2) (l3 : base ≤ gt) (hne : m2 ≠ m1)
    (e1 : w'.heap[m1]? = some (.map #[] 0)) (e2 : w'.heap[gt]? = some (.cells #[.int .i64 6, .int .i64 limit, .slice none 0 0, .slice none 0 0, .map (some m1)] 287 (0, 0))) (e3 : w'.heap[m2]? = some (.map #[] 0))
    (e4 : w'.heap[gc]? = some (.cells #[PTR gt, .int .i64 n, .map (some m2)] 197 (0, 0))) :
    IsC w' base ⟨gc, ⟨gt, .slice none 0 0, .slice none 0 0, m1⟩, m2⟩ ⟨⟨6, limit, [], []⟩, [], n⟩ :=
  ⟨⟨e4, ⟨e2, Enc.Row.nil _ _, Enc.Row.nil _ _, fun k hk => by simp [ownF, Value.ownBlock] at hk, by simp, by simp⟩, ⟨[], RM.made e1⟩, RM.made e3, by simp, hne, l3, l2, l1⟩,
    ⟨by simp, by simp, by simp, by simp, rfl, h0, h2, h5⟩⟩
theorem heapB (w : World) (a b c d : Obj) : ((((w.alloc a).alloc b).alloc c).alloc d).heap[w.heap.size]? = some a ∧ ((((w.alloc a).alloc b).alloc c).alloc d).heap[w.heap.size + 1]? = some b ∧ ((((w.alloc a).alloc b).alloc c).alloc d).heap[w.heap.size + 2]? = some c ∧ ((((w.alloc a).alloc b).alloc c).alloc d).heap[w.heap.size + 3]? = some d := by
  have h := heapA w a b c
  have hs : (((w.alloc a).alloc b).alloc c).heap.size = w.heap.size + 3 := by simp
  refine ⟨?_, ?_, ?_, ?_⟩
  · exact (Below.heap_alloc _ _ _ (by rw [hs]; omega)).trans h.1
  · exact (Below.heap_alloc _ _ _ (by rw [hs]; omega)).trans h.2.1
  · exact (Below.heap_alloc _ _ _ (by rw [hs]; omega)).trans h.2.2
  · have := heap_alloc_new (((w.alloc a).alloc b).alloc c) d
    rwa [hs] at this
set_option maxHeartbeats 2000000 in
theorem newC (w : World) (base : Nat) (rows limit : Int) (n : Nat) (hb : base ≤ w.heap.size) (h0 : 1 ≤ rows) (h1 : rows ≤ 64) (h3 : 0 ≤ limit) (h4 : limit < rows) (h2 : 2 ≤ n) (h5 : n ≤ 5) :
    Calls Tryz.prog 84 #[.int .i64 rows, .int .i64 limit, .int .i64 n] w fun e w' => ∃ a, e = .returned (.tuple #[PTR a.g, .int .i64 0]) ∧ (rows = 6 → IsC w' base a ⟨⟨6, limit, [], []⟩, [], n⟩) ∧ Bel w w' ∧ w.heap.size ≤ a.m ∧ w.heap.size ≤ a.t.mp := by
  have K := Lib.hid (newT w rows limit h0 h1 h3 h4)
  have HH := Lib.hid (And.intro h3 (And.intro h2 h5))
  have d1 : decide ((n : Int) < 2) = false := decide_eq_false (by omega)
  have d2 : decide ((n : Int) > 30) = false := decide_eq_false (by omega)
  have d2' : decide (30 < (n : Int)) = false := decide_eq_false (by omega)
  have hmm := fun w => run_makeMap_plain (P := Tryz.prog) (w := w) 195
  clear h0 h1 h3 h4 h2 h5
  go_enter Tryz.func84, Tryz.ntmps84
  go_wp2_with fail
  refine K.out.mono ?_
  rintro e w1 ⟨rfl, rfl⟩
  go_wp2_with fail
  go_ret2
  obtain ⟨q1, q2, q3, q4⟩ := heapB w (.map #[] 0) (.cells #[.int .i64 rows, .int .i64 limit, .slice none 0 0, .slice none 0 0, .map (some w.heap.size)] 287) (.map #[] 0) (.cells #[PTR (w.heap.size + 1), .int .i64 n, .map (some (w.heap.size + 2))] 197)
  refine ⟨⟨w.heap.size + 3, ⟨w.heap.size + 1, .slice none 0 0, .slice none 0 0, w.heap.size⟩, w.heap.size + 2⟩, ?_, fun hr => ?_, ?_, ?_, ?_⟩
  · rfl
  · subst hr
    exact isC_new (w := w) (g := 0) limit n hb HH.out.1 HH.out.2.1 HH.out.2.2 w.heap.size (w.heap.size + 2) (w.heap.size + 1) (w.heap.size + 3) hb (by omega) (by omega) (by omega) q1 q2 q3 q4
  · exact (((Bel.alloc w _).trans (Bel.alloc _ _)).trans (Bel.alloc _ _)).trans (Bel.alloc _ _)
  · exact Nat.le_add_right _ _
  · exact Nat.le_refl _
abbrev OV (q age rows dear ahead : Int) : Value := .agg #[.int .i64 q, .int .i64 age, .int .i64 rows, .int .i64 dear, .int .i64 ahead]
structure OOK (q age rows dear ahead : Int) : Prop where
  q1 : 1 ≤ q
  q2 : q ≤ 256
  a1 : 1 ≤ age
  a2 : age ≤ 65536
  r1 : 1 ≤ rows
  r2 : rows ≤ 64
  d1 : 0 ≤ dear
  d2 : dear < rows
  h1 : 0 ≤ ahead
  h2 : ahead ≤ 64
theorem size271 (w : World) : (sizeOf 271).run Tryz.prog w = .ok 3 w := by
  have h : (Tryz.prog.info? 271).map (fun i => i.size) = some 3 := by kernel_rfl
  cases hi : Tryz.prog.info? 271 with
  | none => rw [hi] at h; simp at h
  | some i => rw [hi] at h; simp at h; simp [sizeOf, typeInfo, hi, h]
theorem part271 (cs : Array Value) (o : Nat) (w : World) : (part 271 cs o).run Tryz.prog w = .ok (.agg (cs.extract o (o + 3))) w := by
  simp [part, run_underlying Tryz.underlying271, size271]
theorem idx272 (q age rows dear ahead : Int) (w : World) :
    (Instr.index 272 (.agg #[.int .i64 q, .int .i64 1, .int .i64 256, .int .i64 age, .int .i64 1, .int .i64 65536, .int .i64 rows, .int .i64 1, .int .i64 64, .int .i64 dear, .int .i64 0, .int .i64 (rows - 1), .int .i64 ahead, .int .i64 0, .int .i64 64]) (.int .i64 0)).run Tryz.prog w = .ok (.agg #[.int .i64 q, .int .i64 1, .int .i64 256]) w ∧
    (Instr.index 272 (.agg #[.int .i64 q, .int .i64 1, .int .i64 256, .int .i64 age, .int .i64 1, .int .i64 65536, .int .i64 rows, .int .i64 1, .int .i64 64, .int .i64 dear, .int .i64 0, .int .i64 (rows - 1), .int .i64 ahead, .int .i64 0, .int .i64 64]) (.int .i64 1)).run Tryz.prog w = .ok (.agg #[.int .i64 age, .int .i64 1, .int .i64 65536]) w ∧
    (Instr.index 272 (.agg #[.int .i64 q, .int .i64 1, .int .i64 256, .int .i64 age, .int .i64 1, .int .i64 65536, .int .i64 rows, .int .i64 1, .int .i64 64, .int .i64 dear, .int .i64 0, .int .i64 (rows - 1), .int .i64 ahead, .int .i64 0, .int .i64 64]) (.int .i64 2)).run Tryz.prog w = .ok (.agg #[.int .i64 rows, .int .i64 1, .int .i64 64]) w ∧
    (Instr.index 272 (.agg #[.int .i64 q, .int .i64 1, .int .i64 256, .int .i64 age, .int .i64 1, .int .i64 65536, .int .i64 rows, .int .i64 1, .int .i64 64, .int .i64 dear, .int .i64 0, .int .i64 (rows - 1), .int .i64 ahead, .int .i64 0, .int .i64 64]) (.int .i64 3)).run Tryz.prog w = .ok (.agg #[.int .i64 dear, .int .i64 0, .int .i64 (rows - 1)]) w ∧
    (Instr.index 272 (.agg #[.int .i64 q, .int .i64 1, .int .i64 256, .int .i64 age, .int .i64 1, .int .i64 65536, .int .i64 rows, .int .i64 1, .int .i64 64, .int .i64 dear, .int .i64 0, .int .i64 (rows - 1), .int .i64 ahead, .int .i64 0, .int .i64 64]) (.int .i64 4)).run Tryz.prog w = .ok (.agg #[.int .i64 ahead, .int .i64 0, .int .i64 64]) w := by
  refine ⟨?_, ?_, ?_, ?_, ?_⟩ <;> simp [Instr.index, run_underlying Tryz.underlying272, asIntOf, size271, part271]
set_option maxHeartbeats 2000000 in
theorem good81 (w : World) (q age rows dear ahead : Int) (h : OOK q age rows dear ahead) : Calls Tryz.prog 81 #[OV q age rows dear ahead] w fun e w' => e = .returned (.bool true) ∧ Bel w w' := by
  obtain ⟨q1, q2, a1, a2, r1, r2, d1, d2, h1, h2⟩ := h
  have hw : IntKind.i64.wrap (rows - 1) = rows - 1 := w64i (by omega) (by omega)
  have c1 : decide (q < 1) = false := decide_eq_false (by omega)
  have c2 : decide (q > 256) = false := decide_eq_false (by omega)
  have c2' : decide (256 < q) = false := decide_eq_false (by omega)
  have c3 : decide (age < 1) = false := decide_eq_false (by omega)
  have c4 : decide (age > 65536) = false := decide_eq_false (by omega)
  have c4' : decide (65536 < age) = false := decide_eq_false (by omega)
  have c5 : decide (rows < 1) = false := decide_eq_false (by omega)
  have c6 : decide (rows > 64) = false := decide_eq_false (by omega)
  have c6' : decide (64 < rows) = false := decide_eq_false (by omega)
  have c7 : decide (dear < 0) = false := decide_eq_false (by omega)
  have c8 : decide (dear > rows - 1) = false := decide_eq_false (by omega)
  have c8' : decide (rows - 1 < dear) = false := decide_eq_false (by omega)
  have c9 : decide (ahead < 0) = false := decide_eq_false (by omega)
  have cx : decide (ahead > 64) = false := decide_eq_false (by omega)
  have cx' : decide (64 < ahead) = false := decide_eq_false (by omega)
  have hi := idx272 q age rows dear ahead
  have i0 := fun w => (hi w).1
  have i1 := fun w => (hi w).2.1
  have i2 := fun w => (hi w).2.2.1
  have i3 := fun w => (hi w).2.2.2.1
  have i4 := fun w => (hi w).2.2.2.2
  clear hi
  go_enter Tryz.func81, Tryz.ntmps81
  go_wp2_with fail
  go_rounds 6
  go_ret
  exact ⟨rfl, by repeat (first | exact Bel.refl _ | refine Bel.trans ?_ (Bel.alloc _ _))⟩
end Go.Proofs.YtgpkpheejefiiaaGreatDoor
end
section
set_option linter.unusedVariables false
set_option linter.unusedSimpArgs false
namespace Go.Proofs.YtgpkpheejefiiaaGreatDoor
open Go.RowKit
set_option maxRecDepth 100000
/-- Nothing has changed but for a foot. -/
structure Kf (F : Nat → Prop) (w w' : World) : Prop where
  os : w'.os = w.os
  tape : w'.tape = w.tape
  output : w'.output = w.output
  size : w.heap.size ≤ w'.heap.size
  blk : ∀ k, k < w.heap.size → ¬ F k → w'.heap[k]? = w.heap[k]?
theorem Kf.of_bel {F : Nat → Prop} {w w' : World} (h : Bel w w') : Kf F w w' := ⟨h.os, h.tape, h.output, h.size, fun k hk _ => h.block k hk⟩
theorem Kf.refl (F : Nat → Prop) (w : World) : Kf F w w := Kf.of_bel (Bel.refl w)
theorem Kf.trans {F : Nat → Prop} {a b c : World} (h : Kf F a b) (k : Kf F b c) : Kf F a c :=
  ⟨k.os.trans h.os, k.tape.trans h.tape, k.output.trans h.output, Nat.le_trans h.size k.size, fun i hi hF => (k.blk i (Nat.lt_of_lt_of_le hi h.size) hF).trans (h.blk i hi hF)⟩
theorem Kf.of_upd {F F' : Nat → Prop} {w w' : World} (h : Upd F w F' w') : Kf F w w' := ⟨h.os, h.tape, h.output, h.size, h.blk⟩
theorem Kf.drew {F : Nat → Prop} (w : World) : Kf F w w.drew := Kf.of_bel (Bel.drew w)
theorem Kf.alloc {F : Nat → Prop} (w : World) (o : Obj) : Kf F w (w.alloc o) := Kf.of_bel (Bel.alloc w o)
theorem Kf.keep {F : Nat → Prop} {w w' : World} (h : Kf F w w') {k : Nat} {o : Obj} (hk : w.heap[k]? = some o) (hF : ¬ F k) : w'.heap[k]? = some o := (h.blk k (blk_lt hk) hF).trans hk
theorem part156 (cs : Array Value) (o : Nat) (w : World) : (part 156 cs o).run Tryz.prog w = .ok (.agg (cs.extract o (o + 2))) w := by
  have h : (Tryz.prog.info? 156).map (fun i => i.size) = some 2 := by kernel_rfl
  have hs : (sizeOf 156).run Tryz.prog w = .ok 2 w := by
    cases hi : Tryz.prog.info? 156 with
    | none => rw [hi] at h; simp at h
    | some i => rw [hi] at h; simp at h; simp [sizeOf, typeInfo, hi, h]
  simp [part, run_underlying Tryz.underlying156, hs]
theorem size156 (w : World) : (sizeOf 156).run Tryz.prog w = .ok 2 w := by
  have h : (Tryz.prog.info? 156).map (fun i => i.size) = some 2 := by kernel_rfl
  cases hi : Tryz.prog.info? 156 with
  | none => rw [hi] at h; simp at h
  | some i => rw [hi] at h; simp at h; simp [sizeOf, typeInfo, hi, h]
theorem idx275 (a b c : Int) (w : World) :
    (Instr.index 275 (.agg #[.int .i64 a, .int .i64 1099511627776, .int .i64 b, .int .i64 32, .int .i64 c, .int .i64 64]) (.int .i64 0)).run Tryz.prog w = .ok (.agg #[.int .i64 a, .int .i64 1099511627776]) w ∧
    (Instr.index 275 (.agg #[.int .i64 a, .int .i64 1099511627776, .int .i64 b, .int .i64 32, .int .i64 c, .int .i64 64]) (.int .i64 1)).run Tryz.prog w = .ok (.agg #[.int .i64 b, .int .i64 32]) w ∧
    (Instr.index 275 (.agg #[.int .i64 a, .int .i64 1099511627776, .int .i64 b, .int .i64 32, .int .i64 c, .int .i64 64]) (.int .i64 2)).run Tryz.prog w = .ok (.agg #[.int .i64 c, .int .i64 64]) w := by
  refine ⟨?_, ?_, ?_⟩ <;> simp [Instr.index, run_underlying Tryz.underlying275, asIntOf, size156, part156]
set_option maxHeartbeats 2000000 in
theorem newA (w : World) (a b c : Int) (ha : 1 ≤ a) (ha2 : a ≤ 1000) (hb : 1 ≤ b) (hb2 : b ≤ 32) (hc : 1 ≤ c) (hc2 : c ≤ 64) (u : Array Value) (hu : u.size = 4) (hG : w.heap[0]? = some (.cells u 258 (0, 0))) :
    Calls Tryz.prog 85 #[.int .i64 a, .int .i64 b, .int .i64 c] w fun e w' => ∃ p, e = .returned (.tuple #[PTR p, .int .i64 0]) ∧ Bel w w' := by
  obtain ⟨u0, u1, u2, u3, rfl⟩ : ∃ u0 u1 u2 u3, u = #[u0, u1, u2, u3] := by
    obtain ⟨l⟩ := u
    match l, hu with
    | [a, b, c, d], _ => exact ⟨a, b, c, d, rfl⟩
  have hz : 0 < w.heap.size := blk_lt hG
  have g0 := fun w1 (h : Bel w w1) => blk_cell (blk_below hG h)
  have i0 := fun w => (idx275 a b c w).1
  have i1 := fun w => (idx275 a b c w).2.1
  have i2 := fun w => (idx275 a b c w).2.2
  have c1 : decide (a < 1) = false := decide_eq_false (by omega)
  have c2 : decide (a > 1099511627776) = false := decide_eq_false (by omega)
  have c2' : decide (1099511627776 < a) = false := decide_eq_false (by omega)
  have c3 : decide (b < 1) = false := decide_eq_false (by omega)
  have c4 : decide (b > 32) = false := decide_eq_false (by omega)
  have c4' : decide (32 < b) = false := decide_eq_false (by omega)
  have c5 : decide (c < 1) = false := decide_eq_false (by omega)
  have c6 : decide (c > 64) = false := decide_eq_false (by omega)
  have c6' : decide (64 < c) = false := decide_eq_false (by omega)
  have k0 := blk_cell hG 0
  have k1 := blk_cell hG 1
  have k2 := blk_cell hG 2
  have k3 := blk_cell hG 3
  clear ha ha2 hb hb2 hc hc2 hG
  go_enter Tryz.func85, Tryz.ntmps85
  go_wp2_with fail
  go_rounds 4
  go_ret2
  exact ⟨_, rfl, by repeat (first | exact Bel.refl _ | refine Bel.trans ?_ (Bel.alloc _ _))⟩
end Go.Proofs.YtgpkpheejefiiaaGreatDoor
end
