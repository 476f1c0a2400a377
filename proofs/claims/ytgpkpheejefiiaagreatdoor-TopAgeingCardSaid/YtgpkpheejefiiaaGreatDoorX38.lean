/- The law's block of a step: 64 bytes. | The law's script, opened. -/
import Derived.Test.YtgpkpheejefiiaaGreatDoorX30
import Derived.Test.YtgpkpheejefiiaaGreatDoorX31
import Derived.Deep.Slices
import Derived.OpenShut
import Derived.WalkKit
import Derived.ProofKit
section
set_option linter.unusedVariables false
set_option linter.unusedSimpArgs false
namespace Go.Proofs.YtgpkpheejefiiaaGreatDoor
open Go.RowKit
set_option maxRecDepth 100000
theorem heap_alloc2' (w : World) (a b : Obj) : ((w.alloc a).alloc b).heap[w.heap.size + 1]? = some b := by
  have := heap_alloc_new (w.alloc a) b
  rwa [World.size_alloc] at this
theorem conv2 (w : World) (o : Obj) (x y : Int) : (convert 58 9 (.slice (some ⟨w.heap.size + 1, 0, none⟩) 2 2)).run Tryz.prog ((w.alloc o).alloc (.cells #[.int .u8 x, .int .u8 y] 5)).drew = .ok (.string (strOfNums [x, y])) ((w.alloc o).alloc (.cells #[.int .u8 x, .int .u8 y] 5)).drew := by
  refine run_convert_bytes_arg _ 58 5 Tryz.underlying58 Tryz.underlying5 _ 0 2 2 [x, y] rfl ?_ 9 Tryz.underlying9
  intro i hi
  have h : ((w.alloc o).alloc (.cells #[.int .u8 x, .int .u8 y] 5)).drew.heap[w.heap.size + 1]? = some (.cells #[.int .u8 x, .int .u8 y] 5 (0, 0)) := drewH (heap_alloc2' w _ _)
  rcases (by omega : i = 0 ∨ i = 1) with rfl | rfl
  · exact blk_cell h 0
  · exact blk_cell h 1
theorem strOfNums_size (l : List Int) : (strOfNums l).size = l.length := by
  unfold strOfNums
  simp [ByteArray.size]
set_option maxHeartbeats 2000000 in
theorem block12 (w : World) (d a b x : Int) (v : Value) : Calls Tryz.prog 12 #[.agg #[.int .i64 d, .int .i64 a, .int .i64 b, .int .u8 x, v]] w fun e w' => ∃ t : ByteArray, e = .returned (.string t) ∧ t.size = 64 ∧ Bel w w' := by
  have hm := mixedE
  have hcv := conv2 w (.cells #[.int .i64 d, .int .i64 a, .int .i64 b, .int .u8 x, v] 41) x (b % 256)
  have hcw := conv2 w (.cells #[.int .i64 d, .int .i64 a, .int .i64 b, .int .u8 x, v] 41) x (IntKind.u8.wrap b)
  have hsz := strOfNums_size [x, b % 256]
  have hsw := strOfNums_size [x, IntKind.u8.wrap b]
  generalize strOfNums [x, b % 256] = S1 at *
  generalize strOfNums [x, IntKind.u8.wrap b] = S2 at *
  simp only [List.length_cons, List.length_nil, Nat.reduceAdd] at hsz hsw
  go_enter Tryz.func12, Tryz.ntmps12
  go_wp2_with fail
  go_region
  go_wp2_with fail
  go_ret
  refine ⟨_, rfl, ?_, (belA2 w _ _).trans (Bel.drew _)⟩
  rw [ByteArray.size_append, hsz, ByteArray.size_extract]
  rfl
end Go.Proofs.YtgpkpheejefiiaaGreatDoor
end
section
set_option linter.unusedVariables false
set_option linter.unusedSimpArgs false
namespace Go.Proofs.YtgpkpheejefiiaaGreatDoor
open Go.RowKit Go.Deep Go.ChangeShapes Go.WideShapes
set_option maxRecDepth 100000
structure LA where
  a0 : Int
  a1 : Int
  a2 : Int
  a3 : Int
  a4 : Option Addr
  a5 : Nat
  a6 : Nat
def la0 : LA := ⟨0, 0, 0, 0, none, 0, 0⟩
instance : Inhabited LA := ⟨la0⟩
def laAt (l : List LA) (i : Nat) : LA := l.getD i la0
structure LAC1 (w : World) (ad : Addr) (x : LA) : Prop where
  c0 : w.cell? ad = some (.int .i64 x.a0)
  c1 : w.cell? ⟨ad.block, ad.off + 1, none⟩ = some (.int .i64 x.a1)
  c2 : w.cell? ⟨ad.block, ad.off + 2, none⟩ = some (.int .i64 x.a2)
  c3 : w.cell? ⟨ad.block, ad.off + 3, none⟩ = some (.int .u8 x.a3)
  c4 : w.cell? ⟨ad.block, ad.off + 4, none⟩ = some (.slice x.a4 x.a5 x.a6)
/-- The acts in memory. -/
def LAC (w : World) (A : Option Addr) (l : List LA) : Prop := ∀ i, i < l.length → ∃ ad, A = some ad ∧ LAC1 w (ad.add (i * 5)) (laAt l i)
theorem LAC1.bel {w w' : World} {ad : Addr} {x : LA} (h : LAC1 w ad x) (k : Bel w w') : LAC1 w' ad x :=
  ⟨cellB k h.c0, cellB k h.c1, cellB k h.c2, cellB k h.c3, cellB k h.c4⟩
theorem cells41 : Tryz.prog.cellsOf 41 = 5 := by kernel_rfl
theorem cellsZ3 : Tryz.prog.cellsOf 3 = 1 := by kernel_rfl
theorem cellsZ39 : Tryz.prog.cellsOf 39 = 1 := by kernel_rfl
theorem cellsZ5 : Tryz.prog.cellsOf 5 = 1 := by kernel_rfl
theorem open_las {H : Type} {enc : TypeId × Value → H} {W : World} {base : Nat} {sp : Nat → Bool} {hd : Bool} {fuel : Nat} {v : Value} {x : DataW H × List MemPlace}
    (h : DataW.trod enc Tryz.prog W base sp hd fuel 24 [v] = some x) : ∃ (A : Option Addr) (c : Nat) (l : List LA), v = .slice A l.length c ∧ l.length ≤ c ∧ LAC W A l := by
  rcases open_slice Tryz.underlying24 h with ⟨h1, h2⟩ | ⟨a, len, cap, m, n, D, Pl, h1, hb, hl, hm, hmm, hx, hc⟩
  · simp only [List.cons.injEq, and_true] at h1
    exact ⟨none, 0, [], h1, Nat.le_refl _, fun i hi => by simp at hi⟩
  · simp only [List.cons.injEq, and_true] at h1
    have hlm : len ≤ m := by rw [hmm]; split <;> omega
    have each : ∀ i, i < len → ∃ p : LA, LAC1 W (a.add (i * 5)) p := by
      intro i hi
      obtain ⟨cs', h1, h2⟩ := hc i (by omega)
      rw [cells41] at h1
      obtain ⟨_, hlen, hcell⟩ := World.cells?_some h1
      obtain ⟨xs, k, hk, hxy, _, hxl, hf⟩ := DataW.trod_struct Tryz.underlying41 h2
      clear hk
      match cs', hlen, hcell, hf with
      | [v0, v1, v2, v3, v4], _, hcell, hf =>
        have g0 := hf 0 _ rfl
        have g1 := hf 1 _ rfl
        have g2 := hf 2 _ rfl
        have g3 := hf 3 _ rfl
        have g4 := hf 4 _ rfl
        simp [cellsZ3, cellsZ5, cellsZ39] at g0 g1 g2 g3 g4
        have hxs : xs.length = 5 := by rw [hxl]; rfl
        match xs, hxs, g0, g1, g2, g3, g4 with
        | [y0, y1, y2, y3, y4], _, g0, g1, g2, g3, g4 =>
          have e0 := hcell 0 (by omega)
          obtain ⟨n0, q0, _, w0⟩ := DataW.trod_int Tryz.underlying3 g0
          simp only [List.cons.injEq, and_true] at q0
          rw [q0] at e0
          have e1 := hcell 1 (by omega)
          obtain ⟨n1, q1, _, w1⟩ := DataW.trod_int Tryz.underlying3 g1
          simp only [List.cons.injEq, and_true] at q1
          rw [q1] at e1
          have e2 := hcell 2 (by omega)
          obtain ⟨n2, q2, _, w2⟩ := DataW.trod_int Tryz.underlying3 g2
          simp only [List.cons.injEq, and_true] at q2
          rw [q2] at e2
          have e3 := hcell 3 (by omega)
          obtain ⟨n3, q3, _, w3⟩ := DataW.trod_int Tryz.underlying5 g3
          simp only [List.cons.injEq, and_true] at q3
          rw [q3] at e3
          have e4 := hcell 4 (by omega)
          obtain ⟨A4, n4, c4, q4⟩ : ∃ A n c, v4 = .slice A n c := by
            rcases open_slice Tryz.underlying39 g4 with ⟨h1, _⟩ | ⟨a, len, cap, m, n, D, Pl, h1, _⟩
            · simp only [List.cons.injEq, and_true] at h1
              exact ⟨none, 0, 0, h1⟩
            · simp only [List.cons.injEq, and_true] at h1
              exact ⟨_, _, _, h1⟩
          rw [q4] at e4
          simp [Addr.add] at e0 e1 e2 e3 e4 ⊢
          exact ⟨⟨n0, n1, n2, n3, A4, n4, c4⟩, e0, e1, e2, e3, e4⟩
    obtain ⟨f, hf⟩ := choose_lt each
    have hll : ((List.range len).map f).length = len := by simp
    refine ⟨some a, cap, (List.range len).map f, by rw [h1, hll], by rw [hll]; exact hl, ?_⟩
    intro i hi
    rw [hll] at hi
    refine ⟨a, rfl, ?_⟩
    have e : laAt ((List.range len).map f) i = f i := by unfold laAt; rw [List.getD_eq_getElem?_getD, List.getElem?_map, List.getElem?_range hi]; rfl
    rw [e]
    exact hf i hi
end Go.Proofs.YtgpkpheejefiiaaGreatDoor
end
