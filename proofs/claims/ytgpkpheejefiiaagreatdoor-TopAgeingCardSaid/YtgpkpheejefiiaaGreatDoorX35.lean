/- The law's small functions: sizes, options. | The law begins: an array is made and opened. -/
import Derived.Test.YtgpkpheejefiiaaGreatDoorX30
import Derived.Lib.MinMax
import Derived.Test.YtgpkpheejefiiaaGreatDoorX34
section
set_option linter.unusedVariables false
set_option linter.unusedSimpArgs false
namespace Go.Proofs.YtgpkpheejefiiaaGreatDoor
open Go.RowKit
set_option maxRecDepth 100000
theorem info31 : (Tryz.prog.info? 31).map (·.size) = some 2 := by kernel_rfl
theorem info29 : (Tryz.prog.info? 29).map (·.size) = some 5 := by kernel_rfl
abbrev SV7 (x0 x1 x2 x3 x4 x5 x6 : Int) : Value := .agg #[.int .i64 x0, .int .i64 x1, .int .i64 x2, .int .i64 x3, .int .i64 x4, .int .i64 x5, .int .i64 x6]
theorem modr (x n : Int) (hn : 0 < n) : ∃ u r : Int, max 0 x = u ∧ 0 ≤ u ∧ u.tmod n = r ∧ u % n = r ∧ 0 ≤ r ∧ r < n :=
  ⟨max 0 x, (max 0 x) % n, rfl, by omega, Int.tmod_eq_emod_of_nonneg (by omega), rfl, Int.emod_nonneg _ (by omega), Int.emod_lt_of_pos _ hn⟩
theorem heap_alloc2 (w : World) (a b : Obj) : ((w.alloc a).alloc b).heap[w.heap.size + 1]? = some b := by
  have := heap_alloc_new (w.alloc a) b
  rwa [World.size_alloc] at this
set_option maxHeartbeats 2000000 in
theorem sizes29 (x0 x1 x2 x3 x4 x5 x6 : Int) : ∃ m s, GOK m s ∧ ∀ w, Calls Tryz.prog 29 #[SV7 x0 x1 x2 x3 x4 x5 x6] w fun e w' => e = .returned (GV m s) ∧ Bel w w' := by
  obtain ⟨u0, r0, e0, h0, t0, m0, a0, b0⟩ := modr x0 4 (by omega)
  obtain ⟨u1, r1, e1, h1, t1, m1, a1, b1⟩ := modr x1 6 (by omega)
  refine ⟨4 + r0, 1 + r1, ⟨by omega, by omega, by omega, by omega⟩, fun w => ?_⟩
  have w0 : IntKind.i64.wrap (4 + r0) = 4 + r0 := w64i (by omega) (by omega)
  have w1 : IntKind.i64.wrap (1 + r1) = 1 + r1 := w64i (by omega) (by omega)
  go_enter Tryz.func29, Tryz.ntmps29
  go_wp2_with fail
  refine bodyPost_ret (res_c rfl _ _ (w.heap.size + 1) 31 _ (0, 0) _ rfl (heap_alloc2 w _ _) Tryz.underlying31 rfl info31) rfl ?_
  exact ⟨rfl, belA2 w _ _⟩
set_option maxHeartbeats 4000000 in
theorem options30 (x0 x1 x2 x3 x4 x5 x6 : Int) : ∃ q age rows dear ahead, OOK q age rows dear ahead ∧ dear < 6 ∧ age ≤ 8 ∧ ∀ w, Calls Tryz.prog 30 #[SV7 x0 x1 x2 x3 x4 x5 x6] w fun e w' => e = .returned (OV q age rows dear ahead) ∧ Bel w w' := by
  obtain ⟨u4, r4, e4, h4, t4, m4, a4, b4⟩ := modr x4 4 (by omega)
  obtain ⟨u2, r2, e2, h2, t2, m2, a2, b2⟩ := modr x2 6 (by omega)
  obtain ⟨u3, r3, e3, h3, t3, m3, a3, b3⟩ := modr x3 8 (by omega)
  obtain ⟨u5, r5, e5, h5, t5, m5, a5, b5⟩ := modr x5 (1 + r4) (by omega)
  obtain ⟨u6, r6, e6, h6, t6, m6, a6, b6⟩ := modr x6 8 (by omega)
  refine ⟨1 + r2, 1 + r3, 1 + r4, r5, r6, ⟨by omega, by omega, by omega, by omega, by omega, by omega, by omega, by omega, by omega, by omega⟩, by omega, by omega, fun w => ?_⟩
  have w2 : IntKind.i64.wrap (1 + r2) = 1 + r2 := w64i (by omega) (by omega)
  have w3 : IntKind.i64.wrap (1 + r3) = 1 + r3 := w64i (by omega) (by omega)
  have w4 : IntKind.i64.wrap (1 + r4) = 1 + r4 := w64i (by omega) (by omega)
  have w5 : IntKind.i64.wrap r5 = r5 := w64i (by omega) (by omega)
  have hz : (1 + r4 = 0) = False := eq_false (by omega)
  clear a2 b2 a3 b3 a4 b4 a5 b5 a6 b6
  have hm := mixedE
  go_enter Tryz.func30, Tryz.ntmps30
  go_wp2_with fail
  go_region
  go_wp2_with fail
  refine bodyPost_ret (res_c rfl _ _ (w.heap.size + 1) 29 _ (0, 0) _ rfl (drewH (heap_alloc2 w _ _)) Tryz.underlying29 rfl info29) rfl ?_
  exact ⟨rfl, (belA2 w _ _).trans (Bel.drew _)⟩
end Go.Proofs.YtgpkpheejefiiaaGreatDoor
end
section
set_option linter.unusedVariables false
set_option linter.unusedSimpArgs false
namespace Go.Proofs.YtgpkpheejefiiaaGreatDoor
open Go.RowKit
set_option maxRecDepth 100000
abbrev F01 : Nat → Prop := fun k => k ≤ 1
theorem Kf.mono {F G : Nat → Prop} {w w' : World} (h : Kf F w w') (hFG : ∀ k, k < w.heap.size → F k → G k) : Kf G w w' := ⟨h.os, h.tape, h.output, h.size, fun k hk hG => h.blk k hk fun hF => hG (hFG k hk hF)⟩
theorem feet_rG {k : Nat} (h : feet rG k) : k ≤ 1 := by
  obtain ⟨g, c, e⟩ := h
  unfold rG at e
  split at e
  · simp at e; omega
  · simp at e
theorem GW.two {w : World} (h : GW w) : 2 ≤ w.heap.size := by
  obtain ⟨m, _, e⟩ := h.g1
  have := blk_lt e
  omega
theorem GW.ys {w : World} (h : GW w) (base : Nat) : YS base rG T00 3 rG w := ⟨Pl.le_refl _, h.sim.1, h.sim.2, fun k hk => .inl (feet_rG hk)⟩
structure N3 (F : Nat → Prop) (w W : World) (g4 wb b bay : Nat) (r1 : Pl) (S1 : Tr) (n1 : Nat) (m s q age rows dear ahead : Int) (X : World) : Prop where
  kf : Kf F W X
  y : YS w.heap.size rG S1 n1 r1 X
  bw : X.heap[wb]? = some (.cells (wCells m s q age rows dear ahead (PTR bay) (.pointer none) (.slice none 0 0)) 36 (0, 0))
  bg : X.heap[g4]? = some (.cells #[.int .i64 m, .int .i64 s] 31 (0, 0))
  lt : g4 < wb
  f1 : ¬ feet r1 wb
  f2 : ¬ feet r1 g4
  rb : ∃ c, r1 b = some (bay, c)
structure N4 (F : Nat → Prop) (w X : World) (g4 wb b bay : Nat) (r1 r2 : Pl) (S2 : Tr) (n2 : Nat) (m s q age rows dear ahead : Int) (want : Value) (Z : World) : Prop where
  kf : Kf F X Z
  y : YS w.heap.size r1 S2 n2 r2 Z
  bw : Z.heap[wb]? = some (.cells (wCells m s q age rows dear ahead (PTR bay) (.pointer none) want) 36 (0, 0))
  bg : Z.heap[g4]? = some (.cells #[.int .i64 m, .int .i64 s] 31 (0, 0))
  f1 : ¬ feet r2 wb
  f2 : ¬ feet r2 g4
  rb : ∃ c, r2 b = some (bay, c)
def KS9 : Enc ByteArray := ⟨fun x => [.string x], 1, 9, fun _ => rfl, fun p u hu => by simp at hu; subst hu; rfl, by decide, ⟨#[]⟩⟩
theorem reads9 {w : World} {base : Nat} {v : Value} {l : List ByteArray} (h : KS9.Row w base v l) : ∃ A c, v = .slice A l.length c ∧ l.length ≤ c ∧ True := by
  obtain ⟨hl, ⟨rfl, h0⟩ | ⟨g, cap, cur, rfl, hb, hg, hn, hc, hs, hx⟩⟩ := h
  · exact ⟨none, 0, by rw [h0], by omega, trivial⟩
  · exact ⟨_, _, rfl, hn, trivial⟩
theorem info9 : (Tryz.prog.info? 9).map (fun i => (i.zero, i.size, i.bytes)) = some (some (.string ⟨#[]⟩), 1, 16) := by kernel_rfl
theorem YS.agree {base : Nat} {q : Pl} {S : Tr} {n : Nat} {r : Pl} {w w' : World} (h : YS base q S n r w) (hz : w.heap.size ≤ w'.heap.size) (ha : ∀ k, feet r k → w'.heap[k]? = w.heap[k]?) : YS base q S n r w' :=
  ⟨h.le, ⟨fun g o hg => by
    obtain ⟨b, c, y, h1, h2, h3⟩ := h.sim.obj g o hg
    exact ⟨b, c, y, h1, (ha b ⟨g, c, h1⟩).trans h2, h3⟩, h.sim.inj, fun g b c e => let ⟨h1, h2⟩ := h.sim.dom g b c e; ⟨by omega, h2⟩⟩, h.gl, h.ft⟩
structure N5 (Z w : World) (g4 wb b bay : Nat) (r1 r2 : Pl) (S2 : Tr) (n2 : Nat) (m s q age rows dear ahead : Int) (k : Nat) (U : World) : Prop where
  sz : Z.heap.size ≤ U.heap.size
  blk : ∀ j, j < Z.heap.size → j ≠ wb → U.heap[j]? = Z.heap[j]?
  io : U.os = Z.os ∧ U.tape = Z.tape ∧ U.output = Z.output
  y : YS w.heap.size r1 S2 n2 r2 U
  wt : ∃ vw l, U.heap[wb]? = some (.cells (wCells m s q age rows dear ahead (PTR bay) (.pointer none) vw) 36 (0, 0)) ∧ l.length = k ∧ KS9.Row U Z.heap.size vw l
theorem N5.next {Z w : World} {F : Nat → Prop} {X : World} {g4 wb b bay : Nat} {r1 r2 : Pl} {S2 : Tr} {n2 : Nat} {m s q age rows dear ahead : Int} {k : Nat} {wi w3 : World} {vw v3 : Value} {l : List ByteArray} {x : ByteArray}
    (h : N5 Z w g4 wb b bay r1 r2 S2 n2 m s q age rows dear ahead k wi) (bw : wi.heap[wb]? = some (.cells (wCells m s q age rows dear ahead (PTR bay) (.pointer none) vw) 36 (0, 0))) (hl : l.length = k) (hr : KS9.Row wi Z.heap.size vw l)
    (ho : KS9.Row w3 Z.heap.size v3 (l ++ [x])) (hg : wi.grownBy w3 vw.ownBlock) (h3 : w3.heap[wb]? = some (.cells (wCells m s q age rows dear ahead (PTR bay) (.pointer none) vw) 36 (0, 0))) (hZ : N4 F w X g4 wb b bay r1 r2 S2 n2 m s q age rows dear ahead (.slice none 0 0) Z) :
    N5 Z w g4 wb b bay r1 r2 S2 n2 m s q age rows dear ahead (k + 1) (w3.setCell ⟨wb, 9, none⟩ v3) := by
  have hs : (w3.setCell ⟨wb, 9, none⟩ v3).heap.size = w3.heap.size := by simp
  have off : ∀ j, j ≠ wb → j < Z.heap.size → (w3.setCell ⟨wb, 9, none⟩ v3).heap[j]? = wi.heap[j]? := fun j hj hz =>
    (Below.heap_setCell w3 ⟨wb, 9, none⟩ v3 j hj).trans (hg.block j (Nat.lt_of_lt_of_le hz h.sz) (fun e => by
      have := (hr.blk e.symm).1
      omega))
  refine ⟨by rw [hs]; exact Nat.le_trans h.sz hg.size, fun j hj hne => (off j hne hj).trans (h.blk j hj hne), ⟨hg.os.trans h.io.1, hg.tape.trans h.io.2.1, hg.output.trans h.io.2.2⟩, h.y.agree (by rw [hs]; exact hg.size) (fun j hf => ?_), ⟨v3, l ++ [x], setc_blk (i := 9) h3 v3, by simp [hl], ho.set_off ⟨wb, 9, none⟩ (ho.ne_blk h3 (by decide)) v3⟩⟩
  obtain ⟨g, c, e⟩ := hf
  exact off j (fun e' => hZ.f1 ⟨g, c, e' ▸ e⟩) (hZ.y.sim.dom g j c e).1
/-- What begin has left. -/
structure Begun (w w' : World) (wb b bay : Nat) (i : Pl) (S4 : Tr) (n4 : Nat) (m s q age rows dear ahead : Int) : Prop where
  bw : ∃ x A, ∃ n c : Nat, w'.heap[wb]? = some (.cells (wCells m s q age rows dear ahead (PTR bay) x (.slice A n c)) 36 (0, 0)) ∧ (n : Int) = (m - 2) * s
  ys : ∃ r', YS w.heap.size i S4 n4 r' w' ∧ ¬ feet r' wb ∧ ∃ c, r' b = some (bay, c)
  kf : Kf F01 w w'
  lo : w.heap.size ≤ wb
set_option maxHeartbeats 8000000 in
theorem begin6 (w : World) (x0 x1 x2 x3 x4 x5 x6 : Int) (M Q : Nat) (hG : GOK M Q) (q age rows dear ahead : Int) (hO : OOK q age rows dear ahead)
    (h29 : ∀ w, Calls Tryz.prog 29 #[SV7 x0 x1 x2 x3 x4 x5 x6] w fun e w' => e = .returned (GV M Q) ∧ Bel w w')
    (h30 : ∀ w, Calls Tryz.prog 30 #[SV7 x0 x1 x2 x3 x4 x5 x6] w fun e w' => e = .returned (OV q age rows dear ahead) ∧ Bel w w')
    {b : Nat} {S1 : Tr} {n1 : Nat} {S2 : Tr} {n2 a : Nat} {S3 : Tr} {n3 : Nat} {S4 : Tr} {n4 a2 : Nat} {S5 : Tr} {n5 : Nat} {S6 : Tr} {n6 : Nat} (hB : BegT M Q b S1 n1 S2 n2 a S3 n3 S4 n4 a2 S5 n5 S6 n6) (hw : GW w) :
    Calls Tryz.prog 6 #[SV7 x0 x1 x2 x3 x4 x5 x6] w fun e w' => ∃ wb bay i, e = .returned (.tuple #[PTR wb, .bool true]) ∧ Begun w w' wb b bay i S4 n4 M Q q age rows dear ahead := by
  have K29 := Lib.hid h29
  have K30 := Lib.hid h30
  have HB := Lib.hid hB
  have HW := Lib.hid hw
  have K31 : Hid (∀ wx, Bel w wx → Calls Tryz.prog 31 #[.int .i64 (M : Int), .int .i64 110] wx fun e w' => ∃ r1 bay, e = .returned (PTR bay) ∧ (∃ c, r1 b = some (bay, c)) ∧ YS w.heap.size rG S1 n1 r1 w' ∧ Kf F01 wx w' ∧ ∀ k, feet r1 k → k ≤ 1 ∨ wx.heap.size ≤ k) := Lib.hid (fun wx hx => by
    refine (((hw.bel hx).ys w.heap.size).call hx.size hB.new (args' := [.int .i64 (M : Int), .int .i64 110]) (.cons _ _ _ _ (.int _ _) (.cons _ _ _ _ (.int _ _) .nil)) (enter_run (by kernel_rfl) _ _)).mono ?_
    rintro e w' ⟨r1, v, rfl, hv, hy, hk, hft⟩
    cases hv with
    | ptr _ _ bay c hb => exact ⟨r1, bay, rfl, ⟨c, hb⟩, hy, hk.mono fun k _ h => feet_rG h, fun k hk => (hft k hk).imp feet_rG id⟩)
  have hw2 := hw.two
  clear h29 h30 hB hw
  go_enter Tryz.func6, Tryz.ntmps6
  go_wp2_with fail
  refine (K29.out _).mono ?_
  rintro e w1 ⟨rfl, hb1⟩
  have HB1 := Lib.hid ((Bel.alloc w _).trans hb1)
  have n0 := blk_below (heap_alloc_new w (.cells #[.int .i64 x0, .int .i64 x1, .int .i64 x2, .int .i64 x3, .int .i64 x4, .int .i64 x5, .int .i64 x6] 23)) hb1
  have HN0 := Lib.hid n0
  clear hb1 n0
  go_wp2_with fail
  refine wp_gen (fun W => Bel w W ∧ W.heap[w.heap.size]? = some (.cells #[.int .i64 x0, .int .i64 x1, .int .i64 x2, .int .i64 x3, .int .i64 x4, .int .i64 x5, .int .i64 x6] 23 (0, 0)) ∧ W.heap[w1.heap.size]? = some (.cells #[.int .i64 M, .int .i64 Q] 31 (0, 0)) ∧ w.heap.size < w1.heap.size) ⟨HB1.out.trans (Bel.alloc _ _), blk_below HN0.out (Bel.alloc _ _), heap_alloc_new _ _, blk_lt HN0.out⟩ ?_
  rintro W ⟨hW1, hW2, hW3, hW4⟩
  have HWW := Lib.hid (And.intro hW1 (And.intro hW2 (And.intro hW3 hW4)))
  clear HN0 HB1 hW1 hW2 hW3
  generalize w1.heap.size = g4 at *
  have hs0 := Kf.refl F01 W
  have b23 : ∀ (j : Nat) (v : Value), (#[.int .i64 x0, .int .i64 x1, .int .i64 x2, .int .i64 x3, .int .i64 x4, .int .i64 x5, .int .i64 x6] : Array Value)[j]? = some v → ∀ wx, Kf F01 W wx → wx.cell? ⟨w.heap.size, j, none⟩ = some v := fun j v hv wx h => (blk_cell (h.keep HWW.out.2.1 (by show ¬ w.heap.size ≤ 1; omega)) j).trans hv
  have s0 := b23 0 _ rfl
  have s1 := b23 1 _ rfl
  have s2 := b23 2 _ rfl
  have s3 := b23 3 _ rfl
  have s4 := b23 4 _ rfl
  have s5 := b23 5 _ rfl
  have s6 := b23 6 _ rfl
  have t0 : ∀ wx, Kf F01 W wx → wx.cell? ⟨g4, 0, none⟩ = some (.int .i64 M) := fun wx h => blk_cell (h.keep HWW.out.2.2.1 (by show ¬ g4 ≤ 1; omega)) 0
  have t1 : ∀ wx, Kf F01 W wx → wx.cell? ⟨g4, 1, none⟩ = some (.int .i64 Q) := fun wx h => blk_cell (h.keep HWW.out.2.2.1 (by show ¬ g4 ≤ 1; omega)) 1
  clear b23
  go_region_held3 (fun w' => Kf F01 W w') (first | assumption | exact Kf.drew _ | exact Kf.trans (by assumption) (Kf.drew _) | exact Kf.trans (by assumption) (by assumption) | exact Kf.trans (by assumption) (Kf.alloc _ _)) ((first | (go_at_call 30; refine (K30.out _).mono ?_; rintro e wo ⟨rfl, hbo⟩; have hWo : Bel W wo := (Bel.drew W).trans hbo; have hKo : Kf F01 W wo := Kf.of_bel hWo) | (go_at_call 31; refine (K31.out _ (HWW.out.1.trans hWo)).mono ?_; rintro e wn ⟨r1, bay, rfl, hrb, hy1, hkn, hft1⟩)))
  have hNX : N3 F01 w W g4 wn.heap.size b bay r1 S1 n1 M Q q age rows dear ahead (wn.alloc (.cells (wCells M Q q age rows dear ahead (PTR bay) (.pointer none) (.slice none 0 0)) 36)) := by
    have hk1 : Kf F01 W wn := hKo.trans hkn
    have hz := blk_lt HWW.out.2.2.1
    have hz2 := hWo.size
    refine ⟨hk1.trans (Kf.alloc _ _), hy1.bel (Bel.alloc _ _), heap_alloc_new _ _, blk_below (hk1.keep HWW.out.2.2.1 (by show ¬ g4 ≤ 1; omega)) (Bel.alloc _ _), by have := hk1.size; omega, fun h => ?_, fun h => ?_, hrb⟩
    · obtain ⟨g, c, e⟩ := h
      have := (hy1.sim.dom g _ c e).1
      omega
    · have := hft1 _ h
      omega
  refine then_gen (N3 F01 w W g4 wn.heap.size b bay r1 S1 n1 M Q q age rows dear ahead) hNX ?_
  rintro X hX
  have HX := Lib.hid hX
  have hgw : Hid (w.heap.size < g4) := Lib.hid hW4
  generalize wn.heap.size = wb at *
  clear hX hNX s0 s1 s2 s3 s4 s5 s6 t0 t1 hs0 hrb hy1 hkn hft1 hKo hWo hbo K29 K30 K31
  go_wp2_with fail
  have K32 : Hid (∀ wx, YS w.heap.size rG S1 n1 r1 wx → w.heap.size ≤ wx.heap.size → Calls Tryz.prog 32 #[PTR bay, GV M Q] wx fun e w' => ∃ r2, e = .returned (.int .i64 0) ∧ YS w.heap.size r1 S2 n2 r2 w' ∧ Kf (feet r1) wx w' ∧ ∀ k, feet r2 k → feet r1 k ∨ wx.heap.size ≤ k) := Lib.hid (fun wx hx hz => by
    obtain ⟨c, hc⟩ := HX.out.rb
    refine (hx.call hz HB.out.form (args' := [PTR bay, GV M Q]) (.cons _ _ _ _ (.ptr b 0 bay c hc) (.cons _ _ _ _ (.agg _ [_, _] (.cons _ _ _ _ (.int _ _) (.cons _ _ _ _ (.int _ _) .nil))) .nil)) (enter_run (by kernel_rfl) _ _)).mono ?_
    rintro e w' ⟨r2, v, rfl, hv, hy, hk, hft⟩
    cases hv
    exact ⟨r2, rfl, hy, hk, hft⟩)
  have hs0 := Kf.refl (feet r1) X
  have u7 : ∀ wx, Kf (feet r1) X wx → wx.cell? ⟨wb, 7, none⟩ = some (PTR bay) := fun wx h => blk_cell (h.keep HX.out.bw HX.out.f1) 7
  have t0 : ∀ wx, Kf (feet r1) X wx → wx.cell? ⟨g4, 0, none⟩ = some (.int .i64 M) := fun wx h => blk_cell (h.keep HX.out.bg HX.out.f2) 0
  have t1 : ∀ wx, Kf (feet r1) X wx → wx.cell? ⟨g4, 1, none⟩ = some (.int .i64 Q) := fun wx h => blk_cell (h.keep HX.out.bg HX.out.f2) 1
  have hXz : Hid (w.heap.size ≤ X.heap.size) := Lib.hid (by have := blk_lt HX.out.bg; have := hgw.out; omega)
  go_region_held3 (fun w' => Kf (feet r1) X w') (first | assumption | exact Kf.drew _ | exact Kf.trans (by assumption) (Kf.drew _) | exact Kf.trans (by assumption) (by assumption) | exact Kf.trans (by assumption) (Kf.alloc _ _)) ((first | (go_at_call 32; refine (K32.out _ (HX.out.y.bel (Bel.drew X)) hXz.out).mono ?_; rintro e wf ⟨r2, rfl, hy2, hk2, hft2⟩)))
  have hNY : N4 (feet r1) w X g4 wb b bay r1 r2 S2 n2 M Q q age rows dear ahead (.slice none 0 0) wf := by
    have hk := Kf.trans (Kf.drew X) hk2
    refine ⟨hk, hy2, hk.keep HX.out.bw HX.out.f1, hk.keep HX.out.bg HX.out.f2, fun h => ?_, fun h => ?_, ?_⟩
    · rcases hft2 _ h with e | e
      · exact HX.out.f1 e
      · have := blk_lt HX.out.bw
        have e : X.heap.size ≤ wb := e
        omega
    · rcases hft2 _ h with e | e
      · exact HX.out.f2 e
      · have := blk_lt HX.out.bg
        have e : X.heap.size ≤ g4 := e
        omega
    · obtain ⟨c, hc⟩ := HX.out.rb
      exact ⟨c, hy2.le _ _ hc⟩
  refine then_gen (N4 (feet r1) w X g4 wb b bay r1 r2 S2 n2 M Q q age rows dear ahead (.slice none 0 0)) hNY ?_
  rintro Z hZ
  have HZ := Lib.hid hZ
  have KB := Lib.hid (fun w1 => blocks33 M Q hG w1)
  have g0 := blk_cell hZ.bg 0
  have g1 := blk_cell hZ.bg 1
  have hblk := hG.blocks
  obtain ⟨n, hn⟩ : ∃ n : Nat, ((M : Int) - 2) * Q = n := ⟨(((M : Int) - 2) * Q).toNat, by omega⟩
  rw [hn] at KB hblk
  have HNN := Lib.hid hn
  clear hZ hNY hs0 u7 t0 t1 hy2 hk2 hft2 K32 hn
  go_wp2_with fail
  refine (KB.out _).mono ?_
  rintro e z1 ⟨rfl, hbz⟩
  have HZ1 : Hid (N5 Z w g4 wb b bay r1 r2 S2 n2 M Q q age rows dear ahead 0 z1) := Lib.hid ⟨hbz.size, fun k hk hne => hbz.block k hk, ⟨hbz.os, hbz.tape, hbz.output⟩, HZ.out.y.bel hbz, ⟨.slice none 0 0, [], blk_below HZ.out.bw hbz, rfl, Enc.Row.nil _ _⟩⟩
  clear hbz g0 g1
  go_wp2_with fail
  go_loopw [25] (fun v25 wr => ∃ k : Nat, v25 = .int .i64 k ∧ k ≤ n ∧ Hid (N5 Z w g4 wb b bay r1 r2 S2 n2 M Q q age rows dear ahead k wr)) (fun v25 _ => n - (intOf v25).toNat)
  case atStart => exact ⟨0, rfl, by omega, HZ1⟩
  case round =>
    obtain ⟨wi, rfl⟩ : ∃ wi : World, wi = wr := ⟨_, rfl⟩
    obtain ⟨k, rfl, hk, HI⟩ := hrel
    obtain ⟨vw, l, bw, hl, hr⟩ := HI.out.wt
    obtain ⟨A, c, hv, _, _⟩ := reads9 hr
    subst hv
    have c9 := blk_cell bw 9
    have f9 := blk_frozen bw
    by_cases hlt : k < n
    · have hlt' : decide ((k : Int) < n) = true := by simp; omega
      have H5 := Lib.hid (And.intro HI.out (And.intro bw (And.intro hl hr)))
      clear HI bw hl hr HZ1
      go_wp2_with (first | (at_builtin; go_loud (refine Enc.Row.append2 (K := KS9) (W := wi) (base := Z.heap.size) (l := l) H5.out.2.2.2 _ rfl (.tmp 31) (.tmp 32) 34 rfl (.string ⟨#[]⟩) 16 Tryz.underlying34 info9 rfl (by decide) rfl (by simp [Act.eval]) (by have := H5.out.2.2.1; omega) H5.out.1.sz ?_; intro v3 w3 ho hg hwh; obtain ⟨A3, c3, hv3, _, _⟩ := reads9 ho; simp only [List.length_append, List.length_cons, List.length_nil, Nat.zero_add] at hv3; subst hv3; have HX3 := Lib.hid (And.intro ho hg); have hw3 : w3.heap[wb]? = some (.cells (wCells M Q q age rows dear ahead (PTR bay) (.pointer none) (.slice A l.length c)) 36 (0, 0)) := (hg.block wb (blk_lt H5.out.2.1) (fun e => H5.out.2.2.2.ne_blk H5.out.2.1 (by decide) e.symm)).trans H5.out.2.1; have q9 := blk_cell hw3 9; have fq := blk_frozen hw3; have HQ3 := Lib.hid hw3; clear ho hg hwh)))
      refine ⟨⟨k + 1, by congr 1, by omega, Lib.hid (N5.next H5.out.1 H5.out.2.1 H5.out.2.2.1 H5.out.2.2.2 HX3.out.1 HX3.out.2 HQ3.out HZ.out)⟩, by simp [intOf]; omega⟩
    · have hkn : k = n := by omega
      subst hkn
      have hlt' : decide ((k : Int) < k) = false := by simp
      have H5 := Lib.hid (And.intro HI.out (And.intro bw (And.intro hl hr)))
      have hlk : l.length = k := hl
      have d0 : decide ((l.length : Int) > 0) = true := decide_eq_true (by omega)
      have d0' : decide (0 < (l.length : Int)) = true := decide_eq_true (by omega)
      clear HI bw hl hr HZ1
      go_wp2_with fail
      have hwi : w.heap.size ≤ wi.heap.size := Nat.le_trans (by have := blk_lt HZ.out.bg; have := hgw.out; omega) H5.out.1.sz
      have hOp : Calls Tryz.prog 20 #[PTR bay] wi fun e w1 => ∃ ag, ∃ i : Pl × Nat, e = .returned (.tuple #[PTR ag, .int .i64 0]) ∧ Kf (feet r2) wi w1 ∧ ¬ feet i.1 wb ∧ (r2.le i.1 ∧ wb < i.2 ∧ ∀ k, feet i.1 k → k ≤ 1 ∨ w.heap.size ≤ k) ∧ ArrT (feet i.1) (fun w' => ∃ r', YS w.heap.size i.1 S4 n4 r' w' ∧ ∀ k, feet r' k → feet i.1 k ∨ i.2 ≤ k) w1 ag M Q := by
        obtain ⟨c, hc⟩ := HZ.out.rb
        refine (H5.out.1.y.call hwi HB.out.open1 (args' := [PTR bay]) (.cons _ _ _ _ (.ptr b 0 bay c hc) .nil) (enter_run (by kernel_rfl) _ _)).mono ?_
        rintro e w1 ⟨r3, v, rfl, hv, hy, hk, hft⟩
        cases hv with
        | tup _ u hu =>
          cases hu with | cons _ v1 _ u1 h1 hu =>
          cases hu with | cons _ v2 _ u2 h2 hu =>
          cases hu
          cases h2
          cases h1 with
          | ptr _ _ ag c3 hag =>
            have hwb := blk_lt H5.out.2.1
            refine ⟨ag, (r3, w1.heap.size), rfl, hk, fun h => ?_, ⟨hy.le, by show wb < w1.heap.size; have := hk.size; omega, hy.ft⟩, arrT_of hy (Nat.le_trans hwi hk.size) hag HB.out.arr1 HB.out.lab1 HB.out.arr4 HB.out.gl hG⟩
            rcases hft _ h with e | e
            · exact HZ.out.f1 e
            · omega
      refine (open8 (feet r2) (fun i : Pl × Nat => feet i.1) (fun i w' => ∃ r', YS w.heap.size i.1 S4 n4 r' w' ∧ ∀ k, feet r' k → feet i.1 k ∨ i.2 ≤ k) (fun i => r2.le i.1 ∧ wb < i.2 ∧ ∀ k, feet i.1 k → k ≤ 1 ∨ w.heap.size ≤ k) wi w.heap.size wb M Q q age rows dear ahead (PTR bay) (.pointer none) _ hO hwi H5.out.2.1 HZ.out.f1 hOp).mono ?_
      rintro e w9 ⟨ea, i, w7, w8, rfl, hGi, hnf, hk7, hk8, hY8, hw9, hb8, _⟩
      have H9 := Lib.hid (And.intro hGi (And.intro hnf (And.intro hk7 (And.intro hk8 (And.intro hY8 (And.intro hw9 hb8))))))
      clear hGi hnf hk7 hk8 hY8 hw9 hb8 hOp
      go_wp2_with fail
      go_ret2
      obtain ⟨hGi, hnf, hk7, hk8, ⟨r', hy', hf'⟩, hw9, hb8⟩ := H9.out
      have hlo : w.heap.size ≤ wb := by have := HX.out.lt; have := hgw.out; omega
      have hnw : ¬ feet r' wb := fun h => by
        rcases hf' _ h with e | e
        · exact hnf e
        · have := hGi.2.1; omega
      have off : ∀ k, k ≠ wb → w9.heap[k]? = w8.heap[k]? := fun k hk => by rw [hw9]; exact Below.heap_setCell w8 ⟨wb, 8, none⟩ _ k hk
      have hs9 : w9.heap.size = w8.heap.size := by rw [hw9]; simp
      obtain ⟨c, hc⟩ := HZ.out.rb
      refine ⟨wb, bay, i.1, rfl, ⟨⟨_, _, _, _, by rw [hw9]; exact setc_blk (i := 8) hb8 (PTR ea.e), by rw [H5.out.2.2.1]; exact HNN.out.symm⟩, ⟨r', hy'.agree (by rw [hs9]; exact Nat.le_refl _) (fun k hk => off k (fun e => hnw (e ▸ hk))), hnw, c, hy'.le _ _ (hGi.1 _ _ hc)⟩, ?_, hlo⟩⟩
      have hio := H5.out.1.io
      have kZ := HZ.out.kf
      have kX := HX.out.kf
      have bW := HWW.out.1
      have e9 : w9.os = w8.os ∧ w9.tape = w8.tape ∧ w9.output = w8.output := by rw [hw9]; exact ⟨rfl, rfl, rfl⟩
      refine ⟨e9.1.trans (hk8.os.trans (hk7.os.trans (hio.1.trans (kZ.os.trans (kX.os.trans bW.os))))), e9.2.1.trans (hk8.tape.trans (hk7.tape.trans (hio.2.1.trans (kZ.tape.trans (kX.tape.trans bW.tape))))), e9.2.2.trans (hk8.output.trans (hk7.output.trans (hio.2.2.trans (kZ.output.trans (kX.output.trans bW.output))))), ?_, fun k hk hF => ?_⟩
      · have := hk8.size; have := hk7.size; have := H5.out.1.sz; have := kZ.size; have := kX.size; have := bW.size; omega
      · have hkW : k < W.heap.size := Nat.lt_of_lt_of_le hk bW.size
        have hkX : k < X.heap.size := Nat.lt_of_lt_of_le hkW kX.size
        have hkZ : k < Z.heap.size := Nat.lt_of_lt_of_le hkX kZ.size
        have hki : k < wi.heap.size := Nat.lt_of_lt_of_le hkZ H5.out.1.sz
        have hk7' : k < w7.heap.size := Nat.lt_of_lt_of_le hki hk7.size
        have hF' : ¬ k ≤ 1 := hF
        have nf : ∀ r : Pl, (∀ k, feet r k → k ≤ 1 ∨ w.heap.size ≤ k) → ¬ feet r k := fun r hr h => by
          rcases hr k h with e | e <;> omega
        exact (off k (by omega)).trans ((hk8.blk k hk7' (nf _ hGi.2.2)).trans ((hk7.blk k hki (nf _ HZ.out.y.ft)).trans ((H5.out.1.blk k hkZ (by omega)).trans ((kZ.blk k hkX (nf _ HX.out.y.ft)).trans ((kX.blk k hkW hF).trans (bW.block k hk))))))
end Go.Proofs.YtgpkpheejefiiaaGreatDoor
end
