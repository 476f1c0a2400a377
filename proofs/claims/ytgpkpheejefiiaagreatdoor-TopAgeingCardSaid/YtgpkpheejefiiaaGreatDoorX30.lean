/- A new engine. | The law's world is opened. -/
import Derived.Test.YtgpkpheejefiiaaGreatDoorX29
import Derived.Deep.RegionHeld3
section
set_option linter.unusedVariables false
set_option linter.unusedSimpArgs false
namespace Go.Proofs.YtgpkpheejefiiaaGreatDoor
open Go.RowKit
set_option maxRecDepth 100000
theorem nil53 (w : World) (p : Option Addr) : (binOp .eql 53 (.pointer p) (.pointer none)).run Tryz.prog w = .ok (.bool p.isNone) w := run_eql_pointer_nil (P := Tryz.prog) w 53 p Tryz.underlying53
theorem part31 (cs : Array Value) (o : Nat) (w : World) : (part 31 cs o).run Tryz.prog w = .ok (.agg (cs.extract o (o + 2))) w := by
  have h : (Tryz.prog.info? 31).map (fun i => i.size) = some 2 := by kernel_rfl
  have hs : (sizeOf 31).run Tryz.prog w = .ok 2 w := by
    cases hi : Tryz.prog.info? 31 with
    | none => rw [hi] at h; simp at h
    | some i => rw [hi] at h; simp at h; simp [sizeOf, typeInfo, hi, h]
  simp [part, run_underlying Tryz.underlying31, hs]
theorem field72 (w : World) (m s x y z : Value) : (Instr.field 72 (.agg #[m, s, x, y, z]) 0).run Tryz.prog w = .ok (.agg #[m, s]) w := by
  simp [Instr.field, run_underlying Tryz.underlying72, part31, asAgg]
/-- What is known of the array that an engine is made on. -/
structure ArrT (F : Nat → Prop) (Y : World → Prop) (w : World) (ag : Nat) (m s : Int) : Prop where
  foot : ∀ k, F k → k < w.heap.size
  arr : ∃ x y z t, w.heap[ag]? = some (.cells #[x, y, z, t, .bool false] 121 (0, 0))
  lab : ∀ w1, Bel w w1 → Calls Tryz.prog 21 #[PTR ag] w1 fun e w' => ∃ x y z, e = .returned (.agg #[.int .i64 m, .int .i64 s, x, y, z]) ∧ Kf F w1 w' ∧ Y w'
  bel : ∀ w1 w2, Y w1 → Bel w1 w2 → Y w2
  aft : ∀ w1, Y w1 → (∃ x y z t, w1.heap[ag]? = some (.cells #[x, y, z, t, .bool false] 121 (0, 0))) ∧ ∃ u : Array Value, u.size = 4 ∧ w1.heap[0]? = some (.cells u 258 (0, 0))
  geo : GOK m s
/-- The engine's block may have its cache or its planner set. -/
structure E8 (ge : Nat) (cs : Value → Value → Array Value) (W w : World) : Prop where
  kf : Kf (fun k => k = ge) W w
  blk : ∃ v p, w.heap[ge]? = some (.cells (cs v p) 95 (0, 0))
theorem E8.bel {ge : Nat} {cs : Value → Value → Array Value} {W a b : World} (h : E8 ge cs W a) (k : Bel a b) : E8 ge cs W b :=
  ⟨h.kf.trans (Kf.of_bel k), let ⟨v, p, e⟩ := h.blk; ⟨v, p, blk_below e k⟩⟩
theorem Kf.set {F : Nat → Prop} {w : World} (p : Addr) (hp : F p.block) (u : Value) : Kf F w (w.setCell p u) := Kf.of_upd (Upd.of_set p hp u)
abbrev eCells (ag gq gl : Nat) (m s : Int) : Value → Value → Array Value := fun v p => #[PTR ag, PTR gq, PTR gl, v, p, .int .i64 m, .int .i64 s]
theorem E8.set3 {ge ag gq gl : Nat} {m s : Int} {W a : World} (h : E8 ge (eCells ag gq gl m s) W a) (u : Value) : E8 ge (eCells ag gq gl m s) W (a.setCell ⟨ge, 3, none⟩ u) :=
  ⟨h.kf.trans (Kf.set (F := fun k => k = ge) ⟨ge, 3, none⟩ rfl u), let ⟨v, p, e⟩ := h.blk; ⟨u, p, setc_blk (i := 3) e u⟩⟩
theorem E8.set4 {ge ag gq gl : Nat} {m s : Int} {W a : World} (h : E8 ge (eCells ag gq gl m s) W a) (u : Value) : E8 ge (eCells ag gq gl m s) W (a.setCell ⟨ge, 4, none⟩ u) :=
  ⟨h.kf.trans (Kf.set (F := fun k => k = ge) ⟨ge, 4, none⟩ rfl u), let ⟨v, p, e⟩ := h.blk; ⟨v, u, setc_blk (i := 4) e u⟩⟩
theorem drewH {w : World} {g : Nat} {o : Obj} (h : w.heap[g]? = some o) : w.drew.heap[g]? = some o := h
/-- What stands before the cache is made. -/
structure NE8 (F : Nat → Prop) (Y : World → Prop) (w : World) (ag gq gl ge : Nat) (m s q age rows dear ahead : Int) (W : World) : Prop where
  kf : Kf F w W
  y : ∃ Wb, Y Wb ∧ Bel Wb W ∧ Wb.heap.size ≤ ge
  bq : W.heap[gq]? = some (.cells #[.int .i64 (max 1 (min q 256)), .slice none 0 0, .int .i64 0] 184 (0, 0))
  bl : W.heap[gl]? = some (.cells #[.int .i64 (max 1 (min age 65536)), .int .i64 0, .slice none 0 0, .int .i64 0] 179 (0, 0))
  be : W.heap[ge]? = some (.cells (eCells ag gq gl m s (.pointer none) (.pointer none)) 95 (0, 0))
  bo : W.heap[w.heap.size]? = some (.cells #[.int .i64 q, .int .i64 age, .int .i64 rows, .int .i64 dear, .int .i64 ahead] 29 (0, 0))
  g1 : w.heap.size < gq
  g2 : gq < gl
  g3 : gl < ge
/-- What stands behind it. -/
structure NE9 (F : Nat → Prop) (Y : World → Prop) (w : World) (base ag gq gl ge : Nat) (ca : CA) (n : Nat) (p : Value) (m s q age rows dear ahead : Int) (W : World) : Prop where
  kf : Kf F w W
  y : ∃ Wb, Y Wb ∧ Bel Wb W ∧ Wb.heap.size ≤ ge
  bq : W.heap[gq]? = some (.cells #[.int .i64 (max 1 (min q 256)), .slice none 0 0, .int .i64 0] 184 (0, 0))
  bl : W.heap[gl]? = some (.cells #[.int .i64 (max 1 (min age 65536)), .int .i64 0, .slice none 0 0, .int .i64 0] 179 (0, 0))
  be : W.heap[ge]? = some (.cells (eCells ag gq gl m s (PTR ca.g) p) 95 (0, 0))
  bo : W.heap[w.heap.size]? = some (.cells #[.int .i64 q, .int .i64 age, .int .i64 rows, .int .i64 dear, .int .i64 ahead] 29 (0, 0))
  g1 : w.heap.size < gq
  g2 : gq < gl
  g3 : gl < ge
  c : rows = 6 → IsC W base ca ⟨⟨6, dear, [], []⟩, [], n⟩
theorem isC_set95 {w : World} {base : Nat} {a : CA} {s : CS} (h : IsC w base a s) {g i : Nat} {cs : Array Value} (hg : w.heap[g]? = some (.cells cs 95 (0, 0))) (u : Value) : IsC (w.setCell ⟨g, i, none⟩ u) base a s :=
  isC_keep h fun k o hk ho => Below.heap_setCell w ⟨g, i, none⟩ u k fun e => by
    subst e
    rw [hg] at hk
    cases hk
    rcases ho with ⟨cs, t, fr, e, ht⟩ | ⟨l, c, e⟩ | ⟨cs, e⟩
    · cases e
      rcases ht with h | h | h | h <;> exact absurd h (by decide)
    · cases e
    · cases e
theorem NE9.bel {F : Nat → Prop} {Y : World → Prop} {w : World} {base ag gq gl ge : Nat} {ca : CA} {n : Nat} {p : Value} {m s q age rows dear ahead : Int} {W W' : World} (h : NE9 F Y w base ag gq gl ge ca n p m s q age rows dear ahead W) (k : Bel W W') : NE9 F Y w base ag gq gl ge ca n p m s q age rows dear ahead W' :=
  ⟨h.kf.trans (Kf.of_bel k), let ⟨b, h1, h2, h3⟩ := h.y; ⟨b, h1, h2.trans k, h3⟩, blk_below h.bq k, blk_below h.bl k, blk_below h.be k, blk_below h.bo k, h.g1, h.g2, h.g3, fun e => (h.c e).bel k⟩
theorem NE9.set4 {F : Nat → Prop} {Y : World → Prop} {w : World} {base ag gq gl ge : Nat} {ca : CA} {n : Nat} {p : Value} {m s q age rows dear ahead : Int} {W : World} (h : NE9 F Y w base ag gq gl ge ca n p m s q age rows dear ahead W) (u : Value) : NE9 F Y w base ag gq gl ge ca n u m s q age rows dear ahead (W.setCell ⟨ge, 4, none⟩ u) := by
  have off : ∀ k, k ≠ ge → (W.setCell ⟨ge, 4, none⟩ u).heap[k]? = W.heap[k]? := fun k hk => Below.heap_setCell W ⟨ge, 4, none⟩ u k hk
  have g1 := h.g1; have g2 := h.g2; have g3 := h.g3
  have hs : (W.setCell ⟨ge, 4, none⟩ u).heap.size = W.heap.size := by simp
  refine ⟨⟨h.kf.os, h.kf.tape, h.kf.output, by rw [hs]; exact h.kf.size, fun k hk hF => (off k (by omega)).trans (h.kf.blk k hk hF)⟩, ?_, (off _ (by omega)).trans h.bq, (off _ (by omega)).trans h.bl, setc_blk (i := 4) h.be u, (off _ (by omega)).trans h.bo, g1, g2, g3, fun e => isC_set95 (h.c e) h.be u⟩
  obtain ⟨b, h1, h2, h3⟩ := h.y
  exact ⟨b, h1, h2.set h3 u, h3⟩
theorem NE9.isE {F : Nat → Prop} {Y : World → Prop} {w : World} {base ag gq gl ge : Nat} {ca : CA} {n : Nat} {p : Value} {m s q age rows dear ahead : Int} {W : World} (h : NE9 F Y w base ag gq gl ge ca n p m s q age rows dear ahead W) (hT : ArrT F Y w ag m s) (hb : base ≤ w.heap.size) (hn : (n : Int) = m - 2) :
    ∃ (a : EA) (n : Nat), PTR a.e = PTR ge ∧ Y W ∧ Kf F w W ∧ a.ag = ag ∧ (n : Int) = m - 2 ∧
      (rows = 6 → IsE W base a ⟨m, s, ⟨max 1 (min q 256), 0, []⟩, ⟨max 1 (min age 65536), 0, 0, []⟩, ⟨⟨6, dear, [], []⟩, [], n⟩⟩) := by
  obtain ⟨b, h1, h2, h3⟩ := h.y
  have hy := hT.bel _ _ h1 h2
  have g1 := h.g1; have g2 := h.g2
  exact ⟨⟨ge, ag, gq, gl, ca, p, .slice none 0 0, .slice none 0 0⟩, n, rfl, hy, h.kf, rfl, hn, fun hr => ⟨h.be, (hT.aft _ hy).1, ⟨h.bq, Q20.Row.nil _ _⟩, ⟨h.bl, L21.Row.nil _ _⟩, h.c hr, by show base ≤ gq; omega, by show base ≤ gl; omega, hT.geo, hn⟩⟩
set_option maxHeartbeats 8000000 in
theorem newE (F : Nat → Prop) (Y : World → Prop) (w : World) (base ag : Nat) (m s q age rows dear ahead : Int) (hT : ArrT F Y w ag m s) (hO : OOK q age rows dear ahead) (hb : base ≤ w.heap.size) :
    Calls Tryz.prog 34 #[PTR ag, OV q age rows dear ahead] w fun e w' => ∃ (a : EA) (n : Nat), e = .returned (.tuple #[PTR a.e, .int .i64 0]) ∧ Y w' ∧ Kf F w w' ∧ a.ag = ag ∧ (n : Int) = m - 2 ∧
      (rows = 6 → IsE w' base a ⟨m, s, ⟨max 1 (min q 256), 0, []⟩, ⟨max 1 (min age 65536), 0, 0, []⟩, ⟨⟨6, dear, [], []⟩, [], n⟩⟩) := by
  have K1 := Lib.hid (fun w1 hb => down80 w1 ag hb)
  have K2 := Lib.hid (fun w1 => good81 w1 q age rows dear ahead hO)
  have K3 := Lib.hid (fun w1 => Q20.newQ q w1)
  have K4 := Lib.hid (fun w1 => L21.newL age w1)
  have HT := Lib.hid hT
  have HO := Lib.hid hO
  have hn := nil53
  clear hT hO
  go_enter Tryz.func34, Tryz.ntmps34
  go_wp2_with fail
  refine (K1.out _ (by obtain ⟨x, y, z, t, e⟩ := HT.out.arr; exact ⟨x, y, z, t, blk_below e (Bel.alloc w _)⟩)).mono ?_
  rintro e w1 ⟨rfl, hb1⟩
  have n1 := blk_below (heap_alloc_new w (.cells #[.int .i64 q, .int .i64 age, .int .i64 rows, .int .i64 dear, .int .i64 ahead] 29)) hb1
  have HB1 := Lib.hid ((Bel.alloc w _).trans hb1)
  have c0 := blk_cell n1 0
  have c1 := blk_cell n1 1
  have c2 := blk_cell n1 2
  have c3 := blk_cell n1 3
  have c4 := blk_cell n1 4
  clear hb1
  go_wp2_with fail
  refine (K2.out _).mono ?_
  rintro e w2 ⟨rfl, hb2⟩
  have n2 := blk_below n1 hb2
  have HB2 := Lib.hid (HB1.out.trans hb2)
  have HN2 := Lib.hid n2
  clear hb2 c0 c1 c2 c3 c4 n1
  go_wp2_with fail
  have hF : Hid (¬ F w.heap.size) := Lib.hid (fun h => by have := HT.out.foot _ h; omega)
  have c0 : ∀ wx, Kf F w2 wx → wx.cell? ⟨w.heap.size, 0, none⟩ = some (.int .i64 q) := fun wx h => blk_cell (h.keep HN2.out hF.out) 0
  have c1 : ∀ wx, Kf F w2 wx → wx.cell? ⟨w.heap.size, 1, none⟩ = some (.int .i64 age) := fun wx h => blk_cell (h.keep HN2.out hF.out) 1
  have hself := Kf.refl F w2
  have hfd := field72
  go_region_held3 (fun w' => Kf F w2 w') (first | assumption | exact Kf.refl _ _ | exact Kf.drew _ | exact Kf.trans (by assumption) (Kf.drew _) | exact Kf.trans (by assumption) (by assumption) | exact Kf.trans (by assumption) (Kf.alloc _ _)) ((first | (go_at_call 82; refine (K3.out _).mono ?_; rintro e wq ⟨rfl, hbq, hsq, hq⟩; have hBq : Bel w2 wq := (Bel.drew w2).trans hbq; have hkq : Kf F w2 wq := Kf.of_bel hBq) | (go_at_call 83; refine (K4.out _).mono ?_; rintro e wl ⟨rfl, hbl, hsl, hl⟩; have hBl : Bel w2 wl := hBq.trans hbl; have hkl : Kf F w2 wl := Kf.of_bel hBl) | (go_at_call 21; refine (HT.out.lab _ (HB2.out.trans hBl)).mono ?_; rintro e wb ⟨xx, yy, zz, rfl, hkb, hyb⟩)))
  have hsz : w.heap.size < w2.heap.size := blk_lt n2
  have hF2 : ∀ k, w.heap.size ≤ k → ¬ F k := fun k hk h => by have := HT.out.foot _ h; omega
  have hN : NE8 F Y w ag w2.heap.size wq.heap.size wb.heap.size m s q age rows dear ahead (wb.alloc (.cells (eCells ag w2.heap.size wq.heap.size m s (.pointer none) (.pointer none)) 95)) := by
    have hs1 : w2.heap.size < wq.heap.size := hsq
    have hs2 : wq.heap.size < wl.heap.size := hsl
    have hs3 := hkb.size
    refine ⟨((Kf.of_bel (HB2.out.trans hBl)).trans hkb).trans (Kf.alloc _ _), ⟨wb, hyb, Bel.alloc _ _, Nat.le_refl _⟩, ?_, ?_, heap_alloc_new _ _, ?_, hsz, hs1, by omega⟩
    · exact blk_below (hkb.keep (blk_below (hq base).blk hbl) (hF2 _ (by omega))) (Bel.alloc _ _)
    · exact blk_below (hkb.keep (hl base).blk (hF2 _ (by omega))) (Bel.alloc _ _)
    · exact blk_below (hkb.keep (blk_below HN2.out hBl) hF.out) (Bel.alloc _ _)
  refine then_gen (NE8 F Y w ag w2.heap.size wq.heap.size wb.heap.size m s q age rows dear ahead) hN ?_
  intro W hN
  have HN := Lib.hid hN
  have HF2 := Lib.hid hF2
  generalize w2.heap.size = gq at *
  generalize wq.heap.size = gl at *
  generalize wb.heap.size = ge at *
  clear hN c0 c1 hself hfd hbq hsq hq hbl hsl hl hBq hBl hkb hyb hkq hkl hsz hF2 n2 K1 K2 K3 K4
  go_wp2_with fail
  obtain ⟨n, hn5⟩ : ∃ n : Nat, (n : Int) = m - 2 := ⟨(m - 2).toNat, by have := HT.out.geo.m1; omega⟩
  have HNN := Lib.hid hn5
  have K5 := Lib.hid (fun w1 => data79 m s HT.out.geo w1)
  rw [← hn5] at K5
  have hbw : Hid (base ≤ W.heap.size) := Lib.hid (Nat.le_trans hb HN.out.kf.size)
  have K6 := Lib.hid (fun w1 (hb1 : base ≤ w1.heap.size) => newC w1 base rows dear n hb1 HO.out.r1 HO.out.r2 HO.out.d1 HO.out.d2 (by have := HT.out.geo.m1; omega) (by have := HT.out.geo.m2; omega))
  clear hn5
  have hE0 : E8 ge (eCells ag gq gl m s) W W := ⟨Kf.refl _ _, _, _, HN.out.be⟩
  have k2 : ∀ wx, E8 ge (eCells ag gq gl m s) W wx → wx.cell? ⟨w.heap.size, 2, none⟩ = some (.int .i64 rows) := fun wx h => blk_cell (h.kf.keep HN.out.bo (fun e => by have := HN.out.g1; have := HN.out.g2; have := HN.out.g3; omega)) 2
  have k3 : ∀ wx, E8 ge (eCells ag gq gl m s) W wx → wx.cell? ⟨w.heap.size, 3, none⟩ = some (.int .i64 dear) := fun wx h => blk_cell (h.kf.keep HN.out.bo (fun e => by have := HN.out.g1; have := HN.out.g2; have := HN.out.g3; omega)) 3
  have e5 : ∀ wx, E8 ge (eCells ag gq gl m s) W wx → wx.cell? ⟨ge, 5, none⟩ = some (.int .i64 m) := fun wx h => by obtain ⟨v, p, e⟩ := h.blk; exact blk_cell e 5
  have e6 : ∀ wx, E8 ge (eCells ag gq gl m s) W wx → wx.cell? ⟨ge, 6, none⟩ = some (.int .i64 s) := fun wx h => by obtain ⟨v, p, e⟩ := h.blk; exact blk_cell e 6
  go_region_held3 (fun w' => E8 ge (eCells ag gq gl m s) W w') (first | assumption | exact E8.set3 (by assumption) _ | exact E8.bel (by assumption) (Bel.drew _) | exact E8.bel (by assumption) (by assumption) | exact E8.bel (E8.bel (by assumption) (Bel.drew _)) (by assumption) | exact E8.bel (by assumption) (Bel.alloc _ _)) ((first | (go_at_call 79; refine (K5.out _).mono ?_; rintro e wd ⟨rfl, hbd⟩) | (go_at_call 84; refine (K6.out _ (by have := hbw.out; have hx : Bel W.drew wd := hbd; have := hx.size; exact Nat.le_trans hbw.out this)).mono ?_; rintro e wc ⟨ca, rfl, hc6, hbc, hcm, hcp⟩; have hEc : E8 ge (eCells ag gq gl m s) W wc := E8.bel (by assumption) hbc; obtain ⟨v3, p3, hEb⟩ := hEc.blk; have q3 : wc.cell? ⟨ge, 3, none⟩ = some v3 := blk_cell hEb 3; have f3 := blk_frozen hEb 3)))
  have hN9 : NE9 F Y w base ag gq gl ge ca n (.pointer none) m s q age rows dear ahead (wc.setCell ⟨ge, 3, none⟩ (PTR ca.g)) := by
    have hBd : Bel W wd := (Bel.drew W).trans hbd
    have hBc : Bel W wc := hBd.trans hbc
    have hN := HN.out
    have g1 := hN.g1; have g2 := hN.g2; have g3 := hN.g3
    have off : ∀ k, k ≠ ge → (wc.setCell ⟨ge, 3, none⟩ (PTR ca.g)).heap[k]? = wc.heap[k]? := fun k hk => Below.heap_setCell wc ⟨ge, 3, none⟩ _ k hk
    have hs : (wc.setCell ⟨ge, 3, none⟩ (PTR ca.g)).heap.size = wc.heap.size := by simp
    have hbe := blk_below hN.be hBc
    refine ⟨⟨hBc.os.trans hN.kf.os, hBc.tape.trans hN.kf.tape, hBc.output.trans hN.kf.output, by rw [hs]; exact Nat.le_trans hN.kf.size hBc.size, fun k hk hF => (off k (by omega)).trans ((hN.kf.trans (Kf.of_bel hBc)).blk k hk hF)⟩, ?_, (off _ (by omega)).trans (blk_below hN.bq hBc), (off _ (by omega)).trans (blk_below hN.bl hBc), setc_blk (i := 3) hbe _, (off _ (by omega)).trans (blk_below hN.bo hBc), g1, g2, g3, fun e => isC_set95 (hc6 e) hbe _⟩
    obtain ⟨b, h1, h2, h3⟩ := hN.y
    exact ⟨b, h1, (h2.trans hBc).set h3 _, h3⟩
  refine then_gen (NE9 F Y w base ag gq gl ge ca n (.pointer none) m s q age rows dear ahead) hN9 ?_
  intro W2 hN2
  have HN2 := Lib.hid hN2
  have k4 := blk_cell hN2.bo 4
  clear hN9 hN2 k2 k3 e5 e6 hE0 hbd hc6 hbc hcm hcp hEc hEb q3 f3 K5 K6
  by_cases hah : 0 < ahead
  · have d1 : decide (ahead > 0) = true := decide_eq_true hah
    have d2 : decide (0 < ahead) = true := decide_eq_true hah
    have HAH := Lib.hid hah
    go_wp2_with fail
    obtain ⟨u, hu, hG⟩ : ∃ u : Array Value, u.size = 4 ∧ W2.heap[0]? = some (.cells u 258 (0, 0)) := by
      obtain ⟨b, h1, h2, h3⟩ := HN2.out.y
      exact (HT.out.aft _ (HT.out.bel _ _ h1 h2)).2
    have HG := Lib.hid (And.intro hu hG)
    have K7 := Lib.hid (fun w1 => blocks33 m s HT.out.geo w1)
    have K8 := Lib.hid (fun w1 => data79 m s HT.out.geo w1)
    have K9 := Lib.hid (fun w1 (hG1 : w1.heap[0]? = some (.cells u 258 (0, 0))) => newA w1 ((m - 2) * s) (m - 2) ahead (by have := HT.out.geo.blocks; omega) (by have := HT.out.geo.blocks; omega) (by have := HT.out.geo.m1; omega) (by have := HT.out.geo.m2; omega) (by have := HAH.out; omega) HO.out.h2 u HG.out.1 hG1)
    have hgz : Hid (0 ≠ ge) := Lib.hid (by have := HN2.out.g1; have := HN2.out.g2; have := HN2.out.g3; omega)
    clear hu hG hah
    generalize (m - 2) * s = BL at *
    generalize hDD : m - 2 = DD at K7 K8 K9
    clear hDD
    have hE0 : E8 ge (eCells ag gq gl m s) W2 W2 := ⟨Kf.refl _ _, _, _, HN2.out.be⟩
    have k5 : ∀ wx, E8 ge (eCells ag gq gl m s) W2 wx → wx.cell? ⟨w.heap.size, 4, none⟩ = some (.int .i64 ahead) := fun wx h => blk_cell (h.kf.keep HN2.out.bo (fun e => by have := HN2.out.g1; have := HN2.out.g2; have := HN2.out.g3; omega)) 4
    have e5 : ∀ wx, E8 ge (eCells ag gq gl m s) W2 wx → wx.cell? ⟨ge, 5, none⟩ = some (.int .i64 m) := fun wx h => by obtain ⟨v, p, e⟩ := h.blk; exact blk_cell e 5
    have e6 : ∀ wx, E8 ge (eCells ag gq gl m s) W2 wx → wx.cell? ⟨ge, 6, none⟩ = some (.int .i64 s) := fun wx h => by obtain ⟨v, p, e⟩ := h.blk; exact blk_cell e 6
    clear k4
    go_region_held3 (fun w' => E8 ge (eCells ag gq gl m s) W2 w') (first | assumption | exact E8.set4 (by assumption) _ | exact E8.bel (by assumption) (Bel.drew _) | exact E8.bel (by assumption) (by assumption) | exact E8.bel (E8.bel (by assumption) (Bel.drew _)) (by assumption) | exact E8.bel (by assumption) (Bel.alloc _ _)) ((first | (go_at_call 33; refine (K7.out _).mono ?_; rintro e wa ⟨rfl, hba⟩) | (go_at_call 79; refine (K8.out _).mono ?_; rintro e wd ⟨rfl, hbd⟩) | (go_at_call 85; refine (K9.out _ (by have hbA : Bel W2 wa := (Bel.drew W2).trans hba; exact blk_below HG.out.2 (hbA.trans hbd))).mono ?_; rintro e wc ⟨pg, rfl, hbc⟩; have hEc : E8 ge (eCells ag gq gl m s) W2 wc := E8.bel (by assumption) hbc; obtain ⟨v3, p3, hEb⟩ := hEc.blk; have q3 : wc.cell? ⟨ge, 4, none⟩ = some p3 := blk_cell hEb 4; have f3 := blk_frozen hEb 4)))
    have hBc : Bel W2 wc := (((Bel.drew W2).trans hba).trans hbd).trans hbc
    have HN3 := Lib.hid ((HN2.out.bel hBc).set4 (PTR pg))
    clear hE0 k5 e5 e6 hba hbd hbc hEc hEb q3 f3 hBc
    go_wp2_with fail
    go_ret2
    obtain ⟨a, n', e1, e2, e3, e4, e5, e6⟩ := HN3.out.isE HT.out hb HNN.out
    have e1' : PTR ge = PTR a.e := e1.symm
    first
      | exact ⟨a, n', by rw [← e1']; rfl, e2, e3, e4, e5, e6⟩
      | exact ⟨a, by rw [← e1']; rfl, e2, e3, e4, n', e5, e6⟩
  · have d1 : decide (ahead > 0) = false := decide_eq_false hah
    have d2 : decide (0 < ahead) = false := decide_eq_false hah
    go_wp2_with fail
    go_ret2
    obtain ⟨a, n', e1, e2, e3, e4, e5, e6⟩ := HN2.out.isE HT.out hb HNN.out
    have e1' : PTR ge = PTR a.e := e1.symm
    first
      | exact ⟨a, n', by rw [← e1']; rfl, e2, e3, e4, e5, e6⟩
      | exact ⟨a, by rw [← e1']; rfl, e2, e3, e4, n', e5, e6⟩
end Go.Proofs.YtgpkpheejefiiaaGreatDoor
end
section
set_option linter.unusedVariables false
set_option linter.unusedSimpArgs false
namespace Go.Proofs.YtgpkpheejefiiaaGreatDoor
open Go.RowKit
set_option maxRecDepth 100000
/-- the cells of the law's world -/
abbrev wCells (m s q age rows dear ahead : Int) (bay x want : Value) : Array Value := #[.int .i64 m, .int .i64 s, .int .i64 q, .int .i64 age, .int .i64 rows, .int .i64 dear, .int .i64 ahead, bay, x, want]
theorem isE_set36 {w : World} {base : Nat} {a : EA} {s : ES} (h : IsE w base a s) {g i : Nat} {cs : Array Value} (hg : w.heap[g]? = some (.cells cs 36 (0, 0))) (u : Value) : IsE (w.setCell ⟨g, i, none⟩ u) base a s := by
  have off : ∀ (k : Nat) (o : Obj), w.heap[k]? = some o → (∀ cs, o ≠ Obj.cells cs 36 (0, 0)) → (w.setCell ⟨g, i, none⟩ u).heap[k]? = w.heap[k]? := fun k o hk ho => Below.heap_setCell w ⟨g, i, none⟩ u k fun e => by
    subst e
    rw [hg] at hk
    cases hk
    exact ho _ rfl
  refine ⟨(off _ _ h.blk (by simp)).trans h.blk, ?_, isQ_keep h.q fun j cs t hj ht => off _ _ hj ?_, isL_keep h.l fun j cs t hj ht => off _ _ hj ?_, isC_keep h.c fun k o hk ho => off _ _ hk ?_, h.bq, h.bl, h.g, h.n⟩
  · obtain ⟨x, y, z, t, e⟩ := h.arr
    exact ⟨x, y, z, t, (off _ _ e (by simp)).trans e⟩
  · rcases ht with rfl | rfl <;> simp
  · rcases ht with rfl | rfl <;> simp
  · rcases ho with ⟨cs, t, fr, rfl, ht⟩ | ⟨l, c, rfl⟩ | ⟨cs, rfl⟩
    · rcases ht with rfl | rfl | rfl | rfl <;> simp
    · simp
    · simp
set_option maxHeartbeats 4000000 in
theorem open8 {ι : Type} (F : Nat → Prop) (F1 : ι → Nat → Prop) (Y : ι → World → Prop) (G : ι → Prop) (w : World) (base wb : Nat) (m s q age rows dear ahead : Int) (bay x want : Value) (hO : OOK q age rows dear ahead) (hb : base ≤ w.heap.size)
    (hw : w.heap[wb]? = some (.cells (wCells m s q age rows dear ahead bay x want) 36 (0, 0))) (hF : ¬ F wb)
    (hOp : Calls Tryz.prog 20 #[bay] w fun e w1 => ∃ ag i, e = .returned (.tuple #[PTR ag, .int .i64 0]) ∧ Kf F w w1 ∧ ¬ F1 i wb ∧ G i ∧ ArrT (F1 i) (Y i) w1 ag m s) :
    Calls Tryz.prog 8 #[PTR wb] w fun e w' => ∃ (a : EA) (i : ι) (w1 w2 : World), e = .returned (.bool true) ∧ G i ∧ ¬ F1 i wb ∧ Kf F w w1 ∧ Kf (F1 i) w1 w2 ∧ Y i w2 ∧ w' = w2.setCell ⟨wb, 8, none⟩ (PTR a.e) ∧ w2.heap[wb]? = some (.cells (wCells m s q age rows dear ahead bay x want) 36 (0, 0)) ∧
      (rows = 6 → ∃ n : Nat, (n : Int) = m - 2 ∧ IsE w' base a ⟨m, s, ⟨max 1 (min q 256), 0, []⟩, ⟨max 1 (min age 65536), 0, 0, []⟩, ⟨⟨6, dear, [], []⟩, [], n⟩⟩) := by
  have K1 := Lib.hid hOp
  have HW := Lib.hid (And.intro hw hF)
  have HO := Lib.hid hO
  have c7 := blk_cell hw 7
  clear hOp hO hF
  go_enter Tryz.func8, Tryz.ntmps8
  go_wp2_with fail
  refine K1.out.mono ?_
  rintro e w1 ⟨ag, i, rfl, hk1, hnf, hGi, hT⟩
  have hw1 := hk1.keep hw HW.out.2
  have HGi := Lib.hid (And.intro hGi hnf)
  have HT := Lib.hid hT
  have HK1 := Lib.hid hk1
  have c2 := blk_cell hw1 2
  have c3 := blk_cell hw1 3
  have c4 := blk_cell hw1 4
  have c5 := blk_cell hw1 5
  have c6 := blk_cell hw1 6
  clear hT hk1 c7 hGi hnf
  go_wp2_with fail
  refine (newE (F1 i) (Y i) w1 base ag m s q age rows dear ahead HT.out HO.out (Nat.le_trans hb HK1.out.size)).mono ?_
  rintro e w2 ⟨a, n, rfl, hy, hk2, _, hn, hE⟩
  have hw2 := hk2.keep hw1 HGi.out.2
  have HY := Lib.hid (And.intro hy (And.intro hk2 (And.intro hn hE)))
  have c8 := blk_cell hw2 8
  have f8 := blk_frozen hw2
  clear hy hk2 hn hE c2 c3 c4 c5 c6
  go_wp2_with fail
  go_ret
  exact ⟨a, i, w1, w2, rfl, HGi.out.1, HGi.out.2, HK1.out, HY.out.2.1, HY.out.1, rfl, hw2, fun hr => ⟨n, HY.out.2.2.1, isE_set36 (HY.out.2.2.2 hr) hw2 _⟩⟩
end Go.Proofs.YtgpkpheejefiiaaGreatDoor
end
