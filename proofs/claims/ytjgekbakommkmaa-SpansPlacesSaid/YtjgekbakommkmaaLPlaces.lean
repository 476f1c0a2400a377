/- Spans: the walk of SpansPlaces. -/
import Derived.Test.YtjgekbakommkmaaHas
import Derived.Test.YtjgekbakommkmaaCount
import Derived.Test.YtjgekbakommkmaaChange
import Derived.Test.YtjgekbakommkmaaQuietC
set_option linter.unusedVariables false
set_option linter.unusedSimpArgs false
namespace Go.Proofs.Ytjgekbakommkmaa
open Go.RowKit Go.Proofs.YtjgekbakommkmaaW.PrintWords Go.Proofs.YtjgekbakommkmaaW.PrintMore
open PSpansChange Pl
theorem w64m {x : Int} (h1 : -9223372036854775808 ≤ x) (h2 : x ≤ 9223372036854775807) : IntKind.i64.wrap x = x := by
  unfold IntKind.wrap
  simp [IntKind.bits, IntKind.signed]
  omega
theorem lenG (s : Sp) (hs : ok1 s = true) (w : World) : Calls Try.prog 22 #[.agg #[.int .i64 s.1, .int .i64 s.2]] w fun e w' => e = .returned (.int .i64 (s.2 - s.1)) ∧ Bel w w' := by
  refine spans_Span_Len.calls s.1 s.2 _ w ?_
  unfold spans_Span_Len.f
  rw [sgood_f s, Option.bind_some]
  have := (ok1_iff s).1 hs
  rw [if_pos hs, w64 (by omega) (by omega)]
theorem meetG (l : List Sp) (s : Sp) (hl : GoodL l) (hs : ok1 s = true) (hlen : l.length ≤ 1000000) (A : Option Addr) (c : Nat) (hc : l.length ≤ c) (w : World) (hC : Kd.C k30 w A l.length (m30 l)) :
    Calls Try.prog 12 #[.slice A l.length c, .agg #[.int .i64 s.1, .int .i64 s.2]] w fun e w' => ∃ A' c', e = .returned (.tuple #[.slice A' (meetL l s).length c', .int .i64 0]) ∧ (meetL l s).length ≤ c' ∧ Kd.C k30 w' A' (meetL l s).length (m30 (meetL l s)) ∧ Bel w w' := by
  have := meetB12 A c l s hlen hc w hC
  rw [may_zero hl hs] at this
  refine this.mono ?_
  rintro e w' ⟨v, rfl, hr, hb⟩
  simp only [errV, if_pos] at hr
  obtain ⟨A', c', rfl, h1, h2⟩ := cells30 hr
  exact ⟨A', c', rfl, h1, h2, hb⟩
theorem gapsG (l : List Sp) (s : Sp) (hl : GoodL l) (hs : ok1 s = true) (hlen : l.length ≤ 900000) (A : Option Addr) (c : Nat) (hc : l.length ≤ c) (w : World) (hC : Kd.C k30 w A l.length (m30 l)) :
    Calls Try.prog 13 #[.slice A l.length c, .agg #[.int .i64 s.1, .int .i64 s.2]] w fun e w' => ∃ A' c', e = .returned (.tuple #[.slice A' (gapsF (meetL l s) s).length c', .int .i64 0]) ∧ (gapsF (meetL l s) s).length ≤ c' ∧ Kd.C k30 w' A' (gapsF (meetL l s) s).length (m30 (gapsF (meetL l s) s)) ∧ Bel w w' := by
  have := gapsB A c l s hlen hc w hC
  rw [may_zero hl hs] at this
  refine this.mono ?_
  rintro e w' ⟨v, rfl, hr, hb⟩
  simp only [errV, if_pos] at hr
  obtain ⟨A', c', rfl, h1, h2⟩ := cells30 hr
  exact ⟨A', c', rfl, h1, h2, hb⟩
structure W9ok (u : World) (at_ x0 x1 P2 : Int) (wx : World) : Prop where
  out : wx.heap[u.heap.size]? = some (.cells #[.int .i64 at_, .int .i64 x0, .int .i64 (x1 - 1), .int .i64 x1, .int .i64 (x0 - 1), .int .i64 P2] 3 (0, 0))
/-- Is the place within the span? -/
def inB (x0 x1 z : Int) : Bool := decide (x0 ≤ z) && decide (z < x1)
structure Law4 (a b c d h : List Sp) (x0 x1 : Int) : Prop where
  fb : ∀ z, hasB b z = (inB x0 x1 z || hasB a z)
  fc : ∀ z, hasB c z = (hasB a z && !inB x0 x1 z)
  fd : ∀ z, hasB d z = (inB x0 x1 z && hasB a z)
  fh : ∀ z, hasB h z = (inB x0 x1 z && !hasB a z)
  gb : gl b = true
  gc : gl c = true
  gd : gl d = true
  gh : gl h = true
  lb : b.length ≤ 100
  lc : c.length ≤ 100
  ld : d.length ≤ 100
  lh : h.length ≤ 100
  t1 : tot b = tot c + (x1 - x0)
  t2 : tot d + tot h = x1 - x0
  t3 : tot c + tot d = tot a
  n0 : 0 ≤ tot a ∧ tot a ≤ 200000000000000
  n1 : 0 ≤ tot c ∧ tot c ≤ 200000000000000
  n2 : 0 ≤ tot d ∧ tot d ≤ 200000000000000
theorem law4 {a : List Sp} {x0 x1 : Int} (ha : GoodL a) (hal : a.length ≤ 40) (hx : ok1 (x0, x1) = true) : Law4 a (addF a (x0, x1)) (cutF a (x0, x1)) (meetL a (x0, x1)) (gapsF (meetL a (x0, x1)) (x0, x1)) x0 x1 := by
  obtain ⟨b1, b2, _⟩ := addF_spec a (x0, x1) ha hx
  obtain ⟨c1, c2, _⟩ := cutF_spec a (x0, x1) ha hx
  obtain ⟨d1, d2⟩ := meetL_spec ha hx
  obtain ⟨h1, h2⟩ := gapsF_spec (meetL a (x0, x1)) (x0, x1) (meetL_ok a (x0, x1)) hx
  obtain ⟨t1, t2, t3⟩ := tot_law ha hx
  have ei : ∀ z, inB x0 x1 z = true ↔ inS (x0, x1) z := fun z => by unfold inB inS; simp
  have hg := gapK_len (meetL a (x0, x1)) (x0, x1) (meetL_ok a (x0, x1)) hx (meetL a (x0, x1)).length (Nat.le_refl _)
  rw [gapK_end] at hg
  have l1 := addF_len (x0, x1) a
  have l2 := cut_len a (x0, x1)
  have l3 := meetL_len a (x0, x1)
  have n0 := tot_le a ha.ok
  have n1 := tot_le _ c1.ok
  have n2 := tot_le _ d1.ok
  have ed : ∀ z, hasB (meetL a (x0, x1)) z = (inB x0 x1 z && hasB a z) := fun z => by
    rw [Bool.eq_iff_iff, hasB_iff, d2, ← hasB_iff, ← ei]; simp [and_comm]
  refine ⟨fun z => ?_, fun z => ?_, ed, fun z => ?_, (gl_iff _).2 b1, (gl_iff _).2 c1, (gl_iff _).2 d1, (gl_iff _).2 h1, by omega, by omega, by omega, by omega, t1, t2, t3, by omega, by omega, by omega⟩
  · rw [Bool.eq_iff_iff, hasB_iff, b2, ← hasB_iff, ← ei]; simp [or_comm]
  · rw [Bool.eq_iff_iff, hasB_iff, c2, ← hasB_iff, ← ei]; simp
  · rw [Bool.eq_iff_iff, hasB_iff, h2, ← hasB_iff, ← ei, ed]; cases hasB a z <;> cases inB x0 x1 z <;> simp
set_option maxHeartbeats 8000000 in
set_option maxRecDepth 100000 in
theorem lawPlacesW (A : Option Addr) (c : Nat) (l : List Sp) (x0 x1 : Int) (at_ : Int) (hc : l.length ≤ c) (w : World) (hC : Kd.C k30 w A l.length (m30 l)) :
    Calls Try.prog 6 #[.slice A l.length c, .agg #[.int .i64 x0, .int .i64 x1], .int .i64 at_] w fun e w' => e = .returned (.bool true) ∧ Bel w w' := by
  have KL := Lib.hid (fun w h => listsT A c l hc w h)
  have HC := Lib.hid hC
  have HG := Lib.hid (listF_good (l.take 40))
  have hal : (listF (l.take 40) true).length ≤ 40 := Nat.le_trans (listF_len _ _) (by simp; omega)
  generalize listF (l.take 40) true = a at *
  clear hC
  have KW := Lib.hid wakesB
  have KX := Lib.hid (fun w => sgoodB (x0, x1) w)
  go_enter Try.func6, Try.ntmps6
  go_wp2_with fail
  refine calls_gen (fun W => Bel w W ∧ W.heap[w.heap.size]? = some (.cells #[.int .i64 x0, .int .i64 x1] 24 (0, 0))) ⟨Bel.alloc _ _, heap_alloc_new _ _⟩ ?_
  rintro W0 ⟨hB0, hx⟩
  refine (KL.out W0 (Kd.C_below HC.out hB0)).mono ?_
  rintro e w1 ⟨v, v', rfl, hr, hr', hb1⟩
  obtain ⟨A1, c1, rfl, hc1, hC1⟩ := cells30 hr
  have b0 := pw_cell_below hb1 (a := ⟨w.heap.size, 0, none⟩) (v := .int .i64 x0) (blk_cell hx 0)
  have b1 := pw_cell_below hb1 (a := ⟨w.heap.size, 1, none⟩) (v := .int .i64 x1) (blk_cell hx 1)
  have HB1 := Lib.hid (hB0.trans hb1)
  have HC1 := Lib.hid hC1
  clear hB0 hx hb1 hr hr' hC1 KL
  go_wp2_with fail
  refine calls_gen (fun W => Bel w1 W ∧ W.heap[w1.heap.size]? = some (.cells #[.int .i64 x0, .int .i64 x1] 30 (0, 0))) ⟨Bel.alloc _ _, heap_alloc_new _ _⟩ ?_
  rintro W2 ⟨hB2, hp2⟩
  have HB2 := Lib.hid (HB1.out.trans hB2)
  have HP2 := Lib.hid hp2
  have HC2 := Lib.hid (Kd.C_below HC1.out hB2)
  clear b0 b1 hB2 hp2 HB1 HC1
  refine (KW.out _).mono ?_
  rintro e w3 ⟨rfl, hb3⟩
  have HB3 := Lib.hid (HB2.out.trans hb3)
  have HP3 := Lib.hid (blk_below HP2.out hb3)
  have HC3 := Lib.hid (Kd.C_below HC2.out hb3)
  clear hb3 HB2 HP2 HC2
  have p0 := blk_cell HP3.out 0
  have p1 := blk_cell HP3.out 1
  go_wp2_with fail
  refine (KX.out _).mono ?_
  rintro e w4 ⟨rfl, hb4⟩
  have HB4 := Lib.hid (HB3.out.trans hb4)
  have HP4 := Lib.hid (blk_below HP3.out hb4)
  have HC4 := Lib.hid (Kd.C_below HC3.out hb4)
  clear hb4 HB3 HP3 HC3 p0 p1
  cases hkx : ok1 (x0, x1)
  · clear HP4 HC4
    go_wp2_with fail
    refine (KW.out _).mono ?_
    rintro e w5 ⟨rfl, hb5⟩
    have HB5 := HB4.out.trans hb5
    clear HB4 hb5
    go_wp2_with fail
    go_ret
    exact ⟨rfl, HB5⟩
  have HL := Lib.hid (law4 HG.out hal hkx)
  have KA := Lib.hid (fun A c hc w h => addG a (x0, x1) HG.out hkx (by omega) A c hc w h)
  have KC := Lib.hid (fun A c hc w h => cutG' a (x0, x1) HG.out hkx (by omega) A c hc w h)
  have KM := Lib.hid (fun A c hc w h => meetG a (x0, x1) HG.out hkx (by omega) A c hc w h)
  have KP := Lib.hid (fun A c hc w h => gapsG a (x0, x1) HG.out hkx (by omega) A c hc w h)
  have KN := Lib.hid (fun w => lenG (x0, x1) hkx w)
  have hga := (gl_iff a).2 HG.out
  have hxb := (ok1_iff (x0, x1)).1 hkx
  simp only [] at hxb
  clear HG hkx KX
  generalize gapsF (meetL a (x0, x1)) (x0, x1) = lh at *
  generalize addF a (x0, x1) = lb at *
  generalize cutF a (x0, x1) = lc at *
  generalize meetL a (x0, x1) = ld at *
  have HCa4 := HC4
  clear HC4
  have p0 := blk_cell HP4.out 0
  have p1 := blk_cell HP4.out 1
  go_wp2_with fail
  refine (KA.out _ _ hc1 _ HCa4.out).mono ?_
  rintro e w5 ⟨B5, d5, rfl, hd5, hC5, hb5⟩
  have HB5 := Lib.hid (HB4.out.trans hb5)
  have HP5 := Lib.hid (blk_below HP4.out hb5)
  have HCa5 := Lib.hid (Kd.C_below HCa4.out hb5)
  clear hb5 HB4 HP4 p0 p1 HCa4
  have HClb5 := Lib.hid hC5
  clear hC5
  have p0 := blk_cell HP5.out 0
  have p1 := blk_cell HP5.out 1
  go_wp2_with fail
  refine (KC.out _ _ hc1 _ HCa5.out).mono ?_
  rintro e w6 ⟨B6, d6, rfl, hd6, hC6, hb6⟩
  have HB6 := Lib.hid (HB5.out.trans hb6)
  have HP6 := Lib.hid (blk_below HP5.out hb6)
  have HCa6 := Lib.hid (Kd.C_below HCa5.out hb6)
  have HClb6 := Lib.hid (Kd.C_below HClb5.out hb6)
  clear hb6 HB5 HP5 p0 p1 HCa5 HClb5
  have HClc6 := Lib.hid hC6
  clear hC6
  have p0 := blk_cell HP6.out 0
  have p1 := blk_cell HP6.out 1
  go_wp2_with fail
  refine (KM.out _ _ hc1 _ HCa6.out).mono ?_
  rintro e w7 ⟨B7, d7, rfl, hd7, hC7, hb7⟩
  have HB7 := Lib.hid (HB6.out.trans hb7)
  have HP7 := Lib.hid (blk_below HP6.out hb7)
  have HCa7 := Lib.hid (Kd.C_below HCa6.out hb7)
  have HClb7 := Lib.hid (Kd.C_below HClb6.out hb7)
  have HClc7 := Lib.hid (Kd.C_below HClc6.out hb7)
  clear hb7 HB6 HP6 p0 p1 HCa6 HClb6 HClc6
  have HCld7 := Lib.hid hC7
  clear hC7
  have p0 := blk_cell HP7.out 0
  have p1 := blk_cell HP7.out 1
  go_wp2_with fail
  refine (KP.out _ _ hc1 _ HCa7.out).mono ?_
  rintro e w8 ⟨B8, d8, rfl, hd8, hC8, hb8⟩
  have HB8 := Lib.hid (HB7.out.trans hb8)
  have HP8 := Lib.hid (blk_below HP7.out hb8)
  have HCa8 := Lib.hid (Kd.C_below HCa7.out hb8)
  have HClb8 := Lib.hid (Kd.C_below HClb7.out hb8)
  have HClc8 := Lib.hid (Kd.C_below HClc7.out hb8)
  have HCld8 := Lib.hid (Kd.C_below HCld7.out hb8)
  clear hb8 HB7 HP7 p0 p1 HCa7 HClb7 HClc7 HCld7
  have HClh8 := Lib.hid hC8
  clear hC8
  have CC := Lib.hid (fun wx (h : Bel w8 wx) => (⟨Kd.C_below HCa8.out h, Kd.C_below HClb8.out h, Kd.C_below HClc8.out h, Kd.C_below HCld8.out h, Kd.C_below HClh8.out h, blk_cell (blk_below HP8.out h) 0, blk_cell (blk_below HP8.out h) 1⟩ : Kd.C k30 wx A1 a.length (m30 a) ∧ Kd.C k30 wx B5 lb.length (m30 lb) ∧ Kd.C k30 wx B6 lc.length (m30 lc) ∧ Kd.C k30 wx B7 ld.length (m30 ld) ∧ Kd.C k30 wx B8 lh.length (m30 lh) ∧ wx.cell? ⟨w1.heap.size, 0, none⟩ = some (.int .i64 x0) ∧ wx.cell? ⟨w1.heap.size, 1, none⟩ = some (.int .i64 x1)))
  have p0 := blk_cell HP8.out 0
  have p1 := blk_cell HP8.out 1
  have Ha : Hid (∀ z wx, Bel w8 wx → Calls Try.prog 19 #[.slice A1 a.length c1, .int .i64 z] wx fun e w' => e = .returned (.bool (hasB a z)) ∧ Bel wx w') := Lib.hid (fun z wx h => by
    have := phasB A1 c1 a z (by omega) hc1 wx (CC.out wx h).1
    rw [hga] at this
    simpa using this)
  have Ta : Hid (∀ wx, Bel w8 wx → Calls Try.prog 24 #[.slice A1 a.length c1] wx fun e w' => e = .returned (.int .i64 (tot a)) ∧ Bel wx w') := Lib.hid (fun wx h => by
    have := ptotB A1 c1 a (by omega) hc1 wx (CC.out wx h).1
    unfold totE at this
    rw [if_pos hga] at this
    exact this)
  have Glb : Hid (∀ wx, Bel w8 wx → Calls Try.prog 23 #[.slice B5 lb.length d5] wx fun e w' => e = .returned (.bool true) ∧ Bel wx w') := Lib.hid (fun wx h => HL.out.gb ▸ lgoodB B5 d5 lb (by have := HL.out.lb; omega) hd5 wx (CC.out wx h).2.1)
  have Hlb : Hid (∀ z wx, Bel w8 wx → Calls Try.prog 19 #[.slice B5 lb.length d5, .int .i64 z] wx fun e w' => e = .returned (.bool (hasB lb z)) ∧ Bel wx w') := Lib.hid (fun z wx h => by
    have := phasB B5 d5 lb z (by have := HL.out.lb; omega) hd5 wx (CC.out wx h).2.1
    rw [HL.out.gb] at this
    simpa using this)
  have Tlb : Hid (∀ wx, Bel w8 wx → Calls Try.prog 24 #[.slice B5 lb.length d5] wx fun e w' => e = .returned (.int .i64 (tot lb)) ∧ Bel wx w') := Lib.hid (fun wx h => by
    have := ptotB B5 d5 lb (by have := HL.out.lb; omega) hd5 wx (CC.out wx h).2.1
    unfold totE at this
    rw [if_pos HL.out.gb] at this
    exact this)
  have Glc : Hid (∀ wx, Bel w8 wx → Calls Try.prog 23 #[.slice B6 lc.length d6] wx fun e w' => e = .returned (.bool true) ∧ Bel wx w') := Lib.hid (fun wx h => HL.out.gc ▸ lgoodB B6 d6 lc (by have := HL.out.lc; omega) hd6 wx (CC.out wx h).2.2.1)
  have Hlc : Hid (∀ z wx, Bel w8 wx → Calls Try.prog 19 #[.slice B6 lc.length d6, .int .i64 z] wx fun e w' => e = .returned (.bool (hasB lc z)) ∧ Bel wx w') := Lib.hid (fun z wx h => by
    have := phasB B6 d6 lc z (by have := HL.out.lc; omega) hd6 wx (CC.out wx h).2.2.1
    rw [HL.out.gc] at this
    simpa using this)
  have Tlc : Hid (∀ wx, Bel w8 wx → Calls Try.prog 24 #[.slice B6 lc.length d6] wx fun e w' => e = .returned (.int .i64 (tot lc)) ∧ Bel wx w') := Lib.hid (fun wx h => by
    have := ptotB B6 d6 lc (by have := HL.out.lc; omega) hd6 wx (CC.out wx h).2.2.1
    unfold totE at this
    rw [if_pos HL.out.gc] at this
    exact this)
  have Gld : Hid (∀ wx, Bel w8 wx → Calls Try.prog 23 #[.slice B7 ld.length d7] wx fun e w' => e = .returned (.bool true) ∧ Bel wx w') := Lib.hid (fun wx h => HL.out.gd ▸ lgoodB B7 d7 ld (by have := HL.out.ld; omega) hd7 wx (CC.out wx h).2.2.2.1)
  have Hld : Hid (∀ z wx, Bel w8 wx → Calls Try.prog 19 #[.slice B7 ld.length d7, .int .i64 z] wx fun e w' => e = .returned (.bool (hasB ld z)) ∧ Bel wx w') := Lib.hid (fun z wx h => by
    have := phasB B7 d7 ld z (by have := HL.out.ld; omega) hd7 wx (CC.out wx h).2.2.2.1
    rw [HL.out.gd] at this
    simpa using this)
  have Tld : Hid (∀ wx, Bel w8 wx → Calls Try.prog 24 #[.slice B7 ld.length d7] wx fun e w' => e = .returned (.int .i64 (tot ld)) ∧ Bel wx w') := Lib.hid (fun wx h => by
    have := ptotB B7 d7 ld (by have := HL.out.ld; omega) hd7 wx (CC.out wx h).2.2.2.1
    unfold totE at this
    rw [if_pos HL.out.gd] at this
    exact this)
  have Glh : Hid (∀ wx, Bel w8 wx → Calls Try.prog 23 #[.slice B8 lh.length d8] wx fun e w' => e = .returned (.bool true) ∧ Bel wx w') := Lib.hid (fun wx h => HL.out.gh ▸ lgoodB B8 d8 lh (by have := HL.out.lh; omega) hd8 wx (CC.out wx h).2.2.2.2.1)
  have Hlh : Hid (∀ z wx, Bel w8 wx → Calls Try.prog 19 #[.slice B8 lh.length d8, .int .i64 z] wx fun e w' => e = .returned (.bool (hasB lh z)) ∧ Bel wx w') := Lib.hid (fun z wx h => by
    have := phasB B8 d8 lh z (by have := HL.out.lh; omega) hd8 wx (CC.out wx h).2.2.2.2.1
    rw [HL.out.gh] at this
    simpa using this)
  have Tlh : Hid (∀ wx, Bel w8 wx → Calls Try.prog 24 #[.slice B8 lh.length d8] wx fun e w' => e = .returned (.int .i64 (tot lh)) ∧ Bel wx w') := Lib.hid (fun wx h => by
    have := ptotB B8 d8 lh (by have := HL.out.lh; omega) hd8 wx (CC.out wx h).2.2.2.2.1
    unfold totE at this
    rw [if_pos HL.out.gh] at this
    exact this)
  clear HP8 HCa8 HClb8 HClc8 HCld8 HClh8 KA KC KM KP
  go_wp2_with fail
  refine (Glb.out _ (Bel.refl _)).mono ?_
  rintro e u0 ⟨rfl, hu0⟩
  have HU0 := Lib.hid hu0
  clear hu0
  clear p0 p1
  go_wp2_with fail
  refine (Glc.out _ HU0.out).mono ?_
  rintro e u1 ⟨rfl, hu1⟩
  have HU1 := Lib.hid (HU0.out.trans hu1)
  clear HU0
  clear hu1
  go_wp2_with fail
  refine (Gld.out _ HU1.out).mono ?_
  rintro e u2 ⟨rfl, hu2⟩
  have HU2 := Lib.hid (HU1.out.trans hu2)
  clear HU1
  clear hu2
  go_wp2_with fail
  refine (Glh.out _ HU2.out).mono ?_
  rintro e u3 ⟨rfl, hu3⟩
  have HU3 := Lib.hid (HU2.out.trans hu3)
  clear HU2
  clear hu3
  clear Glb Glc Gld Glh
  obtain ⟨p0, p1⟩ := (CC.out u3 HU3.out).2.2.2.2.2
  have ew1 : IntKind.i64.wrap (x1 - 1) = x1 - 1 := w64m (by omega) (by omega)
  have ew0 : IntKind.i64.wrap (x0 - 1) = x0 - 1 := w64m (by omega) (by omega)
  go_wp2_with fail
  clear ew0 ew1
  generalize bits BinOp.and IntKind.i64 at_ 63 = P2 at *
  have hz6 : ∀ wx, W9ok u3 at_ x0 x1 P2 wx → ∀ k : Nat, k < 6 → ∃ z, wx.cell? ((⟨u3.heap.size, 0, none⟩ : Addr).add k) = some (.int .i64 z) := by
    intro wx h k hk
    rcases (by omega : k = 0 ∨ k = 1 ∨ k = 2 ∨ k = 3 ∨ k = 4 ∨ k = 5) with rfl | rfl | rfl | rfl | rfl | rfl
    · exact ⟨_, blk_cell h.out 0⟩
    · exact ⟨_, blk_cell h.out 1⟩
    · exact ⟨_, blk_cell h.out 2⟩
    · exact ⟨_, blk_cell h.out 3⟩
    · exact ⟨_, blk_cell h.out 4⟩
    · exact ⟨_, blk_cell h.out 5⟩
  refine wp_gen (fun W => Bel u3 W ∧ W9ok u3 at_ x0 x1 P2 W) ⟨Bel.alloc _ _, ⟨heap_alloc_new _ _⟩⟩ ?_
  rintro W9 ⟨hB9, hf9⟩
  have CC9 := Lib.hid (fun wx (h : Bel W9 wx) => CC.out wx ((HU3.out.trans hB9).trans h))
  have CZ := Lib.hid (fun wx (h : Bel W9 wx) => hz6 wx ⟨blk_below hf9.out h⟩)
  have CC8 := Lib.hid (HU3.out.trans hB9)
  have HW9 := Lib.hid ((HB8.out.trans HU3.out).trans hB9)
  clear hz6 hB9 hf9 CC HU3 p0 p1
  generalize hA : (⟨u3.heap.size, 0, none⟩ : Addr) = ad at *
  clear hA
  go_loopw [109] (fun v109 wr => ∃ (k : Nat), v109 = .int .i64 k ∧ k ≤ 6 ∧ Hid (Bel W9 wr)) (fun v109 _ => 6 - (intOf v109).toNat)
  case atStart => exact ⟨0, rfl, by omega, Lib.hid (Bel.refl _)⟩
  case round =>
    obtain ⟨wi, rfl⟩ : ∃ wi : World, wi = wr := ⟨_, rfl⟩
    obtain ⟨k, rfl, hk, HI⟩ := hrel
    by_cases hlt : k < 6
    · obtain ⟨z, hz⟩ := CZ.out wi HI.out k hlt
      have hlt' : decide ((k : Int) < 6) = true := by simp; omega
      go_wp2_with fail
      obtain ⟨CC, hCC⟩ : ∃ CC : World → Prop, CC = fun w' => Bel wi w' := ⟨_, rfl⟩
      have q0 : ∀ wx, CC wx → wx.cell? ⟨w1.heap.size, 0, none⟩ = some (.int .i64 x0) := fun wx h => by rw [hCC] at h; exact (CC9.out wx (HI.out.trans h)).2.2.2.2.2.1
      have q1 : ∀ wx, CC wx → wx.cell? ⟨w1.heap.size, 1, none⟩ = some (.int .i64 x1) := fun wx h => by rw [hCC] at h; exact (CC9.out wx (HI.out.trans h)).2.2.2.2.2.2
      have Ka := Lib.hid (fun wx (h : CC wx) => show Calls Try.prog 19 #[.slice A1 a.length c1, .int .i64 z] wx fun e w' => e = .returned (.bool (hasB a z)) ∧ CC w' from by
        rw [hCC] at h ⊢
        exact (Ha.out z wx ((CC8.out.trans HI.out).trans h)).mono fun _ _ k => ⟨k.1, Bel.trans h k.2⟩)
      have Hdr : Hid (CC { wi with drawn := wi.drawn + 1 }) := Lib.hid (by rw [hCC]; exact Bel.drew _)
      have Hfin := Lib.hid (fun wy (h : CC wy) => show Bel wi wy from by rw [hCC] at h; exact h)
      clear hCC
      go_cut [20, 21] (fun s20 s21 wx => s20 = .bool (inB x0 x1 z) ∧ s21 = .bool (hasB a z) ∧ Hid (Bel wi wx))
      case first =>
        clear CC9 CZ Hlb Hlc Hld Hlh Ta Tlb Tlc Tld Tlh HL HC hxb hz
        by_cases h1 : x0 ≤ z
        · have g1 : decide (x0 ≤ z) = true := by simpa using h1
          have g1' : decide (z ≥ x0) = true := by simpa using h1
          by_cases h2 : z < x1
          · have g2 : decide (z < x1) = true := by simpa using h2
            have gi : inB x0 x1 z = true := by unfold inB; rw [g1, g2]; rfl
            refine wp_region_quiet (C := CC) (by kernel_rfl) (by kernel_rfl) Hdr.out ?_
            dsimp only [List.append]
            repeat
              (refine QuietC.step (fun K hK => ?_)
               first
                 | (apply QuietC.off
                    case hw => go_simp
                    refine hK _ ?_
                    clear hK K)
                 | (apply QuietC.val
                    case hw => go_simp
                    case hrun =>
                      intro wx hw
                      have hc0w := q0 wx hw
                      have hc1w := q1 wx hw
                      go_simp
                      try rfl
                    go_simp
                    refine hK _ ?_
                    clear hK K)
                 | (apply QuietC.call
                    case hw => go_simp
                    case hrun =>
                      intro wx hw
                      go_simp
                      try exact ⟨rfl, rfl⟩
                    case hc => exact Ka.out
                    go_simp
                    refine hK _ ?_
                    clear hK K))
            refine wpQuiet_nil ?_
            intro wz hz
            have hz2 := Hfin.out wz hz
            go_wp2_with fail
            go_meet
            exact ⟨by rw [gi], rfl, Lib.hid hz2⟩
          · have g2 : decide (z < x1) = false := by simpa using h2
            have gi : inB x0 x1 z = false := by unfold inB; rw [g1, g2]; rfl
            refine wp_region_quiet (C := CC) (by kernel_rfl) (by kernel_rfl) Hdr.out ?_
            dsimp only [List.append]
            repeat
              (refine QuietC.step (fun K hK => ?_)
               first
                 | (apply QuietC.off
                    case hw => go_simp
                    refine hK _ ?_
                    clear hK K)
                 | (apply QuietC.val
                    case hw => go_simp
                    case hrun =>
                      intro wx hw
                      have hc0w := q0 wx hw
                      have hc1w := q1 wx hw
                      go_simp
                      try rfl
                    go_simp
                    refine hK _ ?_
                    clear hK K)
                 | (apply QuietC.call
                    case hw => go_simp
                    case hrun =>
                      intro wx hw
                      go_simp
                      try exact ⟨rfl, rfl⟩
                    case hc => exact Ka.out
                    go_simp
                    refine hK _ ?_
                    clear hK K))
            refine wpQuiet_nil ?_
            intro wz hz
            have hz2 := Hfin.out wz hz
            go_wp2_with fail
            go_meet
            exact ⟨by rw [gi], rfl, Lib.hid hz2⟩
        · have g1 : decide (x0 ≤ z) = false := by simpa using h1
          have g1' : decide (z ≥ x0) = false := by simpa using h1
          have gi : inB x0 x1 z = false := by unfold inB; rw [g1]; rfl
          refine wp_region_quiet (C := CC) (by kernel_rfl) (by kernel_rfl) Hdr.out ?_
          dsimp only [List.append]
          repeat
            (refine QuietC.step (fun K hK => ?_)
             first
               | (apply QuietC.off
                  case hw => go_simp
                  refine hK _ ?_
                  clear hK K)
               | (apply QuietC.val
                  case hw => go_simp
                  case hrun =>
                    intro wx hw
                    have hc0w := q0 wx hw
                    have hc1w := q1 wx hw
                    go_simp
                    try rfl
                  go_simp
                  refine hK _ ?_
                  clear hK K)
               | (apply QuietC.call
                  case hw => go_simp
                  case hrun =>
                    intro wx hw
                    go_simp
                    try exact ⟨rfl, rfl⟩
                  case hc => exact Ka.out
                  go_simp
                  refine hK _ ?_
                  clear hK K))
          refine wpQuiet_nil ?_
          intro wz hz
          have hz2 := Hfin.out wz hz
          go_wp2_with fail
          go_meet
          exact ⟨by rw [gi], rfl, Lib.hid hz2⟩
      case rest =>
        obtain ⟨rfl, rfl, HI2⟩ := hcut
        have HI3 := Lib.hid ((HI.out).trans HI2.out)
        have Kb := Lib.hid (fun v (hv : v = (inB x0 x1 z || hasB a z)) wx h => (hv.trans (HL.out.fb z).symm) ▸ Hlb.out z wx h)
        have Kc := Lib.hid (fun v (hv : v = (hasB a z && !inB x0 x1 z)) wx h => (hv.trans (HL.out.fc z).symm) ▸ Hlc.out z wx h)
        have Kd_ := Lib.hid (fun v (hv : v = (inB x0 x1 z && hasB a z)) wx h => (hv.trans (HL.out.fd z).symm) ▸ Hld.out z wx h)
        have Kh := Lib.hid (fun v (hv : v = (inB x0 x1 z && !hasB a z)) wx h => (hv.trans (HL.out.fh z).symm) ▸ Hlh.out z wx h)
        clear HI HI2 q0 q1 Hdr Hfin Ka hz CZ CC9 HL Hlb Hlc Hld Hlh Ha Ta Tlb Tlc Tld Tlh
        generalize inB x0 x1 z = I at *
        generalize hasB a z = J at *
        cases I <;> cases J
        · skip
          go_wp2_with fail
          refine (Kb.out false rfl _ (CC8.out.trans HI3.out)).mono ?_
          rintro e y0 ⟨rfl, hy0⟩
          have HY0 := Lib.hid (HI3.out.trans hy0)
          clear hy0
          go_wp2_with fail
          refine (Kc.out false rfl _ (CC8.out.trans HY0.out)).mono ?_
          rintro e y1 ⟨rfl, hy1⟩
          have HY1 := Lib.hid (HY0.out.trans hy1)
          clear hy1
          go_wp2_with fail
          refine (Kd_.out false rfl _ (CC8.out.trans HY1.out)).mono ?_
          rintro e y2 ⟨rfl, hy2⟩
          have HY2 := Lib.hid (HY1.out.trans hy2)
          clear hy2
          go_wp2_with fail
          refine (Kh.out false rfl _ (CC8.out.trans HY2.out)).mono ?_
          rintro e y3 ⟨rfl, hy3⟩
          have HY3 := Lib.hid (HY2.out.trans hy3)
          clear hy3
          go_wp2_with fail
          exact ⟨⟨k + 1, by congr 1, by omega, HY3⟩, by simp [intOf]; omega⟩
        · skip
          go_wp2_with fail
          refine (Kb.out true rfl _ (CC8.out.trans HI3.out)).mono ?_
          rintro e y0 ⟨rfl, hy0⟩
          have HY0 := Lib.hid (HI3.out.trans hy0)
          clear hy0
          go_wp2_with fail
          refine (Kc.out true rfl _ (CC8.out.trans HY0.out)).mono ?_
          rintro e y1 ⟨rfl, hy1⟩
          have HY1 := Lib.hid (HY0.out.trans hy1)
          clear hy1
          go_wp2_with fail
          refine (Kd_.out false rfl _ (CC8.out.trans HY1.out)).mono ?_
          rintro e y2 ⟨rfl, hy2⟩
          have HY2 := Lib.hid (HY1.out.trans hy2)
          clear hy2
          go_wp2_with fail
          refine (Kh.out false rfl _ (CC8.out.trans HY2.out)).mono ?_
          rintro e y3 ⟨rfl, hy3⟩
          have HY3 := Lib.hid (HY2.out.trans hy3)
          clear hy3
          go_wp2_with fail
          exact ⟨⟨k + 1, by congr 1, by omega, HY3⟩, by simp [intOf]; omega⟩
        · skip
          go_wp2_with fail
          refine (Kb.out true rfl _ (CC8.out.trans HI3.out)).mono ?_
          rintro e y0 ⟨rfl, hy0⟩
          have HY0 := Lib.hid (HI3.out.trans hy0)
          clear hy0
          go_wp2_with fail
          refine (Kc.out false rfl _ (CC8.out.trans HY0.out)).mono ?_
          rintro e y1 ⟨rfl, hy1⟩
          have HY1 := Lib.hid (HY0.out.trans hy1)
          clear hy1
          go_wp2_with fail
          refine (Kd_.out false rfl _ (CC8.out.trans HY1.out)).mono ?_
          rintro e y2 ⟨rfl, hy2⟩
          have HY2 := Lib.hid (HY1.out.trans hy2)
          clear hy2
          go_wp2_with fail
          refine (Kh.out true rfl _ (CC8.out.trans HY2.out)).mono ?_
          rintro e y3 ⟨rfl, hy3⟩
          have HY3 := Lib.hid (HY2.out.trans hy3)
          clear hy3
          go_wp2_with fail
          exact ⟨⟨k + 1, by congr 1, by omega, HY3⟩, by simp [intOf]; omega⟩
        · skip
          go_wp2_with fail
          refine (Kb.out true rfl _ (CC8.out.trans HI3.out)).mono ?_
          rintro e y0 ⟨rfl, hy0⟩
          have HY0 := Lib.hid (HI3.out.trans hy0)
          clear hy0
          go_wp2_with fail
          refine (Kc.out false rfl _ (CC8.out.trans HY0.out)).mono ?_
          rintro e y1 ⟨rfl, hy1⟩
          have HY1 := Lib.hid (HY0.out.trans hy1)
          clear hy1
          go_wp2_with fail
          refine (Kd_.out true rfl _ (CC8.out.trans HY1.out)).mono ?_
          rintro e y2 ⟨rfl, hy2⟩
          have HY2 := Lib.hid (HY1.out.trans hy2)
          clear hy2
          go_wp2_with fail
          refine (Kh.out false rfl _ (CC8.out.trans HY2.out)).mono ?_
          rintro e y3 ⟨rfl, hy3⟩
          have HY3 := Lib.hid (HY2.out.trans hy3)
          clear hy3
          go_wp2_with fail
          exact ⟨⟨k + 1, by congr 1, by omega, HY3⟩, by simp [intOf]; omega⟩
    · have Mlb := Lib.hid (fun wx (h : Bel wi wx) => Tlb.out wx ((CC8.out.trans HI.out).trans h))
      have Mlc := Lib.hid (fun wx (h : Bel wi wx) => Tlc.out wx ((CC8.out.trans HI.out).trans h))
      have Mld := Lib.hid (fun wx (h : Bel wi wx) => Tld.out wx ((CC8.out.trans HI.out).trans h))
      have Mlh := Lib.hid (fun wx (h : Bel wi wx) => Tlh.out wx ((CC8.out.trans HI.out).trans h))
      have Ma := Lib.hid (fun wx (h : Bel wi wx) => Ta.out wx ((CC8.out.trans HI.out).trans h))
      have MN := Lib.hid (fun wx (h : Bel wi wx) => KN.out wx)
      have q0 := fun wx (h : Bel wi wx) => (CC9.out wx (HI.out.trans h)).2.2.2.2.2.1
      have q1 := fun wx (h : Bel wi wx) => (CC9.out wx (HI.out.trans h)).2.2.2.2.2.2
      have HF := Lib.hid (HW9.out.trans HI.out)
      have t1 := HL.out.t1
      have t2 := HL.out.t2
      have t3 := HL.out.t3
      have n0 := HL.out.n0
      have n1 := HL.out.n1
      have n2 := HL.out.n2
      clear HI CZ CC9 HL Hlb Hlc Hld Hlh Ha Ta Tlb Tlc Tld Tlh KN HW9
      generalize tot lb = nb at *
      generalize tot lc = nc at *
      generalize tot ld = nd at *
      generalize tot lh = nh at *
      generalize tot a = na at *
      have e1 : IntKind.i64.wrap (nc + (x1 - x0)) = nb := by rw [w64m (by omega) (by omega)]; omega
      have e2 : IntKind.i64.wrap (nd + nh) = x1 - x0 := by rw [w64m (by omega) (by omega)]; omega
      have e3 : IntKind.i64.wrap (nc + nd) = na := by rw [w64m (by omega) (by omega)]; omega
      clear t1 t2 t3 n0 n1 n2 hxb
      generalize x1 - x0 = D at *
      have r1 : (nb == nb) = true := by simp
      have r2 : (D == D) = true := by simp
      have r3 : (na == na) = true := by simp
      have hwi := Bel.refl wi
      go_wp2_with fail
      go_region_held3 (fun w' => Bel wi w') (first | assumption | exact Bel.drew _ | exact Bel.trans (by assumption) (Bel.drew _) | exact Bel.trans (by assumption) (by assumption)) ((first | (go_at_call 24; first | ((with_reducible refine (Mlb.out _ (by assumption)).mono ?_); rintro e wtlb ⟨rfl, hbtlb⟩) | ((with_reducible refine (Mlc.out _ (by assumption)).mono ?_); rintro e wtlc ⟨rfl, hbtlc⟩) | ((with_reducible refine (Mld.out _ (by assumption)).mono ?_); rintro e wtld ⟨rfl, hbtld⟩) | ((with_reducible refine (Mlh.out _ (by assumption)).mono ?_); rintro e wtlh ⟨rfl, hbtlh⟩) | ((with_reducible refine (Ma.out _ (by assumption)).mono ?_); rintro e wta ⟨rfl, hbta⟩)) | (go_at_call 22; refine (MN.out _ (by assumption)).mono ?_; rintro e wn ⟨rfl, hbn⟩)))
      all_goals
        go_wp2_with fail
        go_ret
        exact ⟨rfl, HF.out.trans (by assumption)⟩
end Go.Proofs.Ytjgekbakommkmaa
