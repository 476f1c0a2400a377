/- The law: nothing of the caller's has changed. | The law, walked. -/
import Derived.Test.YtgpkpheejefiiaaGreatDoorX35
import Derived.Test.YtgpkpheejefiiaaGreatDoorX36
import Derived.Test.YtgpkpheejefiiaaGreatDoorX37
import Derived.WideMake
import Derived.Test.YtgpkpheejefiiaaGreatDoorX38
import Derived.Lib.MinMax
import Derived.Deep.RegionHeld3
section
set_option linter.unusedVariables false
namespace Go.Proofs.YtgpkpheejefiiaaGreatDoor
open Go.RowKit
theorem bel_of {w w' : World} (hk : Kf F01 w w') (g : GW w) (g' : GW w') : Bel w w' := by
  refine ⟨hk.os, hk.tape, hk.output, hk.size, fun k hk' => ?_⟩
  by_cases h : k ≤ 1
  · obtain rfl | rfl : k = 0 ∨ k = 1 := by omega
    · obtain ⟨m, h1, h2⟩ := g.g0
      obtain ⟨m', h3, h4⟩ := g'.g0
      rw [h1] at h3
      cases h3
      exact h4.trans h2.symm
    · obtain ⟨m, h1, h2⟩ := g.g1
      obtain ⟨m', h3, h4⟩ := g'.g1
      rw [h1] at h3
      cases h3
      exact h4.trans h2.symm
  · exact hk.blk k hk' h
end Go.Proofs.YtgpkpheejefiiaaGreatDoor
end
section
set_option linter.unusedVariables false
set_option linter.unusedSimpArgs false
namespace Go.Proofs.YtgpkpheejefiiaaGreatDoor
open Go.RowKit
set_option maxRecDepth 100000
/-- What stands at a round of the law: k acts are done, p keys are served. -/
def LI (w : World) (base wb mb : Nat) (cells : Array Value) (e : Nat) (m q age p : Int) (k : Nat) (U : World) : Prop := ∃ a s gd, LM w base wb mb cells e m q U a s gd s.l.rs.length ∧ B1 s age p gd k
set_option maxHeartbeats 8000000 in
theorem ageing3 (w : World) (x0 x1 x2 x3 x4 x5 x6 : Int) (A : Option Addr) (cl : Nat) (l : List LA) (hnl : l.length ≤ cl) (M Q : Nat) (hG : GOK M Q) (q age rows dear ahead : Int) (hO : OOK q age rows dear ahead) (hd6 : dear < 6) (ha8 : age ≤ 8)
    {b : Nat} {S1 : Tr} {n1 : Nat} {S2 : Tr} {n2 a : Nat} {S3 : Tr} {n3 : Nat} {S4 : Tr} {n4 a2 : Nat} {S5 : Tr} {n5 : Nat} {S6 : Tr} {n6 : Nat} (hB : BegT M Q b S1 n1 S2 n2 a S3 n3 S4 n4 a2 S5 n5 S6 n6) (hw : GW w) (hC : LAC w A l)
    (h6 : ∀ w, GW w → Calls Tryz.prog 6 #[SV7 x0 x1 x2 x3 x4 x5 x6] w fun e w' => ∃ wb bay i, e = .returned (.tuple #[PTR wb, .bool true]) ∧ Begun w w' wb b bay i S4 n4 M Q q age rows dear ahead) :
    Calls Tryz.prog 3 #[SV7 x0 x1 x2 x3 x4 x5 x6, .slice A l.length cl] w fun e w' => e = .returned (.bool true) ∧ Bel w w' := by
  have K6 := Lib.hid h6
  have HB := Lib.hid hB
  have HW := Lib.hid hw
  have HC := Lib.hid hC
  have HG2 := Lib.hid hG.blocks
  generalize hln : l.length = nl at *
  have HNL := Lib.hid hln
  clear h6 hB hw hC hln
  go_enter Tryz.func3, Tryz.ntmps3
  go_wp2_with fail
  refine (K6.out _ (HW.out.bel (Bel.alloc w _))).mono ?_
  rintro e w1 ⟨wb, bay, i, rfl, hg⟩
  have HG := Lib.hid hg
  obtain ⟨xv, Aw, nw, cw, hbw, hnw⟩ := hg.bw
  have HNW := Lib.hid hnw
  have hnw2 : 2 ≤ nw ∧ nw ≤ 30 := by have := HG2.out; omega
  have c2 := blk_cell hbw 2
  have c4 := blk_cell hbw 4
  have f2 := blk_frozen hbw
  have HBW := Lib.hid hbw
  clear hg hbw hnw
  go_wp2_with fail
  have hlo := HG.out.lo
  have hw2 := HW.out.two
  have hg1 : GW w1 := by
    obtain ⟨r', y, _⟩ := HG.out.ys
    exact GW.of_sim y.sim y.gl HB.out.gl
  have hset : ∀ k, k ≠ wb → ((w1.setCell ⟨wb, 2, none⟩ (.int .i64 40)).setCell ⟨wb, 4, none⟩ (.int .i64 6)).heap[k]? = w1.heap[k]? := fun k hk => (Below.heap_setCell _ ⟨wb, 4, none⟩ _ k hk).trans (Below.heap_setCell _ ⟨wb, 2, none⟩ _ k hk)
  have hlo2 : (w.alloc (.cells #[.int .i64 x0, .int .i64 x1, .int .i64 x2, .int .i64 x3, .int .i64 x4, .int .i64 x5, .int .i64 x6] 23)).heap.size ≤ wb := hlo
  have hwb2 : 2 ≤ wb := by simp at hlo2; omega
  have hgw : GW ((w1.setCell ⟨wb, 2, none⟩ (.int .i64 40)).setCell ⟨wb, 4, none⟩ (.int .i64 6)) :=
    ⟨by obtain ⟨m, h1, h2⟩ := hg1.g0; exact ⟨m, h1, (hset 0 (by omega)).trans h2⟩, by obtain ⟨m, h1, h2⟩ := hg1.g1; exact ⟨m, h1, (hset 1 (by omega)).trans h2⟩⟩
  have hb2 : ((w1.setCell ⟨wb, 2, none⟩ (.int .i64 40)).setCell ⟨wb, 4, none⟩ (.int .i64 6)).heap[wb]? = some (.cells (wCells M Q 40 age 6 dear ahead (PTR bay) xv (.slice Aw nw cw)) 36 (0, 0)) := setc_blk (i := 4) (setc_blk (i := 2) HBW.out _) _
  have HB2 := Lib.hid (And.intro hb2 (And.intro hset hwb2))
  refine (lives_ok _ hgw).mono ?_
  rintro e w3 ⟨rfl, hb3⟩
  have HB3 := Lib.hid hb3
  clear hb3 hb2 hset hgw hg1 hlo hlo2 c2 c4 f2 hwb2
  go_wp2_with fail
  obtain ⟨base, hbase⟩ : ∃ base, base = (w.alloc (.cells #[.int .i64 x0, .int .i64 x1, .int .i64 x2, .int .i64 x3, .int .i64 x4, .int .i64 x5, .int .i64 x6] 23)).heap.size := ⟨_, rfl⟩
  obtain ⟨r', hy1, hnf, c, hc⟩ := HG.out.ys
  rw [← hbase] at hy1
  have hbs : base ≤ w3.heap.size := by
    have e1 := HG.out.kf.size
    have e2 := HB3.out.size
    simp at e2
    omega
  have hb3' := blk_below HB2.out.1 HB3.out
  have hwz := blk_lt hb3'
  have hy3 : YS base i S4 n4 r' w3 := (hy1.agree (by simp) (fun k hk => HB2.out.2.1 k (fun e => hnf (e ▸ hk)))).bel HB3.out
  have hOp : Calls Tryz.prog 20 #[PTR bay] w3 fun e w1 => ∃ ag, ∃ j : Pl × Nat, e = .returned (.tuple #[PTR ag, .int .i64 0]) ∧ Kf (feet r') w3 w1 ∧ ¬ feet j.1 wb ∧ (r'.le j.1 ∧ wb < j.2 ∧ ∀ k, feet j.1 k → k ≤ 1 ∨ base ≤ k) ∧ ArrT (feet j.1) (fun w' => ∃ r2, YS base j.1 S6 n6 r2 w' ∧ ∀ k, feet r2 k → feet j.1 k ∨ j.2 ≤ k) w1 ag M Q := by
    refine (hy3.call hbs HB.out.open2 (args' := [PTR bay]) (.cons _ _ _ _ (.ptr b 0 bay c hc) .nil) (enter_run (by kernel_rfl) _ _)).mono ?_
    rintro e w4 ⟨r5, v, rfl, hv, hy, hk, hft⟩
    cases hv with
    | tup _ u hu =>
      cases hu with | cons _ v1 _ u1 h1 hu =>
      cases hu with | cons _ v2 _ u2 h2 hu =>
      cases hu
      cases h2
      cases h1 with
      | ptr _ _ ag c3 hag =>
        refine ⟨ag, (r5, w4.heap.size), rfl, hk, fun h => ?_, ⟨hy.le, by show wb < w4.heap.size; have := hk.size; omega, hy.ft⟩, arrT_of hy (Nat.le_trans hbs hk.size) hag HB.out.arr2 HB.out.lab2 HB.out.arr3 HB.out.gl2 hG⟩
        rcases hft _ h with e | e
        · exact hnf e
        · omega
  refine (open8 (feet r') (fun j : Pl × Nat => feet j.1) (fun j w' => ∃ r2, YS base j.1 S6 n6 r2 w' ∧ ∀ k, feet r2 k → feet j.1 k ∨ j.2 ≤ k) (fun j => r'.le j.1 ∧ wb < j.2 ∧ ∀ k, feet j.1 k → k ≤ 1 ∨ base ≤ k) w3 base wb M Q 40 age 6 dear ahead (PTR bay) _ _ ⟨by omega, by omega, hO.a1, hO.a2, by omega, by omega, hO.d1, hd6, hO.h1, hO.h2⟩ hbs hb3' hnf hOp).mono ?_
  rintro e w9 ⟨ea, j, w7, w8, rfl, hGi, hnj, hk7, hk8, hY8, hw9, hb8, hE⟩
  have H9 := Lib.hid (And.intro hGi (And.intro hnj (And.intro hk7 (And.intro hk8 (And.intro hY8 (And.intro hw9 (And.intro hb8 (hE rfl))))))))
  clear hGi hnj hk7 hk8 hY8 hw9 hb8 hE hOp
  have hbel9 : Hid (Bel w w9) := Lib.hid (by
    obtain ⟨hGi, hnj, hk7, hk8, ⟨r2, hy2, hf2⟩, hw9, hb8, hE⟩ := H9.out
    have hlo := HG.out.lo
    rw [← hbase] at hlo
    have off : ∀ k, k ≠ wb → w9.heap[k]? = w8.heap[k]? := fun k hk => by rw [hw9]; exact Below.heap_setCell w8 ⟨wb, 8, none⟩ _ k hk
    have hs9 : w9.heap.size = w8.heap.size := by rw [hw9]; simp
    have hwb : w.heap.size < base := by rw [hbase]; simp
    have hnw : ¬ feet r2 wb := fun h => by
      rcases hf2 _ h with e | e
      · exact hnj e
      · have := hGi.2.1; omega
    have hg9 : GW w9 := GW.of_sim (hy2.agree (by rw [hs9]; exact Nat.le_refl _) (fun k hk => off k (fun e => hnw (e ▸ hk)))).sim hy2.gl HB.out.gl2
    have e9 : w9.os = w8.os ∧ w9.tape = w8.tape ∧ w9.output = w8.output := by rw [hw9]; exact ⟨rfl, rfl, rfl⟩
    have kG := HG.out.kf
    have b3 := HB3.out
    have nf : ∀ (r : Pl) (k : Nat), (∀ k, feet r k → k ≤ 1 ∨ base ≤ k) → ¬ k ≤ 1 → k < w.heap.size → ¬ feet r k := fun r k hr h1 h2 h => by
      rcases hr k h with e | e <;> omega
    refine bel_of ⟨e9.1.trans (hk8.os.trans (hk7.os.trans (b3.os.trans kG.os))), e9.2.1.trans (hk8.tape.trans (hk7.tape.trans (b3.tape.trans kG.tape))), e9.2.2.trans (hk8.output.trans (hk7.output.trans (b3.output.trans kG.output))), ?_, fun k hk hF => ?_⟩ HW.out hg9
    · have := hk8.size; have := hk7.size; omega
    · have hk3 : k < w3.heap.size := by omega
      have hk7' : k < w7.heap.size := Nat.lt_of_lt_of_le hk3 hk7.size
      have hka : k < (w.alloc (.cells #[.int .i64 x0, .int .i64 x1, .int .i64 x2, .int .i64 x3, .int .i64 x4, .int .i64 x5, .int .i64 x6] 23)).heap.size := by rw [← hbase]; omega
      have hk1 : k < w1.heap.size := Nat.lt_of_lt_of_le hka kG.size
      exact (off k (by omega)).trans ((hk8.blk k hk7' (nf _ k hGi.2.2 hF hk)).trans ((hk7.blk k hk3 (nf _ k hy3.ft hF hk)).trans ((b3.block k (by simp; exact hk1)).trans ((HB2.out.2.1 k (by omega)).trans ((kG.blk k hka hF).trans ((Bel.alloc w _).block k hk)))))))
  have hmm := fun w => run_makeMap_plain (P := Tryz.prog) (w := w) 38
  have hsl : ∀ W, (Instr.slice 24 (.slice A nl cl) none (some (.int .i64 (min (nl : Int) 80))) none).run Tryz.prog W = .ok (.slice A (min 80 nl) cl) W := fun W => sl24 80 (by omega) A cl nl hnl W
  have hN1 : min 80 nl ≤ 80 := by omega
  have hN2 : min 80 nl ≤ nl := by omega
  generalize min 80 nl = N at *
  have HN2 := Lib.hid hN2
  clear hN2
  have hz9 : Hid (LI w base wb w9.heap.size (wCells M Q 40 age 6 dear ahead (PTR bay) (PTR ea.e) (.slice Aw nw cw)) ea.e M Q age 0 0 (w9.alloc (.map #[] 0))) := Lib.hid (by
    obtain ⟨hGi, hnj, hk7, hk8, ⟨r2, hy2, hf2⟩, hw9, hb8, ⟨n, hn, hE⟩⟩ := H9.out
    have hba := Bel.alloc w9 (.map #[] 0)
    have hXb : ¬ ea.X w9.heap.size := fun h => by
      have hE := hE
      rcases h with e | e | e | e
      · have := hE.c.rows.lt; omega
      · obtain ⟨_, k⟩ := hE.c.kept; have := k.lt; omega
      · have := blk_lt hE.q.blk; omega
      · have := blk_lt hE.l.blk; omega
    have hage : max 1 (min age 65536) = age := by have := hO.a1; omega
    rw [hage] at hE
    refine ⟨ea, _, fun _ => none, ⟨rfl, hE.bel hba, rfl, rfl, TMap.made _, hXb, blk_below (by rw [hw9]; exact setc_blk (i := 8) hb8 _) hba, hbel9.out.trans hba, by rw [hbase]; simp, by have := hbel9.out.size; exact this⟩, ⟨L21.bd_new age hO.a1 hO.a2, ?_, by omega, by omega, by simp, by simp, by simp⟩⟩
    have := elaw_new M Q age ⟨⟨6, dear, [], []⟩, [], n⟩
    rw [hage] at this
    exact this)
  have ha1 := hO.a1
  clear H9 hbel9 HB2 HB3 HBW hb3' hy3 hy1 hnf hc
  go_wp2_with fail
  generalize w9.heap.size = mb at *
  generalize ea.e = eo at *
  go_loopw [8, 53] (fun v8 v53 wr => ∃ (p : Int) (k : Nat), v8 = .int .i64 p ∧ v53 = .int .i64 k ∧ k ≤ N ∧ Hid (LI w base wb mb (wCells M Q 40 age 6 dear ahead (PTR bay) (PTR eo) (.slice Aw nw cw)) eo M Q age p k wr)) (fun _ v53 _ => N - (intOf v53).toNat)
  case atStart => exact ⟨0, 0, rfl, rfl, by omega, hz9⟩
  case round =>
    obtain ⟨wi, rfl⟩ : ∃ wi : World, wi = wr := ⟨_, rfl⟩
    obtain ⟨p, k, rfl, rfl, hk, HI⟩ := hrel
    obtain ⟨a, s, gd, hM, hB⟩ := HI.out
    have HM := Lib.hid hM
    have HB := Lib.hid hB
    have hp0 := hB.p0
    have hpk := hB.pk
    clear HI hz9 hB
    by_cases hlt : k < N
    · obtain ⟨ad, rfl, hc⟩ := HC.out k (by have := HN2.out; have := HNL.out; omega)
      have hc := hc.bel hM.bel
      generalize laAt l k = x at *
      obtain ⟨x0, x1, x2, x3, A4, n4, c4⟩ := x
      obtain ⟨z0, z1, z2, z3, z4⟩ := hc
      simp only [] at z0 z1 z2 z3 z4
      have hlt' : decide ((k : Int) < N) = true := by simp; omega
      clear hM
      go_wp2_with fail
      refine wp_gen (fun W => Bel wi W ∧ W.heap[wi.heap.size]? = some (.cells #[.int .i64 x0, .int .i64 x1, .int .i64 x2, .int .u8 x3, .slice A4 n4 c4] 41 (0, 0))) ⟨Bel.alloc wi _, heap_alloc_new wi _⟩ ?_
      rintro W ⟨hbW, hbox⟩
      obtain ⟨yb, hyb⟩ : ∃ yb, yb = wi.heap.size := ⟨_, rfl⟩
      rw [← hyb] at hbox ⊢
      have HMW := Lib.hid (HM.out.to hbW)
      have HBX := Lib.hid hbox
      have q0 := blk_cell hbox 0
      have q1 := blk_cell hbox 1
      have c9 := blk_cell HMW.out.wb 9
      have hmx := mixedE
      obtain ⟨u1, key, e1, h1, t1, m1, a1, b1⟩ := modr x1 nw (by omega)
      obtain ⟨u0, r0, e0, h0, t0, m0, a0, b0⟩ := modr x0 3 (by omega)
      have hw1 : IntKind.i64.wrap key = key := w64i (by omega) (by omega)
      have hw0 : IntKind.i64.wrap r0 = r0 := w64i (by omega) (by omega)
      have hz : ((nw : Int) = 0) = False := eq_false (by omega)
      have HK := Lib.hid (And.intro a1 b1)
      clear hbW z0 z1 z2 z3 z4 hyb hbox a1 b1 a0 b0 HM
      go_region
      clear hz c9
      refine then_gen (fun V => Bel W V) (Bel.drew W) ?_
      rintro V hbV
      have HMV := Lib.hid (HMW.out.to hbV)
      have hboxV := blk_below HBX.out hbV
      have HBV := Lib.hid hboxV
      have q0 := blk_cell hboxV 0
      have c8 := blk_cell HMV.out.wb 8
      clear hbV hboxV HMW HBX
      by_cases hdo : r0 = 2
      · have hd1 : (r0 == 2) = true := by simpa using hdo
        have hd2 : decide (r0 = 2) = true := by simpa using hdo
        by_cases hl0 : 0 < s.l.rs.length
        · have KD := Lib.hid (LM.disp HMV.out HB.out (by omega) hl0)
          obtain ⟨z, hz, hez⟩ := L21.pickK_mem HB.out.bd.ok hl0
          have hkk := HB.out.bd.ok.key z hz
          rw [hez] at hkk
          have hwf : (Lit.int .i64 (L21.pickK s.l)).wf = true := wf_small hkk.1 (by omega)
          obtain ⟨d, hgk, hpd⟩ := (L21.bd_pick HB.out.bd hl0).1
          have HGK := Lib.hid hgk
          generalize L21.pickK s.l = pk at *
          have hw2 : IntKind.i64.wrap (p + 1) = p + 1 := w64i (by omega) (by omega)
          have d1 : decide (d < p + 1) = false := by simp; omega
          have d2 : ¬ (d < p + 1) := by omega
          have hinj : ∀ x y : Int, Value.int .i64 x = Value.int .i64 y → x = y := fun x y h => by simpa using h
          clear hz hez hkk hgk
          go_wp2_with fail
          refine KD.out.mono ?_
          rintro e w6 ⟨a', s', rfl, hM6, hB6, hL6⟩
          have HM6 := Lib.hid hM6
          have HB6 := Lib.hid hB6
          have HL6 := Lib.hid hL6
          have hlook := hM6.mp.look pk hwf
          rw [HGK.out] at hlook
          simp only [Option.getD_some] at hlook
          obtain ⟨w7, hdr, hP7, hg7⟩ := TMap.drop hM6.mp keyed3 Tryz.underlying38 hinj hwf (Maps.keyOf_int_mk Tryz.underlying3 hwf) 0
          rw [HGK.out] at hP7
          simp only [Option.isSome_some, if_true] at hP7
          rw [← hL6] at hP7
          have HM7 := Lib.hid (hM6.map hP7 hg7.grown)
          obtain ⟨D, hown, hsz, hD⟩ := hP7
          have HDD := Lib.hid (And.intro hsz hD)
          clear hM6 hB6 hL6 c8 hg7 hsz hD
          go_wp2_with (first | (at_range; refine wpList_range_own _ rfl _ 38 rfl 3 3 keyed3 Tryz.underlying38 _ mb s'.l.rs.length D rfl hown ?_; intro w8 hrg8 hg8 hs8))
          go_frame
          have hb8 : Bel w7 w8 := ⟨hg8.os, hg8.tape, hg8.output, hg8.size, fun k hk => hg8.block k hk (by simp)⟩
          obtain ⟨rb, hrb⟩ : ∃ rb, rb = w7.heap.size := ⟨_, rfl⟩
          rw [← hrb] at hrg8 ⊢
          have HRB : Hid (w7.heap.size = rb) := Lib.hid hrb.symm
          have HB8 := Lib.hid hb8
          clear hg8 hs8 hb8 hrb hown hdr hlook
          go_loopw [15] (fun _ wr => ∃ (left : Lit → Bool) (cnt : Nat), wr.ranges Tryz.prog 3 (plainElem Tryz.prog 3) mb rb s'.l.rs.length D left cnt ∧ Hid (Bel w7 wr)) (fun _ wr => wr.rangeLeft mb rb)
          case atStart => exact ⟨_, _, hrg8, HB8⟩
          case round =>
            obtain ⟨wj, rfl⟩ : ∃ wj : World, wj = wr := ⟨_, rfl⟩
            obtain ⟨left, cnt, hrg, HBj⟩ := hrel
            clear hrg8
            go_wp2_with (first | (at_next; refine wpList_next_ranges_ii _ rfl _ rfl 3 3 .i64 .i64 keyed3 Tryz.underlying3 Tryz.underlying3 mb rb s'.l.rs.length D left cnt rfl hrg ?_ ?_))
            · intro _ hl0
              have hfin : Hid (LI w base wb mb (wCells M Q 40 age 6 dear ahead (PTR bay) (PTR eo) (.slice Aw nw cw)) eo M Q age (p + 1) (k + 1) wj) := Lib.hid ⟨a', s', _, HM7.out.to HBj.out, HB6.out⟩
              clear hrg HBj
              go_wp2_with fail
              exact ⟨⟨p + 1, k + 1, rfl, by congr 1, by omega, hfin⟩, by simp [intOf]; omega⟩
            · intro x c2 w9 cnt1 hwx hwc hlx hat hrg1 hltc hg1 hs1 hen
              have hgx := IM.at HDD.out.2 hwx hat
              have hall := HB6.out.bd.all hgx
              have e1 : decide (c2 < p + 1) = false := by simp; omega
              have e2 : decide (p + 1 > c2) = false := by simp; omega
              have e3 : ¬ (c2 < p + 1) := by omega
              have HR := Lib.hid (And.intro hrg hrg1)
              have HL : Hid (cnt1 < cnt) := Lib.hid hltc
              have HB9 : Hid (Bel w7 w9) := Lib.hid (belMap HBj.out hg1 (Nat.le_of_eq HRB.out))
              clear hrg hrg1 hltc hg1 hs1 hat hlx hgx hall hwx hwc HBj
              go_wp2_with fail
              exact ⟨⟨_, cnt1, HR.out.2, HB9⟩, by rw [HR.out.2.left_eq, HR.out.1.left_eq]; exact HL.out⟩
        · have KD := Lib.hid (LM.dispNone HMV.out HB.out (by omega) (by omega : s.l.rs.length = 0))
          go_wp2_with fail
          refine KD.out.mono ?_
          rintro e w6 ⟨a', z, rfl, hM6⟩
          have hfin : Hid (LI w base wb mb (wCells M Q 40 age 6 dear ahead (PTR bay) (PTR eo) (.slice Aw nw cw)) eo M Q age p (k + 1) w6) := Lib.hid ⟨a', s, gd, hM6, HB.out.next⟩
          clear hM6 c8
          go_wp2_with fail
          exact ⟨⟨p, k + 1, rfl, by congr 1, by omega, hfin⟩, by simp [intOf]; omega⟩
      · have hd1 : (r0 == 2) = false := by simpa using hdo
        have hd2 : decide (r0 = 2) = false := by simpa using hdo
        go_wp2_with fail
        refine (LM.pending HMV.out HB.out.law).mono ?_
        rintro e w4 ⟨r, rfl, hb4⟩
        have HM4 := Lib.hid (HMV.out.to hb4)
        have hbox4 := blk_below HBV.out hb4
        obtain ⟨L, hL⟩ : ∃ L, L = s.l.rs.length := ⟨_, rfl⟩
        rw [← hL]
        have HLL := Lib.hid hL
        clear hb4 c8 hL
        go_wp2_with fail
        have KW := Lib.hid (fun (W : World) (d : ByteArray) (hb : Bel w4 W) (hd : d.size = 64) => LM.write (HM4.out.to hb) HB.out (by omega : k ≤ 1000) (by omega : 0 ≤ age) HK.out.1 (by rw [← HNW.out]; exact HK.out.2) hd)
        have K12 := Lib.hid (fun W => block12 W x0 x1 x2 x3 (.slice A4 n4 c4))
        have hxw := HM4.out.en.xoff HM4.out.wb (by decide) (by decide)
        have hxy := HM4.out.en.xoff hbox4 (by decide) (by decide)
        have FB := fun wx (hx : Ke base a.X w4 wx) => hx.keep hbox4 hxy (eKind_cells (by decide) (by decide) (by decide) (by decide) (by decide) (by decide))
        obtain ⟨S, hS⟩ : ∃ S : World → Prop, ∀ W, S W ↔ Ke base a.X w4 W := ⟨fun W => Ke base a.X w4 W, fun W => Iff.rfl⟩
        have HS : Hid (∀ W, Ke base a.X w4 W → (S W ∧ W.cell? ⟨wb, 8, none⟩ = some (PTR eo) ∧ W.cell? ⟨yb, 0, none⟩ = some (.int .i64 x0) ∧ W.cell? ⟨yb, 1, none⟩ = some (.int .i64 x1) ∧ W.cell? ⟨yb, 2, none⟩ = some (.int .i64 x2) ∧ W.cell? ⟨yb, 3, none⟩ = some (.int .u8 x3) ∧ W.cell? ⟨yb, 4, none⟩ = some (.slice A4 n4 c4))) :=
          Lib.hid fun W hx => ⟨(hS W).2 hx, blk_cell (hx.keep HM4.out.wb hxw (eKind_cells (by decide) (by decide) (by decide) (by decide) (by decide) (by decide))) 8, blk_cell (FB W hx) 0, blk_cell (FB W hx) 1, blk_cell (FB W hx) 2, blk_cell (FB W hx) 3, blk_cell (FB W hx) 4⟩
        have HT := Lib.hid fun W => (hS W).1
        clear hS hbox4 FB hxw hxy
        go_region_held3 (fun w' => S w' ∧ w'.cell? ⟨wb, 8, none⟩ = some (PTR eo) ∧ w'.cell? ⟨yb, 0, none⟩ = some (.int .i64 x0) ∧ w'.cell? ⟨yb, 1, none⟩ = some (.int .i64 x1) ∧ w'.cell? ⟨yb, 2, none⟩ = some (.int .i64 x2) ∧ w'.cell? ⟨yb, 3, none⟩ = some (.int .u8 x3) ∧ w'.cell? ⟨yb, 4, none⟩ = some (.slice A4 n4 c4)) (first | assumption | exact HS.out _ (Ke.of_bel (Bel.drew _)) | exact HS.out _ (Ke.of_bel (Bel.trans (Bel.drew _) (by assumption))) | exact HS.out _ (Ke.trans (HT.out _ (And.left (by assumption))) (by assumption))) ((first | (go_at_call 12; refine (K12.out _).mono ?_; rintro e wt ⟨t, rfl, hts, hbt⟩) | (go_at_call 11; refine (KW.out _ _ (by first | assumption | exact Bel.trans (Bel.drew _) (by assumption) | exact Bel.trans (by assumption) (by assumption)) (by assumption)).mono ?_; rintro e w6 ⟨rfl, hk6, a', s', hM6, hcase⟩)))
        clear hk6 KW K12 HS HT
        have HM6 := Lib.hid hM6
        have c8 := blk_cell hM6.wb 8
        have c3 := blk_cell hM6.wb 3
        clear hM6
        rcases hcase with ⟨hln, hB6⟩ | ⟨hln, hgk, hB6⟩
        · have HB6 := Lib.hid hB6
          clear hB6
          go_wp2_with fail
          refine (LM.pending HM6.out HB6.out.law).mono ?_
          rintro e w7 ⟨r, rfl, hb7⟩
          have HM7 := Lib.hid (HM6.out.to hb7)
          rw [hln, ← HLL.out]
          have hfin : Hid (LI w base wb mb (wCells M Q 40 age 6 dear ahead (PTR bay) (PTR eo) (.slice Aw nw cw)) eo M Q age p (k + 1) w7) := Lib.hid ⟨a', s', gd, by rw [hln]; exact HM7.out, HB6.out⟩
          clear c8 c3 hb7 hln
          go_wp2_with fail
          exact ⟨⟨p, k + 1, rfl, by congr 1, by omega, hfin⟩, by simp [intOf]; omega⟩
        · have HB6 := Lib.hid hB6
          have HGK := Lib.hid hgk
          clear hB6 hgk
          go_wp2_with fail
          refine (LM.pending HM6.out HB6.out.law).mono ?_
          rintro e w7 ⟨r, rfl, hb7⟩
          have HM7 := Lib.hid (HM6.out.to hb7)
          have c3 := blk_cell HM7.out.wb 3
          rw [hln, ← HLL.out]
          have HLN := Lib.hid hln
          clear c8 hb7 hln
          have hL40 : L ≤ 40 := by have := HB.out.law.llen HM4.out.en.g; have := HLL.out; omega
          have hwf : (Lit.int .i64 key).wf = true := by have := HK.out; exact wf_small this.1 (by omega)
          have hinj : ∀ x y : Int, Value.int .i64 x = Value.int .i64 y → x = y := fun x y h => by simpa using h
          have hw5 : IntKind.i64.wrap (p + age) = p + age := w64i (by omega) (by omega)
          have hw6 : IntKind.i64.wrap (p + age + L) = p + age + L := w64i (by omega) (by omega)
          have hw7 : IntKind.i64.wrap (p + age + L + 1) = p + age + L + 1 := w64i (by omega) (by omega)
          have hwd : (Lit.int .i64 (p + age + L + 1)).wf = true := wf_small (by omega) (by omega)
          have hszl : L < maxLen := by have : maxLen = 9223372036854775807 := rfl; omega
          have hmp := HM7.out.mp
          rw [← HLL.out] at hmp
          have HMP := Lib.hid hmp
          clear hmp
          go_wp2_with (at_mapUpdate; refine wpList_mapUpdate_T rfl _ _ _ rfl keyed3 Tryz.underlying38 HMP.out hszl hinj rfl key rfl (p + age + L + 1) rfl (.int .i64 key) hwf (Maps.keyOf_int_mk Tryz.underlying3 hwf) (.lit (.int .i64 (p + age + L + 1))) (plain3 _ hwd) ?_; intro w8 hP8 hg8; have G8 := Lib.hid hg8; have P8 := Lib.hid hP8; clear hg8 hP8)
          have hfin : Hid (LI w base wb mb (wCells M Q 40 age 6 dear ahead (PTR bay) (PTR eo) (.slice Aw nw cw)) eo M Q age p (k + 1) w8) := by
            refine Lib.hid ⟨a', s', _, ?_, HB6.out⟩
            rw [HLN.out, ← HLL.out]
            refine HM7.out.map ?_ G8.out
            have := P8.out
            rw [HGK.out] at this
            exact this
          clear G8 P8
          go_wp2_with fail
          exact ⟨⟨p, k + 1, rfl, by congr 1, by omega, hfin⟩, by simp [intOf]; omega⟩
    · have hkn : k = N := by omega
      subst hkn
      have hlt' : decide ((k : Int) < k) = false := by simp
      have c8 := blk_cell hM.wb 8
      clear hM
      go_wp2_with fail
      refine (LM.pending HM.out HB.out.law).mono ?_
      rintro e w3 ⟨r, rfl, hb3⟩
      have HM3 := Lib.hid (HM.out.to hb3)
      have hlen := fun ty => TMap.len HM3.out.mp Tryz.underlying38 ty
      clear hb3 c8
      go_wp2_with fail
      go_ret
      exact ⟨by simp, HM3.out.bel⟩
end Go.Proofs.YtgpkpheejefiiaaGreatDoor
end
