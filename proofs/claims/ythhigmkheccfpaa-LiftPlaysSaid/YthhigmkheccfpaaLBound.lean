/- Lift: the walk of LiftBound. -/
import Derived.Test.YthhigmkheccfpaaBnd
import Derived.Test.YthhigmkheccfpaaAct
import Derived.Test.YthhigmkheccfpaaLSweep
import Derived.Maps.RangeWalk
set_option linter.unusedVariables false
set_option linter.unusedSimpArgs false
namespace Go.Proofs.Ythhigmkheccfpaa
open Go.RowKit
abbrev IM (w : World) (b : Nat) (g : Int → Option Int) (n : Nat) : Prop := TMap Try.prog 3 3 (fun x : Int => Value.int .i64 x) (fun x => (Lit.int .i64 x).wf = true) (fun b : Int => Value.int .i64 b) w b g n
theorem zero3 (w : World) : (zeroValue 3).run Try.prog w = .ok (.int .i64 0) w := by kernel_rfl
theorem plain3 (d : Int) (hd : (Lit.int .i64 d).wf = true) : plainElem (H := Unit) Try.prog 3 (.int .i64 d) = some (.lit (.int .i64 d), []) := plainElem_int Try.underlying3 hd
theorem IM.look {w : World} {b n : Nat} {g : Int → Option Int} (h : IM w b g n) (x : Int) (hx : (Lit.int .i64 x).wf = true) : (Instr.lookup 25 (.map (some b)) (.int .i64 x) false).run Try.prog w = .ok (.int .i64 ((g x).getD 0)) w :=
  TMap.lookup (a0 := 0) h keyed3 Try.underlying25 (zero3 w) (plain3 0 (by decide)) hx (Maps.keyOf_int_mk Try.underlying3 hx)
theorem IM.isMap {w : World} {b n : Nat} {g : Int → Option Int} (h : IM w b g n) : ∃ es clock, w.heap[b]? = some (.map es clock) := by
  obtain ⟨D, ⟨es, clock, h1, _⟩, _⟩ := h
  exact ⟨es, clock, h1⟩
theorem IM.kp {base l : Nat} {w w' : World} {b n : Nat} {g : Int → Option Int} (h : IM w b g n) (k : Kp base l w w') (hne : b ≠ l) : IM w' b g n := by
  obtain ⟨es, clock, hm⟩ := h.isMap
  exact TMap.keep h (k.blk b (blk_lt hm) hne (.inr fun cs e => by rw [hm] at e; simp at e))
theorem IsL.mapb {w w' : World} {base g b : Nat} {v : Value} {s : LS} {es : _} {clock : _} (h : IsL w base g v s) (hm : w.heap[b]? = some (.map es clock)) (hg : w.grownBy w' (some b)) : IsL w' base g v s := by
  refine ⟨(hg.block g (blk_lt h.blk) (fun e => ?_)).trans h.blk, World.ownsRow.kept (row := some b) h.row hg ?_⟩
  · have := h.blk
    rw [Option.some.inj e, hm] at this
    simp at this
  · cases hv : v.ownBlock with
    | none => exact .inl rfl
    | some k =>
      refine .inr fun e => ?_
      obtain ⟨_, cs', h2⟩ := h.row.blk hv
      rw [Option.some.inj e, hm] at h2
      simp at h2
/-- What a round of a range over the map has come by. -/
theorem IM.at {D : DataW Unit} {g : Int → Option Int} (h3 : ∀ x : Int, (Lit.int .i64 x).wf = true → ∀ l, keyOf Try.prog 3 (Value.int .i64 x) = some l →
    ((∃ a d, g x = some a ∧ Maps.has D l = true ∧ plainElem Try.prog 3 (Value.int .i64 a) = some (d, []) ∧ ∀ z, D.atKey l z = d) ∨ (g x = none ∧ Maps.has D l = false))) {x c : Int} (hx : (Lit.int .i64 x).wf = true)
    (hat : ∀ zd, D.atKey (.int .i64 x) zd = .lit (.int .i64 c)) : g x = some c := by
  rcases h3 x hx _ (Maps.keyOf_int_mk Try.underlying3 hx) with ⟨a, d, hg, _, hd, hz⟩ | ⟨hg, hn⟩
  · obtain ⟨a', e1, e2, _⟩ := plainElem_int_inv Try.underlying3 hd
    have e3 := (hz .nil).symm.trans (hat .nil)
    rw [hg]
    simp at e1 e2
    rw [e2] at e3
    simp at e3
    rw [e1, e3]
  · have := (Maps.atKey_of_not_has hn .nil).symm.trans (hat .nil)
    simp at this
theorem sl22 (M : Nat) (hM : M ≤ 1000) (A : Option Addr) (c n : Nat) (hn : n ≤ c) (W : World) : (Instr.slice 22 (.slice A n c) none (some (.int .i64 (min (n : Int) M))) none).run Try.prog W = .ok (.slice A (min M n) c) W := by
  have hel : Try.prog.elem 22 = 28 := by simp [Program.elem, Try.underlying22]
  have hu : Try.prog.underlying 22 = some (.slice (Try.prog.elem 22)) := by rw [hel]; exact Try.underlying22
  have hi3 : (Try.prog.info? 28).map (fun i => i.size) = some 2 := by kernel_rfl
  obtain ⟨inf, hinf, hsz⟩ : ∃ inf, Try.prog.info? 28 = some inf ∧ inf.size = 2 := by
    cases h : Try.prog.info? 28 with
    | none => rw [h] at hi3; simp at hi3
    | some inf => rw [h] at hi3; simp at hi3; exact ⟨inf, rfl, hi3⟩
  rw [run_slice_h W 22 A n c hu .i64 _ (by omega) (by omega), hel]
  have e : (min (n : Int) M).toNat = min M n := by omega
  have em : Option.map (fun x : Addr => x.add 0) A = A := by cases A <;> simp [Addr.add]
  simp [sizeOf, typeInfo, hinf, hsz, sliced, Result.andThen, e, em]
theorem and63 (a : Int) : 0 ≤ Go.bits .and .i64 a 63 ∧ Go.bits .and .i64 a 63 ≤ 63 := by
  show 0 ≤ IntKind.i64.wrap ((BitVec.ofInt 64 a &&& BitVec.ofInt 64 (63 : Int)).toNat : Int) ∧ IntKind.i64.wrap ((BitVec.ofInt 64 a &&& BitVec.ofInt 64 (63 : Int)).toNat : Int) ≤ 63
  rw [BitVec.toNat_and, show (BitVec.ofInt 64 (63 : Int)).toNat = 2 ^ 6 - 1 by decide, Nat.and_two_pow_sub_one_eq_mod, IntKind.wrap_i64]
  omega
/-- k acts are done, p keys are served. -/
structure B1 (s : LS) (ag p : Int) (gd : Int → Option Int) (k : Nat) : Prop where
  bd : Bd s ag p gd
  p0 : 0 ≤ p
  pk : p ≤ k
  add : s.added ≤ k
  wt : ∀ x ∈ s.rs, x.f1 ≤ k
theorem B1.next {s : LS} {ag p : Int} {gd : Int → Option Int} {k : Nat} (h : B1 s ag p gd k) : B1 s ag p gd (k + 1) :=
  ⟨h.bd, h.p0, by have := h.pk; omega, by have := h.add; omega, fun x hx => by have := h.wt x hx; omega⟩
theorem b1_add {s : LS} {ag p : Int} {gd : Int → Option Int} {k : Nat} (h : B1 s ag p gd k) (h0 : 0 ≤ ag) {key : Int} (he : addE s key = 0) : B1 (addS s key) ag p (fun z => if z = key then some (p + ag + s.rs.length + 1) else gd z) (k + 1) := by
  refine ⟨bd_add h.bd h0 he, h.p0, by have := h.pk; omega, by rw [addS_of he]; have := h.add; show s.added + 1 ≤ _; omega, fun x hx => ?_⟩
  rw [addS_of he] at hx
  rcases (mem_insR s key x).1 hx with hx | rfl
  · have := h.wt x hx; omega
  · simp only []; omega
theorem b1_pick {s : LS} {ag p : Int} {gd : Int → Option Int} {k : Nat} (h : B1 s ag p gd k) (h0 : 0 < s.rs.length) : B1 (pickS s) ag (p + 1) (fun z => if z = pickK s then none else gd z) (k + 1) := by
  refine ⟨(bd_pick h.bd h0).2, by have := h.p0; omega, by have := h.pk; omega, by rw [pick_added]; have := h.add; omega, fun x hx => ?_⟩
  obtain ⟨y, hy, _, e, _⟩ := mem_pick hx
  have := h.wt y hy
  rcases e with e | e <;> omega
set_option maxHeartbeats 8000000 in
set_option maxRecDepth 100000 in
theorem lawBoundW (age0 : Int) (A : Option Addr) (c : Nat) (l : List Act) (hn : l.length ≤ c) (w : World) (hC : AC w A l) :
    Calls Try.prog 3 #[.int .i64 age0, .slice A l.length c] w fun e w' => e = .returned (.bool true) ∧ Bel w w' := by
  have hsl : ∀ W, (Instr.slice 22 (.slice A l.length c) none (some (.int .i64 (min (l.length : Int) 150))) none).run Try.prog W = .ok (.slice A (min 150 l.length) c) W := fun W => sl22 150 (by decide) A c l.length hn W
  obtain ⟨q, hq⟩ : ∃ q, q = min 150 l.length := ⟨_, rfl⟩
  rw [← hq] at hsl
  have hq1 : q ≤ 150 := by omega
  have hq2 : q ≤ l.length := by omega
  clear hq
  have HC := Lib.hid hC
  obtain ⟨ag, hag⟩ : ∃ ag, ag = 1 + max 0 age0 % 20 := ⟨_, rfl⟩
  have KN := Lib.hid (newL ag)
  have ha1 : 1 ≤ ag := by omega
  have ha2 : ag ≤ 20 := by omega
  have hm : max (1 : Int) (min ag 65536) = ag := by omega
  rw [hm] at KN
  have HAG : Hid (1 + max 0 age0 % 20 = ag) := Lib.hid hag.symm
  clear hag
  have KA := Lib.hid (fun w1 g v s key hok hsm hb h => addL w1 w.heap.size g v s key hok hsm hb h)
  have KP := Lib.hid (fun w1 g v s hok hsm h => pickL w1 w.heap.size g v s hok hsm h)
  have KL := Lib.hid (fun w1 g v s h => lenL w1 w.heap.size g v s h)
  have K8 := Lib.hid wakesL
  clear hC hm
  generalize hnl : l.length = n at *
  have HNL := Lib.hid hnl
  clear hnl
  have hmm := fun w => run_makeMap_plain (P := Try.prog) (w := w) 25
  go_enter Try.func3, Try.ntmps3
  go_wp2_with fail
  rw [HAG.out]
  refine (KN.out _).mono ?_
  rintro e w1 ⟨rfl, hb1, hlt1, hI⟩
  have hI0 := hI w.heap.size
  obtain ⟨g, hg⟩ : ∃ g, g = w.heap.size := ⟨_, rfl⟩
  rw [← hg] at hlt1 ⊢
  have HI1 : Hid (IsL w1 w.heap.size g (.slice none 0 0) ⟨ag, 0, 0, []⟩) := Lib.hid (hg ▸ hI0)
  have HB1 := Lib.hid hb1
  have HG := Lib.hid hg
  clear hb1 hI hI0 KN hg HAG
  go_wp2_with fail
  refine calls_gen (fun W => Bel w1 W ∧ IM W w1.heap.size (fun _ => none) 0) ⟨Bel.alloc _ _, TMap.made _⟩ ?_
  rintro W2 ⟨hb2, hm2⟩
  obtain ⟨mb, hmb⟩ : ∃ mb, mb = w1.heap.size := ⟨_, rfl⟩
  rw [← hmb] at hm2 ⊢
  have HI2 := Lib.hid (HI1.out.bel hb2)
  have HB2 := Lib.hid (HB1.out.trans hb2)
  have HM2 := Lib.hid hm2
  have HMb : Hid (mb ≠ g ∧ w.heap.size ≤ mb ∧ w.heap.size ≤ g) := Lib.hid ⟨by omega, by have := HB1.out.size; omega, by have := HG.out; omega⟩
  clear hb2 hm2 HI1 HB1 hmb hmm hlt1
  refine (K8.out _).mono ?_
  rintro e w3 ⟨rfl, hb3⟩
  have HX3 : Hid (∃ v s gd, IsL w3 w.heap.size g v s ∧ B1 s ag 0 gd 0 ∧ IM w3 mb gd s.rs.length ∧ Bel w w3) := Lib.hid ⟨_, _, fun _ => none, HI2.out.bel hb3, ⟨bd_new ag ha1 (by omega), by omega, by omega, by simp, by simp⟩, TMap.below HM2.out hb3, HB2.out.trans hb3⟩
  clear hb3 HI2 HB2 HM2 K8
  go_wp2_with fail
  go_loopw [7, 31] (fun v7 v31 wr => ∃ (p : Int) (k : Nat), v7 = .int .i64 p ∧ v31 = .int .i64 k ∧ k ≤ q ∧ Hid (∃ v s gd, IsL wr w.heap.size g v s ∧ B1 s ag p gd k ∧ IM wr mb gd s.rs.length ∧ Bel w wr)) (fun _ v31 _ => q - (intOf v31).toNat)
  case atStart => exact ⟨0, 0, rfl, rfl, by omega, HX3⟩
  case round =>
    obtain ⟨wi, rfl⟩ : ∃ wi : World, wi = wr := ⟨_, rfl⟩
    obtain ⟨p, k, rfl, rfl, hk, HI⟩ := hrel
    obtain ⟨v, s, gd, h1, hb, hmp, hbw⟩ := HI.out
    have H1 := Lib.hid h1
    have HB := Lib.hid hb
    have HM := Lib.hid hmp
    have HBw := Lib.hid hbw
    clear h1 hb hmp hbw HI HX3
    by_cases hlt : k < q
    · obtain ⟨ad, rfl, z0, z1, _, _⟩ := HC.out k (by rw [HNL.out]; omega)
      have z0 := cellB HBw.out z0
      have z1 := cellB HBw.out z1
      generalize actAt l k = x at *
      obtain ⟨x0, x1⟩ := x
      simp only [] at z0 z1
      have hlt' : decide ((k : Int) < q) = true := by simp; omega
      have c0 := fun o => cellB (Bel.alloc wi o) z0
      by_cases hdo : Go.bits .and .i64 x0 3 = 2
      · have hd1 : (Go.bits .and .i64 x0 3 == 2) = true := by simpa using hdo
        have hd2 : decide (Go.bits .and .i64 x0 3 = 2) = true := by simpa using hdo
        by_cases h0 : 0 < s.rs.length
        · have hkey := pickK_mem HB.out.bd.ok h0
          have hkk : 0 ≤ pickK s ∧ pickK s < 1099511627776 := by
            obtain ⟨x, hx, e⟩ := hkey
            have := HB.out.bd.ok.key x hx
            rw [e] at this; exact this
          have hwf : (Lit.int .i64 (pickK s)).wf = true := wf_small hkk.1 (by omega)
          have hinj : ∀ x y : Int, Value.int .i64 x = Value.int .i64 y → x = y := fun x y h => by simpa using h
          have hpb : pickB s = true := by unfold pickB; simp; omega
          obtain ⟨d, hgk, hpd⟩ := (bd_pick HB.out.bd h0).1
          have HN := Lib.hid (b1_pick HB.out h0)
          have hpl : (pickS s).rs.length = s.rs.length - 1 := pick_len HB.out.bd.ok
          have HPL := Lib.hid hpl
          have hp0 := HB.out.p0
          have hpk := HB.out.pk
          have hw1 : IntKind.i64.wrap (p + 1) = p + 1 := w64i (by omega) (by omega)
          have KPx := Lib.hid (fun w1 (h : IsL w1 w.heap.size g v s) => KP.out w1 g v s HB.out.bd.ok (fun x hx => by have := HB.out.wt x hx; omega) h)
          rw [hpb] at KPx
          clear hpb hpl hkk
          go_wp2_with fail
          refine calls_gen (fun W => Bel wi W) (Bel.alloc _ _) ?_
          rintro W2 hb2
          refine (KPx.out W2 (H1.out.bel hb2)).mono ?_
          rintro e w6 ⟨v6, rfl, h6, hk6⟩
          have H6 := Lib.hid h6
          have HM6 : Hid (IM w6 mb gd s.rs.length) := Lib.hid (IM.kp (TMap.below HM.out hb2) hk6 HMb.out.1)
          have HB6 := Lib.hid (Kp.below' (base := w.heap.size) (HBw.out.trans hb2) hk6 HMb.out.2.2)
          have hlook := HM6.out.look (pickK s) hwf
          rw [hgk] at hlook
          simp only [Option.getD_some] at hlook
          have d1 : decide (d < p + 1) = false := by simp; omega
          have d2 : decide (p + 1 > d) = false := by simp; omega
          have d3 : ¬ (d < p + 1) := by omega
          clear h6 hk6 H1 HM HBw HB KPx hb2 z0 z1 c0 hkey
          generalize pickK s = pk at *
          obtain ⟨w7, hdr, hP7, hg7⟩ := TMap.drop HM6.out keyed3 Try.underlying25 hinj hwf (Maps.keyOf_int_mk Try.underlying3 hwf) 0
          rw [hgk] at hP7
          simp only [Option.isSome_some, if_true] at hP7
          have G7 := Lib.hid hg7
          obtain ⟨D, hown, hsz, hD⟩ := hP7
          have HDD := Lib.hid (And.intro hsz hD)
          clear hg7 hsz hD
          go_wp2_with (first | (at_range; refine wpList_range_own _ rfl _ 25 rfl 3 3 keyed3 Try.underlying25 _ mb (s.rs.length - 1) D rfl hown ?_; intro w8 hrg8 hg8 hs8))
          go_frame
          have hb8 : Bel w7 w8 := ⟨hg8.os, hg8.tape, hg8.output, hg8.size, fun k hk => hg8.block k hk (by simp)⟩
          obtain ⟨rb, hrb⟩ : ∃ rb, rb = w7.heap.size := ⟨_, rfl⟩
          rw [← hrb] at hrg8 ⊢
          have HRB : Hid (w7.heap.size = rb) := Lib.hid hrb.symm
          have HB8 := Lib.hid hb8
          clear hg8 hs8 hb8 hrb hown hdr hlook
          go_loopw [13] (fun _ wr => ∃ (left : Lit → Bool) (cnt : Nat), wr.ranges Try.prog 3 (plainElem Try.prog 3) mb rb (s.rs.length - 1) D left cnt ∧ Hid (Bel w7 wr)) (fun _ wr => wr.rangeLeft mb rb)
          case atStart => exact ⟨_, _, hrg8, HB8⟩
          case round =>
            obtain ⟨wj, rfl⟩ : ∃ wj : World, wj = wr := ⟨_, rfl⟩
            obtain ⟨left, cnt, hrg, HBj⟩ := hrel
            clear hrg8
            go_wp2_with (first | (at_next; refine wpList_next_ranges_ii _ rfl _ rfl 3 3 .i64 .i64 keyed3 Try.underlying3 Try.underlying3 mb rb (s.rs.length - 1) D left cnt rfl hrg ?_ ?_))
            · intro _ hl0
              have hfin : Hid (∃ v s gd, IsL wj w.heap.size g v s ∧ B1 s ag (p + 1) gd (k + 1) ∧ IM wj mb gd s.rs.length ∧ Bel w wj) := by
                obtain ⟨es, clock, hmm⟩ := HM6.out.isMap
                refine Lib.hid ⟨v6, _, _, (H6.out.mapb hmm G7.out.grown).bel HBj.out, HN.out, ?_, (bel_map HB6.out G7.out.grown HMb.out.2.1).trans HBj.out⟩
                rw [HPL.out]
                exact ⟨D, hrg.owns, HDD.out⟩
              clear hrg HBj
              go_wp2_with fail
              exact ⟨⟨p + 1, k + 1, rfl, by congr 1, by omega, hfin⟩, by simp [intOf]; omega⟩
            · intro x c2 w9 cnt1 hwx hwc hlx hat hrg1 hltc hg1 hs1 hen
              have hgx := IM.at HDD.out.2 hwx hat
              have hall := HN.out.bd.all hgx
              have e1 : decide (c2 < p + 1) = false := by simp; omega
              have e2 : decide (p + 1 > c2) = false := by simp; omega
              have e3 : ¬ (c2 < p + 1) := by omega
              have HR := Lib.hid (And.intro hrg hrg1)
              have HL : Hid (cnt1 < cnt) := Lib.hid hltc
              have HB9 : Hid (Bel w7 w9) := Lib.hid (bel_map HBj.out hg1 (Nat.le_of_eq HRB.out))
              clear hrg hrg1 hltc hg1 hs1 hat hlx hgx hall hwx hwc HBj
              go_wp2_with fail
              exact ⟨⟨_, cnt1, HR.out.2, HB9⟩, by rw [HR.out.2.left_eq, HR.out.1.left_eq]; exact HL.out⟩
        · have hl0 : s.rs.length = 0 := by omega
          have hpb : pickB s = false := by unfold pickB; exact decide_eq_false h0
          have hps : pickS s = s := by unfold pickS; rw [if_neg h0]
          have hpk : pickK s = 0 := by unfold pickK; rw [if_neg h0]
          have KPx := Lib.hid (fun w1 (h : IsL w1 w.heap.size g v s) => KP.out w1 g v s HB.out.bd.ok (fun x hx => by have := HB.out.wt x hx; omega) h)
          rw [hpb, hps, hpk] at KPx
          clear hpb hps hpk hl0
          go_wp2_with fail
          refine calls_gen (fun W => Bel wi W) (Bel.alloc _ _) ?_
          rintro W2 hb2
          refine (KPx.out W2 (H1.out.bel hb2)).mono ?_
          rintro e w6 ⟨v6, rfl, h6, hk6⟩
          have hfin : Hid (∃ v s gd, IsL w6 w.heap.size g v s ∧ B1 s ag p gd (k + 1) ∧ IM w6 mb gd s.rs.length ∧ Bel w w6) := Lib.hid ⟨v6, s, gd, h6, HB.out.next, IM.kp (TMap.below HM.out hb2) hk6 HMb.out.1, Kp.below' (base := w.heap.size) (HBw.out.trans hb2) hk6 HMb.out.2.2⟩
          clear h6 hk6 H1 HM HBw HB KPx hb2 z0 z1 c0
          go_wp2_with fail
          exact ⟨⟨p, k + 1, rfl, by congr 1, by omega, hfin⟩, by simp [intOf]; omega⟩
      · have hd1 : (Go.bits .and .i64 x0 3 == 2) = false := by simpa using hdo
        have hd2 : decide (Go.bits .and .i64 x0 3 = 2) = false := by simpa using hdo
        have hk6 := and63 x1
        have c1 := fun o => cellB (Bel.alloc wi o) z1
        go_wp2_with fail
        generalize Go.bits .and .i64 x1 63 = key at *
        refine calls_gen (fun W => Bel wi W) (Bel.alloc _ _) ?_
        rintro W2 hb2
        have H2 := Lib.hid (H1.out.bel hb2)
        have HM2 : Hid (IM W2 mb gd s.rs.length) := Lib.hid (TMap.below HM.out hb2)
        have HB2 := Lib.hid (HBw.out.trans hb2)
        clear H1 HM HBw hb2 z0 z1 c0 c1
        have hlen := HB.out.bd.ok.len
        refine (KL.out W2 g v s H2.out).mono ?_
        rintro e w4 ⟨rfl, hb4⟩
        have H4 := Lib.hid (H2.out.bel hb4)
        have HM4 : Hid (IM w4 mb gd s.rs.length) := Lib.hid (TMap.below HM2.out hb4)
        have HB4 := Lib.hid (HB2.out.trans hb4)
        clear H2 HM2 HB2 hb4
        have KAx := Lib.hid (KA.out w4 g v s key HB.out.bd.ok (by have := HB.out.add; omega) (by exact HB4.out.size) H4.out)
        obtain ⟨N, hN⟩ : ∃ N, N = s.rs.length := ⟨_, rfl⟩
        rw [← hN] at hlen HM4 ⊢
        have HN := Lib.hid hN
        clear hN
        have hp0 := HB.out.p0
        have hpk := HB.out.pk
        by_cases he : addE s key = 0
        · have HNx := Lib.hid (b1_add HB.out (by omega) he)
          have hwf : (Lit.int .i64 key).wf = true := wf_small hk6.1 (by omega)
          have hlen2 : (addS s key).rs.length = s.rs.length + 1 := by rw [addS_of he]; exact insR_len s key
          have hgk : gd key = none := HB.out.bd.dom key (addE_zero he).2.2.1
          rw [← HN.out] at HNx hlen2
          have HL2 := Lib.hid hlen2
          have HGK := Lib.hid hgk
          have hinj : ∀ x y : Int, Value.int .i64 x = Value.int .i64 y → x = y := fun x y h => by simpa using h
          have hw1 : IntKind.i64.wrap (p + ag) = p + ag := w64i (by omega) (by omega)
          have hw2 : IntKind.i64.wrap (p + ag + N) = p + ag + N := w64i (by omega) (by omega)
          have hw3 : IntKind.i64.wrap (p + ag + N + 1) = p + ag + N + 1 := w64i (by omega) (by omega)
          have hwd : (Lit.int .i64 (p + ag + N + 1)).wf = true := wf_small (by omega) (by omega)
          have hszl : N < maxLen := by have : maxLen = 9223372036854775807 := rfl; omega
          rw [he] at KAx
          clear he hlen2 hgk
          go_wp2_with fail
          refine (KAx.out).mono ?_
          rintro e w6 ⟨v6, rfl, h6, hk6'⟩
          have H6 := Lib.hid h6
          have HM6 : Hid (IM w6 mb gd N) := Lib.hid (IM.kp HM4.out hk6' HMb.out.1)
          have HB6 := Lib.hid (Kp.below' (base := w.heap.size) HB4.out hk6' HMb.out.2.2)
          clear h6 hk6' H4 HM4 HB4 KAx
          go_wp2_with (at_mapUpdate; refine wpList_mapUpdate_T rfl _ _ _ rfl keyed3 Try.underlying25 HM6.out hszl hinj rfl key rfl (p + ag + N + 1) rfl (.int .i64 key) hwf (Maps.keyOf_int_mk Try.underlying3 hwf) (.lit (.int .i64 (p + ag + N + 1))) (plain3 _ hwd) ?_; intro w7 hP7 hg7; have G7 := Lib.hid hg7; have P7 := Lib.hid hP7; clear hg7 hP7)
          have hfin : Hid (∃ v s gd, IsL w7 w.heap.size g v s ∧ B1 s ag p gd (k + 1) ∧ IM w7 mb gd s.rs.length ∧ Bel w w7) := by
            obtain ⟨es, clock, hmm⟩ := HM6.out.isMap
            refine Lib.hid ⟨v6, _, _, H6.out.mapb hmm G7.out, HNx.out, ?_, bel_map HB6.out G7.out HMb.out.2.1⟩
            rw [HL2.out]
            have := P7.out
            rw [HGK.out] at this
            exact this
          clear G7 P7 H6 HM6 HB6 HNx HL2 HGK
          go_wp2_with fail
          exact ⟨⟨p, k + 1, rfl, by congr 1, by omega, hfin⟩, by simp [intOf]; omega⟩
        · have hS : addS s key = s := addS_no he
          have e0 : decide (addE s key = 0) = false := by simpa using he
          have e1 : (addE s key == 0) = false := by simpa using he
          rw [hS] at KAx
          clear hS he
          generalize addE s key = E at *
          go_wp2_with fail
          refine (KAx.out).mono ?_
          rintro e w6 ⟨v6, rfl, h6, hk6'⟩
          have hfin : Hid (∃ v s gd, IsL w6 w.heap.size g v s ∧ B1 s ag p gd (k + 1) ∧ IM w6 mb gd s.rs.length ∧ Bel w w6) := Lib.hid ⟨v6, s, gd, h6, HB.out.next, by rw [← HN.out]; exact IM.kp HM4.out hk6' HMb.out.1, Kp.below' (base := w.heap.size) HB4.out hk6' HMb.out.2.2⟩
          clear h6 hk6' H4 HM4 HB4 KAx
          go_wp2_with fail
          exact ⟨⟨p, k + 1, rfl, by congr 1, by omega, hfin⟩, by simp [intOf]; omega⟩
    · have hkq : k = q := by omega
      subst hkq
      have hlt' : decide ((k : Int) < k) = false := by simp
      have hlen := fun w1 hb => TMap.len (TMap.below HM.out hb : IM w1 mb gd s.rs.length) Try.underlying25
      go_wp2_with fail
      refine (KL.out _ g v s H1.out).mono ?_
      rintro e w8 ⟨rfl, hb8⟩
      have hlen8 := fun ty => hlen w8 hb8 ty
      have hfin := HBw.out.trans hb8
      clear hb8 H1 HM HBw hlen
      go_wp2_with fail
      go_ret
      exact ⟨by simp, hfin⟩
end Go.Proofs.Ythhigmkheccfpaa
