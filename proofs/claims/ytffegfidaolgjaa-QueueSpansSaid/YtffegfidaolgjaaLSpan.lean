/- Queue: the walk of QueueSpans. -/
import Derived.Test.YtffegfidaolgjaaSpW
import Derived.Maps.RangeWalk
set_option linter.unusedVariables false
set_option linter.unusedSimpArgs false
namespace Go.Proofs.Ytffegfidaolgjaa
open Go.RowKit Spn Go.Proofs.YtffegfidaolgjaaW.PrintWords Go.Proofs.YtffegfidaolgjaaW.PrintMore
abbrev BM (w : World) (b : Nat) (g : Int → Option Bool) (n : Nat) : Prop := TMap Try.prog 3 4 (fun x : Int => Value.int .i64 x) (fun x => (Lit.int .i64 x).wf = true) (fun b : Bool => Value.bool b) w b g n
theorem zero4 (w : World) : (zeroValue 4).run Try.prog w = .ok (.bool false) w := by kernel_rfl
theorem BM.look {w : World} {b n : Nat} {g : Int → Option Bool} (h : BM w b g n) (x : Int) (hx : (Lit.int .i64 x).wf = true) : (Instr.lookup 61 (.map (some b)) (.int .i64 x) false).run Try.prog w = .ok (.bool ((g x).getD false)) w :=
  TMap.lookup (a0 := false) h keyed3 Try.underlying61 (zero4 w) (plainElem_bool Try.underlying4 false) hx (Maps.keyOf_int_mk Try.underlying3 hx)
theorem BM.isMap {w : World} {b n : Nat} {g : Int → Option Bool} (h : BM w b g n) : ∃ es clock, w.heap[b]? = some (.map es clock) := by
  obtain ⟨D, ⟨es, clock, h1, _⟩, _⟩ := h
  exact ⟨es, clock, h1⟩
theorem BM.kp {base l : Nat} {w w' : World} {b n : Nat} {g : Int → Option Bool} (h : BM w b g n) (k : Kp base l w w') (hne : b ≠ l) : BM w' b g n := by
  obtain ⟨es, clock, hm⟩ := h.isMap
  exact TMap.keep h (k.blk b (blk_lt hm) hne (.inr fun cs e => by rw [hm] at e; simp at e))
theorem bool_inv {v : Value} {y : DataW Unit × List MemPlace} (h : plainElem Try.prog 4 v = some y) : ∃ c, v = .bool c := by
  unfold plainElem at h
  rw [Try.underlying4] at h
  split at h
  · exact ⟨_, rfl⟩
  · rename_i he; cases he
  · rename_i he; cases he
  · cases h
/-- The map says what is there. -/
def Says (s : QS) (gm : Int → Option Bool) : Prop := ∀ x, gm x = if has s x = true then some true else none
theorem says_put {s : QS} (h : OkQ s) {key : Int} {d : ByteArray} (he : putE s key d = 0) {gm : Int → Option Bool} (hs : Says s gm) : Says (putS s key d) (fun z => if z = key then some true else gm z) := fun x => by
  have hp := has_put h he x
  by_cases hx : x = key
  · simp only [if_pos hx]; rw [if_pos (hp.2 (.inr hx))]
  · simp only [if_neg hx]; rw [hs x]
    by_cases h2 : has s x = true
    · rw [if_pos h2, if_pos (hp.2 (.inl h2))]
    · rw [if_neg h2, if_neg (fun e => (hp.1 e).elim h2 hx)]
theorem says_take {s : QS} (h : OkQ s) (key : Int) {gm : Int → Option Bool} (hs : Says s gm) : Says (takeS s key) (fun z => if z = key then none else gm z) := fun x => by
  have hp := has_take h key x
  by_cases hx : x = key
  · simp only [if_pos hx]; rw [if_neg (fun e => (hp.1 e).2 hx)]
  · simp only [if_neg hx]; rw [hs x]
    by_cases h2 : has s x = true
    · rw [if_pos h2, if_pos (hp.2 ⟨h2, hx⟩)]
    · rw [if_neg h2, if_neg (fun e => h2 (hp.1 e).1)]
theorem says_some {s : QS} {gm : Int → Option Bool} (hs : Says s gm) (x : Int) : (gm x).isSome = has s x := by
  rw [hs x]; cases h : has s x <;> simp
theorem says_get {s : QS} {gm : Int → Option Bool} (hs : Says s gm) (x : Int) : (gm x).getD false = has s x := by
  rw [hs x]; cases h : has s x <;> simp
theorem sb_hasB {s : QS} (ho : OkQ s) {l : List Sp} (h : SB s.rs s.rs.length l) (v : Int) : hasB l v = has s v := by
  have h1 := hasB_iff l v
  have h2 := h.has v
  have h3 := has_iff ho.up v
  have : hasB l v = true ↔ has s v = true := by
    rw [h1, h2, h3]
    constructor
    · rintro ⟨j, hj, rfl⟩; exact ⟨_, nth_mem hj, rfl⟩
    · rintro ⟨x, hx, rfl⟩
      obtain ⟨j, hj, rfl⟩ := mem_nth hx
      exact ⟨j, hj, rfl⟩
  cases h4 : hasB l v <;> cases h5 : has s v <;> simp [h4, h5] at this ⊢
set_option maxHeartbeats 8000000 in
set_option maxRecDepth 100000 in
theorem lawSpanW (A : Option Addr) (c : Nat) (l : List Act) (at_ : Int) (hn : l.length ≤ c) (hat : (Lit.int .i64 at_).wf = true) (w : World) (hC : AC w A l) :
    Calls Try.prog 7 #[.slice A l.length c, .int .i64 at_] w fun e w' => e = .returned (.bool true) ∧ Bel w w' := by
  have hsl : ∀ W, (Instr.slice 37 (.slice A l.length c) none (some (.int .i64 (min (l.length : Int) 80))) none).run Try.prog W = .ok (.slice A (min 80 l.length) c) W := fun W => sl37 80 (by decide) A c l.length hn W
  obtain ⟨q, hq⟩ : ∃ q, q = min 80 l.length := ⟨_, rfl⟩
  rw [← hq] at hsl
  have hq1 : q ≤ 80 := by omega
  have hq2 : q ≤ l.length := by omega
  clear hq
  have HAT := Lib.hid hat
  have HC := Lib.hid hC
  have KN := Lib.hid (newQ 256)
  have hm : max (1 : Int) (min 256 256) = 256 := by decide
  rw [hm] at KN
  have KP := Lib.hid (fun w1 g v s key d hs hl hd hc hsm hb h => putQ w1 w.heap.size g v s key d hs hl hd hc hsm hb h)
  have KT := Lib.hid (fun w1 g v s key hs hl hb h => takeQ2 w1 w.heap.size g v s key hs hl hb h)
  have KL := Lib.hid (fun w1 g v s h => lenQ w1 w.heap.size g v s h)
  have KSp := Lib.hid (fun w1 g v s h a b c => spansQ w1 w.heap.size g v s h a b c)
  have KS := Lib.hid (fun d w => secB d false w)
  have ZS := Lib.hid (fun d => secV_size d false)
  have K8 := Lib.hid wakesQ
  clear hC hm hat
  generalize hnl : l.length = n at *
  have HNL := Lib.hid hnl
  clear hnl
  have hmm := fun w => run_makeMap_plain (P := Try.prog) (w := w) 61
  have hinj : ∀ x y : Int, Value.int .i64 x = Value.int .i64 y → x = y := fun x y h => by simpa using h
  have HINJ := Lib.hid hinj
  clear hinj
  go_enter Try.func7, Try.ntmps7
  go_wp2_with fail
  refine (KN.out _).mono ?_
  rintro e w1 ⟨rfl, hb1, hlt1, hI⟩
  have hI0 := hI w.heap.size
  obtain ⟨g, hg⟩ : ∃ g, g = w.heap.size := ⟨_, rfl⟩
  rw [← hg] at hlt1 ⊢
  have HI1 : Hid (IsQ w1 w.heap.size g (.slice none 0 0) ⟨256, 0, []⟩) := Lib.hid (hg ▸ hI0)
  have HB1 := Lib.hid hb1
  have HG := Lib.hid hg
  clear hb1 hI hI0 KN hg
  go_wp2_with fail
  refine wp_gen (fun W => Bel w1 W ∧ BM W w1.heap.size (fun _ => none) 0) ⟨Bel.alloc _ _, TMap.made _⟩ ?_
  rintro W2 ⟨hb2, hm2⟩
  obtain ⟨mb, hmb⟩ : ∃ mb, mb = w1.heap.size := ⟨_, rfl⟩
  rw [← hmb] at hm2 ⊢
  have HMb : Hid (mb ≠ g ∧ w.heap.size ≤ mb ∧ w.heap.size ≤ g) := Lib.hid ⟨by omega, by have := HB1.out.size; omega, by have := HG.out; omega⟩
  have HX2 : Hid (∃ v s gm, IsQ W2 w.heap.size g v s ∧ D1 s 0 ∧ Says s gm ∧ BM W2 mb gm s.rs.length ∧ Bel w W2) := Lib.hid ⟨_, _, fun _ => none, HI1.out.bel hb2, ⟨by have := okq_new 256; exact this, rfl, Nat.le_refl _, Int.le_refl _⟩, fun x => by simp [has, isAt], hm2, HB1.out.trans hb2⟩
  clear hb2 hm2 HI1 HB1 hmb hmm hlt1
  go_loopw [19] (fun v19 wr => ∃ (k : Nat), v19 = .int .i64 k ∧ k ≤ q ∧ Hid (∃ v s gm, IsQ wr w.heap.size g v s ∧ D1 s k ∧ Says s gm ∧ BM wr mb gm s.rs.length ∧ Bel w wr)) (fun v19 _ => q - (intOf v19).toNat)
  case atStart => exact ⟨0, rfl, by omega, HX2⟩
  case round =>
    obtain ⟨wi, rfl⟩ : ∃ wi : World, wi = wr := ⟨_, rfl⟩
    obtain ⟨k, rfl, hk, HI⟩ := hrel
    obtain ⟨v, s, gm, h1, hd, hs, hmp, hbw⟩ := HI.out
    have H1 := Lib.hid h1
    have HD := Lib.hid hd
    have HS := Lib.hid hs
    have HM := Lib.hid hmp
    have HBw := Lib.hid hbw
    clear h1 hd hs hmp hbw HI HX2
    by_cases hlt : k < q
    · obtain ⟨ad, rfl, z0, z1, z2, z3, hwf, _⟩ := HC.out k (by rw [HNL.out]; omega)
      have z0 := cellB HBw.out z0
      have z1 := cellB HBw.out z1
      have z2 := cellB HBw.out z2
      have z3 := cellB HBw.out z3
      generalize actAt l k = x at *
      obtain ⟨x0, x1, x2, x3⟩ := x
      simp only [] at z0 z1 z2 z3 hwf
      have HWF := Lib.hid hwf
      clear hwf
      have hlt' : decide ((k : Int) < q) = true := by simp; omega
      cases x3
      · go_wp2_with fail
        refine wp_gen (fun W => Bel wi W ∧ W.heap[wi.heap.size]? = some (.cells #[.int .i64 x0, .int .u8 x1, .bool x2, .bool false] 23 (0, 0))) ⟨Bel.alloc _ _, heap_alloc_new _ _⟩ ?_
        rintro W ⟨hbW, hxW⟩
        obtain ⟨bx, hbx⟩ : ∃ bx, bx = wi.heap.size := ⟨_, rfl⟩
        rw [← hbx] at hxW ⊢
        have hxm : bx ≠ mb ∧ bx ≠ g := by
          have h1 := blk_lt H1.out.blk
          obtain ⟨es, clock, hm⟩ := HM.out.isMap
          have h2 := blk_lt hm
          omega
        have HXM := Lib.hid hxm
        have HW := Lib.hid (And.intro (H1.out.bel hbW) (And.intro (TMap.below HM.out hbW : BM W mb gm s.rs.length) (HBw.out.trans hbW)))
        clear hbx hxm z0 z1 z2 z3 hbW H1 HM HBw
        have KSx := Lib.hid (KS.out x1)
        have zD := ZS.out x1
        simp only [Bool.false_eq_true, if_false] at zD
        generalize secV x1 false = D at *
        have ZD := Lib.hid zD
        have KPx := Lib.hid (fun w' (h : Bel W w') => KP.out w' g v s x0 D HD.out.ok.up HD.out.ok.len' (by rw [ZD.out]; decide) HD.out.ok.clock (by have := HD.out.clock; omega) (by have := h.size; have := HW.out.2.2.size; omega) (HW.out.1.bel h))
        have HD' := Lib.hid (d1_put HD.out x0 D)
        have q0 := fun (wx : World) (h : wx.heap[bx]? = some (.cells #[.int .i64 x0, .int .u8 x1, .bool x2, .bool false] 23 (0, 0))) => blk_cell h 0
        have q1 := fun (wx : World) (h : wx.heap[bx]? = some (.cells #[.int .i64 x0, .int .u8 x1, .bool x2, .bool false] 23 (0, 0))) => blk_cell h 1
        have hkeep := fun (u1 u2 : World) (kk : Kp w.heap.size g u1 u2) (h : u1.heap[bx]? = some (.cells #[.int .i64 x0, .int .u8 x1, .bool x2, .bool false] 23 (0, 0))) => kk.keep h HXM.out.2 (by decide)
        by_cases he : putE s x0 D = 0
        · rw [he] at KPx
          have HE := Lib.hid he
          clear he
          go_region_held3 (fun w' => w'.heap[bx]? = some (.cells #[.int .i64 x0, .int .u8 x1, .bool x2, .bool false] 23 (0, 0))) (first | assumption | (refine blk_below ?_ (Bel.drew _); assumption) | (refine blk_below (by assumption) (by assumption)) | exact hkeep _ _ (by assumption) (by assumption)) ((first | (go_at_call 11; refine (KSx.out _).mono ?_; rintro e wc1 ⟨rfl, hbc1⟩) | (go_at_call 10; refine (KPx.out _ (by first | assumption | exact Bel.trans (Bel.drew _) (by assumption))).mono ?_; rintro e wc2 ⟨v2, rfl, hq2, hkp2⟩)))
          have HB2 : Hid (IsQ wc2 w.heap.size g v2 (putS s x0 D) ∧ BM wc2 mb gm s.rs.length ∧ Bel w wc2) := by
            have hbb : Bel W wc1 := by first | assumption | exact Bel.trans (Bel.drew _) (by assumption)
            exact Lib.hid ⟨hq2, BM.kp (TMap.below HW.out.2.1 hbb) hkp2 HMb.out.1, Kp.below' (base := w.heap.size) (HW.out.2.2.trans hbb) hkp2 HMb.out.2.2⟩
          have hx2 : wc2.heap[bx]? = some (.cells #[.int .i64 x0, .int .u8 x1, .bool x2, .bool false] 23 (0, 0)) := by assumption
          have c0 := blk_cell hx2 0
          have hszl : s.rs.length < maxLen := by have : maxLen = 9223372036854775807 := rfl; have := HD.out.len; omega
          clear hkp2 hq2 hbc1 hx2
          go_wp2_with (at_mapUpdate; refine wpList_mapUpdate_T rfl _ _ _ rfl keyed3 Try.underlying61 HB2.out.2.1 hszl HINJ.out rfl x0 rfl true rfl (.int .i64 x0) HWF.out (Maps.keyOf_int_mk Try.underlying3 HWF.out) _ (plainElem_bool Try.underlying4 true) ?_; intro w7 hP7 hg7; have G7 := Lib.hid hg7; have P7 := Lib.hid hP7; clear hg7 hP7)
          have hfin : Hid (∃ v s gm, IsQ w7 w.heap.size g v s ∧ D1 s (k + 1) ∧ Says s gm ∧ BM w7 mb gm s.rs.length ∧ Bel w w7) := by
            obtain ⟨es, clock, hmm⟩ := HB2.out.2.1.isMap
            refine Lib.hid ⟨v2, _, _, HB2.out.1.map hmm G7.out, HD'.out, says_put HD.out.ok HE.out HS.out, ?_, bel_map HB2.out.2.2 G7.out HMb.out.2.1⟩
            have e : (putS s x0 D).rs.length = if (gm x0).isSome then s.rs.length else s.rs.length + 1 := by
              rw [put_len HE.out, says_some HS.out x0]
              split <;> rfl
            rw [e]
            exact P7.out
          clear G7 P7 HB2
          go_wp2_with fail
          exact ⟨⟨k + 1, by congr 1, by omega, hfin⟩, by simp [intOf]; omega⟩
        · have hE : putS s x0 D = s := putS_no he
          have hd0 : decide (putE s x0 D = 0) = false := by simpa using he
          have hd1 : (putE s x0 D == 0) = false := by simpa using he
          rw [hE] at KPx HD'
          clear he hE
          generalize putE s x0 D = E at *
          go_region_held3 (fun w' => w'.heap[bx]? = some (.cells #[.int .i64 x0, .int .u8 x1, .bool x2, .bool false] 23 (0, 0))) (first | assumption | (refine blk_below ?_ (Bel.drew _); assumption) | (refine blk_below (by assumption) (by assumption)) | exact hkeep _ _ (by assumption) (by assumption)) ((first | (go_at_call 11; refine (KSx.out _).mono ?_; rintro e wc1 ⟨rfl, hbc1⟩) | (go_at_call 10; refine (KPx.out _ (by first | assumption | exact Bel.trans (Bel.drew _) (by assumption))).mono ?_; rintro e wc2 ⟨v2, rfl, hq2, hkp2⟩)))
          have hfin : Hid (∃ v s gm, IsQ wc2 w.heap.size g v s ∧ D1 s (k + 1) ∧ Says s gm ∧ BM wc2 mb gm s.rs.length ∧ Bel w wc2) := by
            have hbb : Bel W wc1 := by first | assumption | exact Bel.trans (Bel.drew _) (by assumption)
            exact Lib.hid ⟨v2, s, gm, hq2, HD'.out, HS.out, BM.kp (TMap.below HW.out.2.1 hbb) hkp2 HMb.out.1, Kp.below' (base := w.heap.size) (HW.out.2.2.trans hbb) hkp2 HMb.out.2.2⟩
          go_wp2_with fail
          exact ⟨⟨k + 1, by congr 1, by omega, hfin⟩, by simp [intOf]; omega⟩

      · go_wp2_with fail
        refine calls_gen (fun W => Bel wi W ∧ W.heap[wi.heap.size]? = some (.cells #[.int .i64 x0, .int .u8 x1, .bool x2, .bool true] 23 (0, 0))) ⟨Bel.alloc _ _, heap_alloc_new _ _⟩ ?_
        rintro W ⟨hbW, hxW⟩
        obtain ⟨bx, hbx⟩ : ∃ bx, bx = wi.heap.size := ⟨_, rfl⟩
        rw [← hbx] at hxW ⊢
        have hxm : bx ≠ mb ∧ bx ≠ g := by
          have h1 := blk_lt H1.out.blk
          obtain ⟨es, clock, hm⟩ := HM.out.isMap
          have h2 := blk_lt hm
          omega
        have HW := Lib.hid (And.intro (H1.out.bel hbW) (And.intro (TMap.below HM.out hbW : BM W mb gm s.rs.length) (HBw.out.trans hbW)))
        have hz : w.heap.size ≤ W.heap.size := HW.out.2.2.size
        have KTx := Lib.hid (KT.out W g v s x0 HD.out.ok.up HD.out.ok.len' hz HW.out.1)
        clear hbx z0 z1 z2 z3 hbW H1 HM HBw hz
        refine KTx.out.mono ?_
        rintro e w5 ⟨v5, rfl, h5, hk5, ho5⟩
        have hx5 := hk5.keep hxW hxm.2 (by decide)
        have c0 := blk_cell hx5 0
        have HM5 : Hid (BM w5 mb gm s.rs.length) := Lib.hid (BM.kp HW.out.2.1 hk5 HMb.out.1)
        have H5 := Lib.hid (And.intro h5 (Kp.below' (base := w.heap.size) HW.out.2.2 hk5 HMb.out.2.2))
        obtain ⟨w7, hdr, hP7, hg7⟩ := TMap.drop HM5.out keyed3 Try.underlying61 HINJ.out HWF.out (Maps.keyOf_int_mk Try.underlying3 HWF.out) 0
        have hfin : Hid (∃ v s gm, IsQ w7 w.heap.size g v s ∧ D1 s (k + 1) ∧ Says s gm ∧ BM w7 mb gm s.rs.length ∧ Bel w w7) := by
          obtain ⟨es, clock, hmm⟩ := HM5.out.isMap
          refine Lib.hid ⟨v5, _, _, H5.out.1.map hmm hg7.grown, d1_take HD.out x0, says_take HD.out.ok x0 HS.out, ?_, bel_map H5.out.2 hg7.grown HMb.out.2.1⟩
          have e : (takeS s x0).rs.length = if (gm x0).isSome then s.rs.length - 1 else s.rs.length := by
            rw [take_len, says_some HS.out x0]
            split <;> rfl
          rw [e]
          exact hP7
        clear hP7 hg7 H5 HM5 h5 hk5 ho5 hx5 hxW hxm KTx HW
        generalize takeV s x0 = tv at *
        generalize has s x0 = tb at *
        go_wp2_with fail
        exact ⟨⟨k + 1, by congr 1, by omega, hfin⟩, by simp [intOf]; omega⟩

    · have hkq : k = q := by omega
      subst hkq
      have hlt' : decide ((k : Int) < k) = false := by simp
      have KSx := Lib.hid (KSp.out wi g v s H1.out HD.out.ok.up HD.out.ok.key (by have := HD.out.len; omega))
      go_wp2_with fail
      refine KSx.out.mono ?_
      rintro e w3 ⟨v3, L, rfl, hrow, hsb, hb3⟩
      have hLlen : L.length ≤ 80 := by have := hsb.len; have := HD.out.len; omega
      obtain ⟨A3, c3, rfl, hc3, hC3⟩ := kdc hrow (by omega)
      have hgl := (gl_iff L).2 hsb.good
      have KG := Lib.hid (fun wx (h : Bel w3 wx) => lgoodB A3 c3 L (by omega) hc3 wx (Kd.C_below hC3 h))
      have KT2 := Lib.hid (fun wx (h : Bel w3 wx) => ptotB A3 c3 L (by omega) hc3 hsb.good wx (Kd.C_below hC3 h))
      have KH := Lib.hid (fun x wx (h : Bel w3 wx) => phasB A3 c3 L x (by omega) hc3 wx (Kd.C_below hC3 h))
      simp only [hgl, hsb.tot, sb_hasB HD.out.ok hsb, Bool.true_and] at KG KT2 KH
      have KLx := Lib.hid (fun wx (h : Bel w3 wx) => KL.out wx g v s (H1.out.bel (hb3.trans h)))
      have HM3 : Hid (BM w3 mb gm s.rs.length) := Lib.hid (TMap.below HM.out hb3)
      have HLEN := Lib.hid (fun wx (h : Bel w3 wx) ty => TMap.len (TMap.below HM3.out h : BM wx mb gm s.rs.length) Try.underlying61 ty)
      have HLOOK := Lib.hid (fun wx (h : Bel w3 wx) => BM.look (TMap.below HM3.out h : BM wx mb gm s.rs.length) at_ HAT.out)
      simp only [says_get HS.out] at HLOOK
      have HSG := Lib.hid (fun x (h : gm x ≠ none) => (by cases hh : has s x; (· rw [HS.out x, hh] at h; simp at h); rfl : has s x = true))
      have HB3 := Lib.hid (HBw.out.trans hb3)
      have hb0 : Bel w3 w3 := Bel.refl _
      have HN80 : Hid (s.rs.length ≤ 80) := Lib.hid (by have := HD.out.len; omega)
      clear hrow hsb hb3 hC3 hgl KSx H1 HM HBw HD HS hlt' KSp KP KT KL KS ZS hlt hk hq1 hq2 hsl
      generalize L.length = m at *
      generalize hNN : s.rs.length = N at *
      clear hNN
      have KHA := Lib.hid (fun wx h => KH.out at_ wx h)
      generalize hBB : has s at_ = B at *
      have e1 : (!B == B) = false := by cases B <;> rfl
      have e2 : (B != B) = false := by cases B <;> rfl
      clear hBB
      go_wp2_with fail
      have hlen := HLEN.out
      have hlook := HLOOK.out
      go_region_held3 (fun w' => Bel w3 w') (first | assumption | exact Bel.drew _ | exact Bel.trans (by assumption) (Bel.drew _) | exact Bel.trans (by assumption) (by assumption)) ((first | (go_at_call 14; refine (K8.out _).mono ?_; rintro e wx1 ⟨rfl, hbx1⟩) | (go_at_call 25; refine (KG.out _ (by assumption)).mono ?_; rintro e wx2 ⟨rfl, hbx2⟩) | (go_at_call 26; refine (KT2.out _ (by assumption)).mono ?_; rintro e wx3 ⟨rfl, hbx3⟩) | (go_at_call 16; refine (KLx.out _ (by assumption)).mono ?_; rintro e wx4 ⟨rfl, hbx4⟩) | (go_at_call 27; refine (KHA.out _ (by assumption)).mono ?_; rintro e wx5 ⟨rfl, hbx5⟩) | (rw [HLEN.out _ (by assumption)]; go_simp) | (rw [HLOOK.out _ (by assumption)]; go_simp)))
      all_goals
        have HB5 := Lib.hid (‹Bel w3 wx5› : Bel w3 wx5)
        have HM5 : Hid (BM wx5 mb gm N) := Lib.hid (TMap.below HM3.out HB5.out)
        obtain ⟨D, hown, hsz, hD⟩ := HM5.out
        have HDD := Lib.hid hD
        clear hD hsz hlen hlook hbx1 hbx2 hbx3 hbx4 hbx5 HLEN HLOOK KG KT2 KLx HM5 HM3
        go_wp2_with (first | (at_range; refine wpList_range_own _ rfl _ 61 rfl 3 4 keyed3 Try.underlying61 _ mb N D rfl hown ?_; intro w8 hrg8 hg8 hs8))
        try go_frame
        have hb8 : Bel wx5 w8 := ⟨hg8.os, hg8.tape, hg8.output, hg8.size, fun k hk => hg8.block k hk (by simp)⟩
        obtain ⟨rb, hrb⟩ : ∃ rb, rb = wx5.heap.size := ⟨_, rfl⟩
        rw [← hrb] at hrg8 ⊢
        have HRB : Hid (wx5.heap.size = rb) := Lib.hid hrb.symm
        have HB8 := Lib.hid hb8
        clear hg8 hs8 hb8 hrb hown
        go_loopw [10] (fun _ wr => ∃ (left : Lit → Bool) (cnt : Nat), wr.ranges Try.prog 3 (plainElem Try.prog 4) mb rb N D left cnt ∧ Hid (Bel wx5 wr)) (fun _ wr => wr.rangeLeft mb rb)
        case atStart => exact ⟨_, _, hrg8, HB8⟩
        case round =>
          obtain ⟨wj, rfl⟩ : ∃ wj : World, wj = wr := ⟨_, rfl⟩
          obtain ⟨left, cnt, hrg, HBj⟩ := hrel
          clear hrg8
          go_wp2_with (first | (at_next; refine wpList_next_ranges _ rfl _ rfl 3 keyed3 (plainElem Try.prog 4) (Value.int .i64) Value.bool (fun key kl hkey => by obtain ⟨x, rfl, _⟩ := Maps.keyOf_int_inv Try.underlying3 hkey; exact ⟨x, rfl⟩) (fun v y hv => bool_inv hv) mb rb N D left cnt rfl hrg ?_ ?_))
          · intro _ hl0
            have hfin := HB3.out.trans (HB5.out.trans HBj.out)
            clear hrg HBj
            go_wp2_with fail
            go_ret
            exact ⟨rfl, hfin⟩
          · intro x
            constructor
            all_goals
              intro kl ya yb w9 cnt1 hkey hlk hv hat hrg1 hltc hg1 hs1 hen
              obtain ⟨x', ex, rfl, hwx⟩ := Maps.keyOf_int_inv Try.underlying3 hkey
              cases ex
              have hgx : has s x = true := HSG.out x (fun hno => by
                rcases HDD.out x hwx _ hkey with ⟨a, d, hg, _⟩ | ⟨_, hn⟩
                · rw [hno] at hg; cases hg
                · have e1 := (Maps.atKey_of_not_has hn .nil).symm.trans (hat .nil)
                  have e2 := (Maps.atKey_of_not_has hn (.lit (.int .i64 0))).symm.trans (hat (.lit (.int .i64 0)))
                  rw [← e2] at e1
                  cases e1)
              have HR := Lib.hid (And.intro hrg hrg1)
              have HL : Hid (cnt1 < cnt) := Lib.hid hltc
              have HB9 : Hid (Bel wx5 w9) := Lib.hid (bel_map HBj.out hg1 (Nat.le_of_eq HRB.out))
              have KHx := Lib.hid (KH.out x w9 (HB5.out.trans HB9.out))
              rw [hgx] at KHx
              clear hrg hrg1 hltc hg1 hs1 hat hgx hwx HBj hv hlk hkey
              go_wp2_with fail
              refine KHx.out.mono ?_
              rintro e w10 ⟨rfl, hb10⟩
              have HB10 := Lib.hid hb10
              have HR2 := Lib.hid (World.ranges.kept HR.out.2 (bel_grown hb10 none) (by simp) (by simp))
              clear hb10
              go_wp2_with fail
              exact ⟨⟨_, cnt1, HR2.out, Lib.hid (HB9.out.trans HB10.out)⟩, by rw [HR2.out.left_eq, HR.out.1.left_eq]; exact HL.out⟩
end Go.Proofs.Ytffegfidaolgjaa
