/- Lift: the walk of LiftSweeps. -/
import Derived.Test.YthhigmkheccfpaaSw
import Derived.Test.YthhigmkheccfpaaTMap
import Derived.WideMake
set_option linter.unusedVariables false
set_option linter.unusedSimpArgs false
namespace Go.Proofs.Ythhigmkheccfpaa
open Go.RowKit Go.Proofs.YthhigmkheccfpaaW.PrintLast
def swT.T13 : Bool × List (List Nat × List Nat) := (true, [([], []), ([], []), ([0, 1], [0, 1]), ([2], [2]), ([], []), ([], []), ([4, 5], [4, 5]), ([3, 6], [3, 6])])
def swT.B13 : List Nat := [0, 0, 3, 7, 0, 0, 48, 127]
theorem swT.tab13 : rtab .any (opsOf Try.f4 13) = swT.T13 := by kernel_rfl
theorem swT.bits13 : waitsOk swT.T13.2 swT.B13 = true := by kernel_rfl
abbrev BM (w : World) (b : Nat) (g : Int → Option Bool) (n : Nat) : Prop := TMap Try.prog 3 4 (fun x : Int => Value.int .i64 x) (fun x => (Lit.int .i64 x).wf = true) (fun b : Bool => Value.bool b) w b g n
theorem keyed3 : Maps.Keyed Try.prog 3 := Maps.int_keyed Try.underlying3
theorem zero4 (w : World) : (zeroValue 4).run Try.prog w = .ok (.bool false) w := by kernel_rfl
theorem BM.look {w : World} {b n : Nat} {g : Int → Option Bool} (h : BM w b g n) (x : Int) (hx : (Lit.int .i64 x).wf = true) : (Instr.lookup 36 (.map (some b)) (.int .i64 x) false).run Try.prog w = .ok (.bool ((g x).getD false)) w :=
  TMap.lookup (a0 := false) h keyed3 Try.underlying36 (zero4 w) (plainElem_bool Try.underlying4 false) hx (Maps.keyOf_int_mk Try.underlying3 hx)
theorem BM.isMap {w : World} {b n : Nat} {g : Int → Option Bool} (h : BM w b g n) : ∃ es clock, w.heap[b]? = some (.map es clock) := by
  obtain ⟨D, ⟨es, clock, h1, _⟩, _⟩ := h
  exact ⟨es, clock, h1⟩
theorem BM.kp {base l : Nat} {w w' : World} {b n : Nat} {g : Int → Option Bool} (h : BM w b g n) (k : Kp base l w w') (hne : b ≠ l) : BM w' b g n := by
  obtain ⟨es, clock, hm⟩ := h.isMap
  exact TMap.keep h (k.blk b (blk_lt hm) hne (.inr fun cs e => by rw [hm] at e; simp at e))
theorem IsL.map {w w' : World} {base g b n : Nat} {v : Value} {s : LS} {gm : Int → Option Bool} (h : IsL w base g v s) (hm : BM w b gm n) (hg : w.grownBy w' (some b)) : IsL w' base g v s := by
  obtain ⟨es, clock, hm⟩ := hm.isMap
  refine ⟨(hg.block g (blk_lt h.blk) (fun e => ?_)).trans h.blk, World.ownsRow.kept (row := some b) h.row hg ?_⟩
  · have := h.blk
    rw [Option.some.inj e, hm] at this
    simp at this
  · cases hv : v.ownBlock with
    | none => exact .inl rfl
    | some k =>
      refine .inr fun e => ?_
      obtain ⟨_, cs', h2⟩ := h.row.blk hv
      rw [Option.some.inj e, hm] at h2
      simp at h2
theorem bel_map {w0 w w' : World} {b : Nat} (h : Bel w0 w) (hg : w.grownBy w' (some b)) (hb : w0.heap.size ≤ b) : Bel w0 w' :=
  ⟨hg.os.trans h.os, hg.tape.trans h.tape, hg.output.trans h.output, Nat.le_trans h.size hg.size, fun k hk => (hg.block k (Nat.lt_of_lt_of_le hk h.size) (by simp; omega)).trans (h.block k hk)⟩
/-- The map says who waits. -/
def Says (s : LS) (gm : Int → Option Bool) : Prop := ∀ x, gm x = if has s x = true then some true else none
/-- k keys have been put. -/
structure A1 (s : LS) (first : Int) (k : Nat) : Prop where
  ok : Ok s
  age : s.age = 65536
  head : s.head = first + 1
  wt : ∀ x ∈ s.rs, x.f1 ≤ 0
  len : s.rs.length ≤ k
  add : s.added ≤ k + 1
theorem a1_step {s : LS} {first : Int} {k : Nat} (h : A1 s first k) (hk : k < 200) {key : Int} (h0 : 0 ≤ key) (h1 : key ≤ 1023) : (has s key = false → addE s key = 0 ∧ A1 (addS s key) first (k + 1)) ∧ (has s key = true → addE s key = 11 ∧ addS s key = s ∧ A1 s first (k + 1)) := by
  have hl := h.len
  have ha := h.add
  constructor
  · intro hh
    have he := addE_of (s := s) (key := key) (by omega) (by omega) hh (by omega)
    refine ⟨he, ok_add h.ok key, by rw [addS_of he]; exact h.age, by rw [addS_of he]; exact h.head, fun x hx => ?_, ?_, ?_⟩
    · rw [addS_of he] at hx
      rcases (mem_insR s key x).1 hx with hx | rfl
      · exact h.wt x hx
      · exact Int.le_refl 0
    · rw [addS_of he]; show (insR s key).length ≤ _; rw [insR_len]; omega
    · rw [addS_of he]; show s.added + 1 ≤ _; omega
  · intro hh
    have he : addE s key = 11 := by unfold addE; rw [if_neg (by omega), if_pos hh]
    exact ⟨he, addS_no (by rw [he]; decide), h.ok, h.age, h.head, h.wt, by omega, by omega⟩
theorem says_add {s : LS} (h : Ok s) {gm : Int → Option Bool} {key : Int} (he : addE s key = 0) (hs : Says s gm) : Says (addS s key) (fun z => if z = key then some true else gm z) := fun x => by
  have := has_addS h he x
  simp only []
  by_cases hx : x = key
  · rw [if_pos hx, if_pos (this.2 (.inr hx))]
  · rw [if_neg hx, hs x]
    by_cases hh : has s x = true
    · rw [if_pos hh, if_pos (this.2 (.inl hh))]
    · rw [if_neg hh, if_neg (fun e => (this.1 e).elim hh hx)]
theorem says_again {s : LS} {gm : Int → Option Bool} {key : Int} (hh : has s key = true) (hs : Says s gm) : Says s (fun z => if z = key then some true else gm z) := fun x => by
  simp only []
  by_cases hx : x = key
  · rw [if_pos hx, hx, if_pos hh]
  · rw [if_neg hx, hs x]
theorem says_pick {s : LS} (h : Ok s) (h0 : 0 < s.rs.length) {gm : Int → Option Bool} (hs : Says s gm) : Says (pickS s) (fun z => if z = pickK s then none else gm z) := fun x => by
  have := has_pick h h0 x
  simp only []
  by_cases hx : x = pickK s
  · rw [if_pos hx, if_neg (fun e => (this.1 e).2 hx)]
  · rw [if_neg hx, hs x]
    by_cases hh : has s x = true
    · rw [if_pos hh, if_pos (this.2 ⟨hh, hx⟩)]
    · rw [if_neg hh, if_neg (fun e => hh (this.1 e).1)]
theorem sl35 (A : Option Addr) (c n : Nat) (hn : n ≤ c) (W : World) : (Instr.slice 35 (.slice A n c) none (some (.int .i64 (min (n : Int) 200))) none).run Try.prog W = .ok (.slice A (min 200 n) c) W := by
  have hel : Try.prog.elem 35 = 3 := by simp [Program.elem, Try.underlying35]
  have hu : Try.prog.underlying 35 = some (.slice (Try.prog.elem 35)) := by rw [hel]; exact Try.underlying35
  have hi3 : (Try.prog.info? 3).map (fun i => i.size) = some 1 := by kernel_rfl
  obtain ⟨inf, hinf, hsz⟩ : ∃ inf, Try.prog.info? 3 = some inf ∧ inf.size = 1 := by
    cases h : Try.prog.info? 3 with
    | none => rw [h] at hi3; simp at hi3
    | some inf => rw [h] at hi3; simp at hi3; exact ⟨inf, rfl, hi3⟩
  rw [run_slice_h W 35 A n c hu .i64 _ (by omega) (by omega), hel]
  have e : (min (n : Int) 200).toNat = min 200 n := by omega
  have em : Option.map (fun x : Addr => x.add 0) A = A := by cases A <;> simp [Addr.add]
  simp [sizeOf, typeInfo, hinf, hsz, sliced, Result.andThen, e, em]
/-- The first picked, the first of all. -/
theorem first_pick (first : Int) (h0 : 0 ≤ first) (h1 : first ≤ 1023) : addE ⟨65536, 0, 0, []⟩ first = 0 ∧ pickK (addS ⟨65536, 0, 0, []⟩ first) = first ∧ pickB (addS ⟨65536, 0, 0, []⟩ first) = true ∧ A1 (pickS (addS ⟨65536, 0, 0, []⟩ first)) first 0 ∧ Ok (addS ⟨65536, 0, 0, []⟩ first) ∧ (∀ x ∈ (addS ⟨65536, 0, 0, []⟩ first).rs, x.f1 ≤ 1000000) ∧ (pickS (addS ⟨65536, 0, 0, []⟩ first)).rs = [] := by
  have ho : Ok ⟨65536, 0, 0, []⟩ := by have := ok_new 65536; exact this
  have he : addE ⟨65536, 0, 0, []⟩ first = 0 := addE_of h0 (by omega) (by simp [has, isAt]) (by simp)
  have hs : addS ⟨65536, 0, 0, []⟩ first = ⟨65536, 0, 1, [⟨first, 0, 0⟩]⟩ := by rw [addS_of he]; simp [insR, pos]
  have ho1 := ok_add ho first
  rw [hs] at ho1 ⊢
  have hc : chooseP ⟨65536, 0, 1, [⟨first, 0, 0⟩]⟩ = 0 := by
    have := chooseP_lt (s := ⟨65536, 0, 1, [⟨first, 0, 0⟩]⟩) ho1.up (by simp)
    simp at this; exact this
  have hk : pickK ⟨65536, 0, 1, [⟨first, 0, 0⟩]⟩ = first := by unfold pickK; rw [if_pos (by simp), hc]; rfl
  have hp : pickS ⟨65536, 0, 1, [⟨first, 0, 0⟩]⟩ = ⟨65536, first + 1, 1, []⟩ := by unfold pickS; rw [if_pos (by simp), hc, hk]; rfl
  have ho2 := ok_pick ho1
  rw [hp] at ho2 ⊢
  exact ⟨he, hk, by simp [pickB], ⟨ho2, rfl, rfl, by simp, by simp, by simp⟩, ho1, by simp, rfl⟩
theorem wf_small {x : Int} (h0 : 0 ≤ x) (h1 : x ≤ 1099511627776) : (Lit.int .i64 x).wf = true := by
  simp [Lit.wf, IntKind.min, IntKind.max, IntKind.bits, IntKind.signed]; omega
theorem and1023 (a : Int) : 0 ≤ Go.bits .and .i64 a 1023 ∧ Go.bits .and .i64 a 1023 ≤ 1023 := by
  show 0 ≤ IntKind.i64.wrap ((BitVec.ofInt 64 a &&& BitVec.ofInt 64 (1023 : Int)).toNat : Int) ∧ IntKind.i64.wrap ((BitVec.ofInt 64 a &&& BitVec.ofInt 64 (1023 : Int)).toNat : Int) ≤ 1023
  rw [BitVec.toNat_and, show (BitVec.ofInt 64 (1023 : Int)).toNat = 2 ^ 10 - 1 by decide, Nat.and_two_pow_sub_one_eq_mod, IntKind.wrap_i64]
  omega
set_option maxHeartbeats 8000000 in
set_option maxRecDepth 100000 in
theorem lawSweepW (A : Option Addr) (c n : Nat) (zs : List Int) (first0 : Int) (hn : n ≤ c) (w : World) (hC : ∀ i, i < n → ∃ ad, A = some ad ∧ w.cell? (ad.add i) = some (.int .i64 (zs.getD i 0))) :
    Calls Try.prog 4 #[.slice A n c, .int .i64 first0] w fun e w' => e = .returned (.bool true) ∧ Bel w w' := by
  have hsl := fun W => sl35 A c n hn W
  have HC := Lib.hid hC
  have KN := Lib.hid (newL 65536)
  have hm : max (1 : Int) (min 65536 65536) = 65536 := by decide
  rw [hm] at KN
  have KA := Lib.hid (fun w1 g v s key hok hsm hb h => addL w1 w.heap.size g v s key hok hsm hb h)
  have KP := Lib.hid (fun w1 g v s hok hsm h => pickL w1 w.heap.size g v s hok hsm h)
  have KL := Lib.hid (fun w1 g v s h => lenL w1 w.heap.size g v s h)
  have K8 := Lib.hid wakesL
  clear hC hm
  go_enter Try.func4, Try.ntmps4
  go_wp2_with fail
  refine (KN.out _).mono ?_
  rintro e w1 ⟨rfl, hb1, hlt1, hI⟩
  have hI0 := hI w.heap.size
  obtain ⟨g, hg⟩ : ∃ g, g = w.heap.size := ⟨_, rfl⟩
  rw [← hg] at hlt1 ⊢
  have HI1 : Hid (IsL w1 w.heap.size g (.slice none 0 0) ⟨65536, 0, 0, []⟩) := Lib.hid (hg ▸ hI0)
  have HB1 := Lib.hid hb1
  have HG := Lib.hid hg
  clear hb1 hI hI0 KN hg
  have hmm := fun w => run_makeMap_plain (P := Try.prog) (w := w) 36
  have hf := and1023 first0
  go_wp2_with fail
  generalize bits BinOp.and IntKind.i64 first0 1023 = first at *
  obtain ⟨hf0, hf1⟩ := hf
  have HP := Lib.hid (first_pick first hf0 hf1)
  refine calls_gen (fun W => Bel w1 W ∧ BM W w1.heap.size (fun _ => none) 0) ⟨Bel.alloc _ _, TMap.made _⟩ ?_
  rintro W2 ⟨hb2, hm2⟩
  obtain ⟨mb, hmb⟩ : ∃ mb, mb = w1.heap.size := ⟨_, rfl⟩
  rw [← hmb] at hm2 ⊢
  have HI2 := Lib.hid (HI1.out.bel hb2)
  have HB2 := Lib.hid (HB1.out.trans hb2)
  have HM2 := Lib.hid hm2
  have HMb : Hid (mb ≠ g ∧ w.heap.size ≤ mb ∧ w.heap.size ≤ g) := Lib.hid ⟨by omega, by have := HB1.out.size; omega, by have := HG.out; omega⟩
  clear hb2 hm2 HI1 HB1 hmb hmm
  refine (K8.out _).mono ?_
  rintro e w3 ⟨rfl, hb3⟩
  have HI3 := Lib.hid (HI2.out.bel hb3)
  have HB3 := Lib.hid (HB2.out.trans hb3)
  have HM3 : Hid (BM w3 mb (fun _ => none) 0) := Lib.hid (TMap.below HM2.out hb3)
  clear hb3 HI2 HB2 HM2
  go_wp2_with fail
  refine (KA.out _ g _ _ first (by have := ok_new 65536; exact this) (by decide) (by exact HB3.out.size) HI3.out).mono ?_
  rintro e w4 ⟨v4, rfl, h4, hk4⟩
  rw [HP.out.1]
  have HI4 := Lib.hid h4
  have HB4 := Lib.hid (Kp.below' (base := w.heap.size) HB3.out hk4 HMb.out.2.2)
  have HM4 := Lib.hid (BM.kp HM3.out hk4 HMb.out.1)
  clear h4 hk4 HI3 HB3 HM3
  go_wp2_with fail
  refine (KP.out _ g _ _ HP.out.2.2.2.2.1 HP.out.2.2.2.2.2.1 HI4.out).mono ?_
  rintro e w5 ⟨v5, rfl, h5, hk5⟩
  rw [HP.out.2.1, HP.out.2.2.1]
  have HX5 : Hid (∃ v s gm, IsL w5 w.heap.size g v s ∧ A1 s first 0 ∧ Says s gm ∧ BM w5 mb gm s.rs.length ∧ Bel w w5) := Lib.hid ⟨v5, _, fun _ => none, h5, HP.out.2.2.2.1, fun x => by
    rw [if_neg]
    rw [has_iff HP.out.2.2.2.1.ok.up, HP.out.2.2.2.2.2.2]
    simp, by rw [HP.out.2.2.2.2.2.2]; exact BM.kp HM4.out hk5 HMb.out.1, Kp.below' (base := w.heap.size) HB4.out hk5 HMb.out.2.2⟩
  have hrf : (first == first) = true := by simp
  clear h5 hk5 HI4 HB4 HM4
  go_wp2_with fail
  obtain ⟨q, hq⟩ : ∃ q, q = min 200 n := ⟨_, rfl⟩
  rw [← hq] at hsl ⊢
  have hq2 : q ≤ 200 ∧ q ≤ n := by omega
  clear hq hrf
  go_wp2_with fail
  go_loopw [45] (fun v45 wr => ∃ (k : Nat), v45 = .int .i64 k ∧ k ≤ q ∧ Hid (∃ v s gm, IsL wr w.heap.size g v s ∧ A1 s first k ∧ Says s gm ∧ BM wr mb gm s.rs.length ∧ Bel w wr)) (fun v45 _ => q - (intOf v45).toNat)
  case atStart => exact ⟨0, rfl, by omega, HX5⟩
  case round =>
    obtain ⟨wi, rfl⟩ : ∃ wi : World, wi = wr := ⟨_, rfl⟩
    obtain ⟨k, rfl, hk, HI⟩ := hrel
    obtain ⟨v, s, gm, h1, ha, hs, hmp, hbw⟩ := HI.out
    have H1 := Lib.hid h1
    have HA := Lib.hid ha
    have HS := Lib.hid hs
    have HM := Lib.hid hmp
    have HBw := Lib.hid hbw
    clear h1 ha hs hmp hbw HI HX5
    by_cases hlt : k < q
    · obtain ⟨ad, rfl, hz⟩ := HC.out k (by omega)
      have hz := cellB HBw.out hz
      generalize zs.getD k 0 = z0 at *
      have hzr := and1023 z0
      go_wp2_with fail
      generalize bits BinOp.and IntKind.i64 z0 1023 = key at *
      obtain ⟨hk0, hk1⟩ := hzr
      have hwf := wf_small hk0 (by omega)
      clear hz
      have HST := Lib.hid (a1_step HA.out (by omega) hk0 hk1)
      have hinj : ∀ x y : Int, Value.int .i64 x = Value.int .i64 y → x = y := fun x y h => by simpa using h
      have HDr := Lib.hid (H1.out.bel (Bel.drew wi))
      have HMd : Hid (BM wi.drew mb gm s.rs.length) := Lib.hid (TMap.below HM.out (Bel.drew wi))
      have hszw : w.heap.size ≤ wi.drew.heap.size := HBw.out.size
      have hlen := HA.out.len
      cases hh : has s key
      · have hgm : (gm key).getD false = false := by rw [HS.out key, hh]; simp
        have hgs : (gm key).isSome = false := by rw [HS.out key, hh]; simp
        have HSt := Lib.hid (HST.out.1 hh)
        have K11 := Lib.hid (KA.out wi.drew g v s key HA.out.ok (by have := HA.out.add; omega) hszw HDr.out)
        rw [HSt.out.1] at K11
        have HSy := Lib.hid (says_add HA.out.ok HSt.out.1 HS.out)
        have HLn : Hid ((addS s key).rs.length = s.rs.length + 1) := Lib.hid (by rw [addS_of HSt.out.1]; exact insR_len s key)
        refine start_ (n := 8) (S := fun w' => BM w' mb gm s.rs.length) (ds := []) #[false, false, false, false, false, false, false, false] (by kernel_rfl) rfl rfl (HMd.out) (fun hHeld => ?_)
        refine with_tabW swT.tab13 swT.bits13 (fun HT_ HW_ => ?_)
        refine pure_ (i := 0) (N := some 51) (v := ?_) (a' := ?_) #[true, false, false, false, false, false, false, false] rfl rfl (any_of HT_.out (by kernel_rfl)) (fun _ _ _ h => h) (Or.inl ⟨by rfl, ?_⟩) ?_ ?_
        rotate_left
        · intro w'
          go_simp
          with_reducible rfl
        rotate_left
        · simp only [Act.put, List.setIfInBounds_toArray, List.set_cons_zero, List.set_cons_succ, i64_w, i32_w]
          rfl
        refine pure_ (i := 1) (N := some 52) (v := ?_) (a' := ?_) #[true, true, false, false, false, false, false, false] rfl rfl (any_of HT_.out (by kernel_rfl)) (fun _ _ _ h => h) (Or.inl ⟨by rfl, ?_⟩) ?_ ?_
        rotate_left
        · intro w'
          go_simp
          with_reducible rfl
        rotate_left
        · simp only [Act.put, List.setIfInBounds_toArray, List.set_cons_zero, List.set_cons_succ, i64_w, i32_w]
          rfl
        refine pure_ (i := 4) (N := some 55) (v := ?_) (a' := ?_) #[true, true, false, false, true, false, false, false] rfl rfl (any_of HT_.out (by kernel_rfl)) (fun _ _ _ h => h) (Or.inl ⟨by rfl, ?_⟩) ?_ ?_
        rotate_left
        · intro w'
          go_simp
          with_reducible rfl
        rotate_left
        · simp only [Act.put, List.setIfInBounds_toArray, List.set_cons_zero, List.set_cons_succ, i64_w, i32_w]
          rfl
        refine pure_ (i := 5) (N := some 56) (v := ?_) (a' := ?_) #[true, true, false, false, true, true, false, false] rfl rfl (any_of HT_.out (by kernel_rfl)) (fun _ _ _ h => h) (Or.inl ⟨by rfl, ?_⟩) ?_ ?_
        rotate_left
        · intro w'
          go_simp
          with_reducible rfl
        rotate_left
        · simp only [Act.put, List.setIfInBounds_toArray, List.set_cons_zero, List.set_cons_succ, i64_w, i32_w]
          rfl
        refine take_ (i := 6) (N := some 57) (v := ?_) (a' := ?_) #[true, true, false, false, true, true, true, false] rfl rfl (take_ofW HT_.out HW_.out (by kernel_rfl)) (fun _ _ _ h => h) (Or.inl ⟨by rfl, ?_⟩) hHeld ?_ ?_
        rotate_left
        · rintro w' hS
          have hl := BM.look hS key hwf
          rw [hgm] at hl
          go_simp
          with_reducible rfl
        rotate_left
        · simp only [Act.put, List.setIfInBounds_toArray, List.set_cons_zero, List.set_cons_succ, i64_w, i32_w]
          rfl
        refine one_ (i := 2) (N := some 53) #[true, true, true, false, true, true, true, false] rfl rfl (one_of HT_.out (by kernel_rfl)) (by decide) (fun K hK => ?_)
        refine goes_ Try.func11 (by kernel_rfl) rfl #[.pointer (some ⟨g, 0, none⟩), .int .i64 key] (by rfl) rfl rfl (by simp only [List.map_toArray, List.map_cons, List.map_nil]; rfl) ?_
        refine (K11.out).mono ?_
        rintro e wa ⟨v3, rfl, h3, hk3⟩
        have H3 := Lib.hid h3
        have HM5 : Hid (BM wa mb gm s.rs.length) := Lib.hid (BM.kp HMd.out hk3 HMb.out.1)
        have HB5 := Lib.hid (Kp.below' (base := w.heap.size) (HBw.out.trans (Bel.drew wi)) hk3 HMb.out.2.2)
        clear h3 hk3
        refine ⟨_, rfl, ?_⟩
        refine hK.out _ _ (HM5.out) (fun hHeld => ?_)
        clear hK K
        refine norm_ (a' := ?_) ?_ ?_
        rotate_left
        · show Act.put _ (some 53) _ = _
          simp only [Act.put, List.setIfInBounds_toArray, List.set_cons_zero, List.set_cons_succ, i64_w, i32_w]
          rfl
        refine pure_ (i := 3) (N := some 54) (v := ?_) (a' := ?_) #[true, true, true, true, true, true, true, false] rfl rfl (any_of HT_.out (by kernel_rfl)) (fun _ _ _ h => h) (Or.inl ⟨by rfl, ?_⟩) ?_ ?_
        rotate_left
        · intro w'
          go_simp
          with_reducible rfl
        rotate_left
        · simp only [Act.put, List.setIfInBounds_toArray, List.set_cons_zero, List.set_cons_succ, i64_w, i32_w]
          rfl
        refine pure_ (i := 7) (N := some 58) (v := ?_) (a' := ?_) #[true, true, true, true, true, true, true, true] rfl rfl (any_of HT_.out (by kernel_rfl)) (fun _ _ _ h => h) (Or.inl ⟨by rfl, ?_⟩) ?_ ?_
        rotate_left
        · intro w'
          go_simp
          with_reducible rfl
        rotate_left
        · simp only [Act.put, List.setIfInBounds_toArray, List.set_cons_zero, List.set_cons_succ, i64_w, i32_w]
          rfl
        refine done_ (done_of HT_.out (by kernel_rfl)) ?_
        have hszl : s.rs.length < maxLen := by have : maxLen = 9223372036854775807 := rfl; omega
        go_wp2_with (at_mapUpdate; refine wpList_mapUpdate_T rfl _ _ _ rfl keyed3 Try.underlying36 HM5.out hszl hinj rfl key rfl true rfl (.int .i64 key) hwf (Maps.keyOf_int_mk Try.underlying3 hwf) (.lit (.bool true)) (plainElem_bool Try.underlying4 true) ?_; intro w7 hP7 hg7; have G7 := Lib.hid hg7; have P7 := Lib.hid hP7; clear hg7 hP7)
        have hfin : Hid (∃ v s gm, IsL w7 w.heap.size g v s ∧ A1 s first (k + 1) ∧ Says s gm ∧ BM w7 mb gm s.rs.length ∧ Bel w w7) := Lib.hid ⟨v3, addS s key, _, H3.out.map HM5.out G7.out, HSt.out.2, HSy.out, by rw [HLn.out]; have := P7.out; rw [hgs] at this; exact this, bel_map HB5.out G7.out HMb.out.2.1⟩
        clear G7 P7 H3 HM5 HB5 HSy HLn K11
        go_wp2_with fail
        exact ⟨⟨k + 1, by congr 1, by omega, hfin⟩, by simp [intOf]; omega⟩
      · have hgm : (gm key).getD false = true := by rw [HS.out key, hh]; simp
        have hgs : (gm key).isSome = true := by rw [HS.out key, hh]; simp
        have HSt := Lib.hid (HST.out.2 hh)
        have K11 := Lib.hid (KA.out wi.drew g v s key HA.out.ok (by have := HA.out.add; omega) hszw HDr.out)
        rw [HSt.out.1, HSt.out.2.1] at K11
        have HSy := Lib.hid (says_again hh HS.out)
        refine start_ (n := 8) (S := fun w' => BM w' mb gm s.rs.length) (ds := []) #[false, false, false, false, false, false, false, false] (by kernel_rfl) rfl rfl (HMd.out) (fun hHeld => ?_)
        refine with_tabW swT.tab13 swT.bits13 (fun HT_ HW_ => ?_)
        refine pure_ (i := 0) (N := some 51) (v := ?_) (a' := ?_) #[true, false, false, false, false, false, false, false] rfl rfl (any_of HT_.out (by kernel_rfl)) (fun _ _ _ h => h) (Or.inl ⟨by rfl, ?_⟩) ?_ ?_
        rotate_left
        · intro w'
          go_simp
          with_reducible rfl
        rotate_left
        · simp only [Act.put, List.setIfInBounds_toArray, List.set_cons_zero, List.set_cons_succ, i64_w, i32_w]
          rfl
        refine pure_ (i := 1) (N := some 52) (v := ?_) (a' := ?_) #[true, true, false, false, false, false, false, false] rfl rfl (any_of HT_.out (by kernel_rfl)) (fun _ _ _ h => h) (Or.inl ⟨by rfl, ?_⟩) ?_ ?_
        rotate_left
        · intro w'
          go_simp
          with_reducible rfl
        rotate_left
        · simp only [Act.put, List.setIfInBounds_toArray, List.set_cons_zero, List.set_cons_succ, i64_w, i32_w]
          rfl
        refine pure_ (i := 4) (N := some 55) (v := ?_) (a' := ?_) #[true, true, false, false, true, false, false, false] rfl rfl (any_of HT_.out (by kernel_rfl)) (fun _ _ _ h => h) (Or.inl ⟨by rfl, ?_⟩) ?_ ?_
        rotate_left
        · intro w'
          go_simp
          with_reducible rfl
        rotate_left
        · simp only [Act.put, List.setIfInBounds_toArray, List.set_cons_zero, List.set_cons_succ, i64_w, i32_w]
          rfl
        refine pure_ (i := 5) (N := some 56) (v := ?_) (a' := ?_) #[true, true, false, false, true, true, false, false] rfl rfl (any_of HT_.out (by kernel_rfl)) (fun _ _ _ h => h) (Or.inl ⟨by rfl, ?_⟩) ?_ ?_
        rotate_left
        · intro w'
          go_simp
          with_reducible rfl
        rotate_left
        · simp only [Act.put, List.setIfInBounds_toArray, List.set_cons_zero, List.set_cons_succ, i64_w, i32_w]
          rfl
        refine take_ (i := 6) (N := some 57) (v := ?_) (a' := ?_) #[true, true, false, false, true, true, true, false] rfl rfl (take_ofW HT_.out HW_.out (by kernel_rfl)) (fun _ _ _ h => h) (Or.inl ⟨by rfl, ?_⟩) hHeld ?_ ?_
        rotate_left
        · rintro w' hS
          have hl := BM.look hS key hwf
          rw [hgm] at hl
          go_simp
          with_reducible rfl
        rotate_left
        · simp only [Act.put, List.setIfInBounds_toArray, List.set_cons_zero, List.set_cons_succ, i64_w, i32_w]
          rfl
        refine one_ (i := 2) (N := some 53) #[true, true, true, false, true, true, true, false] rfl rfl (one_of HT_.out (by kernel_rfl)) (by decide) (fun K hK => ?_)
        refine goes_ Try.func11 (by kernel_rfl) rfl #[.pointer (some ⟨g, 0, none⟩), .int .i64 key] (by rfl) rfl rfl (by simp only [List.map_toArray, List.map_cons, List.map_nil]; rfl) ?_
        refine (K11.out).mono ?_
        rintro e wa ⟨v3, rfl, h3, hk3⟩
        have H3 := Lib.hid h3
        have HM5 : Hid (BM wa mb gm s.rs.length) := Lib.hid (BM.kp HMd.out hk3 HMb.out.1)
        have HB5 := Lib.hid (Kp.below' (base := w.heap.size) (HBw.out.trans (Bel.drew wi)) hk3 HMb.out.2.2)
        clear h3 hk3
        refine ⟨_, rfl, ?_⟩
        refine hK.out _ _ (HM5.out) (fun hHeld => ?_)
        clear hK K
        refine norm_ (a' := ?_) ?_ ?_
        rotate_left
        · show Act.put _ (some 53) _ = _
          simp only [Act.put, List.setIfInBounds_toArray, List.set_cons_zero, List.set_cons_succ, i64_w, i32_w]
          rfl
        refine pure_ (i := 3) (N := some 54) (v := ?_) (a' := ?_) #[true, true, true, true, true, true, true, false] rfl rfl (any_of HT_.out (by kernel_rfl)) (fun _ _ _ h => h) (Or.inl ⟨by rfl, ?_⟩) ?_ ?_
        rotate_left
        · intro w'
          go_simp
          with_reducible rfl
        rotate_left
        · simp only [Act.put, List.setIfInBounds_toArray, List.set_cons_zero, List.set_cons_succ, i64_w, i32_w]
          rfl
        refine pure_ (i := 7) (N := some 58) (v := ?_) (a' := ?_) #[true, true, true, true, true, true, true, true] rfl rfl (any_of HT_.out (by kernel_rfl)) (fun _ _ _ h => h) (Or.inl ⟨by rfl, ?_⟩) ?_ ?_
        rotate_left
        · intro w'
          go_simp
          with_reducible rfl
        rotate_left
        · simp only [Act.put, List.setIfInBounds_toArray, List.set_cons_zero, List.set_cons_succ, i64_w, i32_w]
          rfl
        refine done_ (done_of HT_.out (by kernel_rfl)) ?_
        have hszl : s.rs.length < maxLen := by have : maxLen = 9223372036854775807 := rfl; omega
        go_wp2_with (at_mapUpdate; refine wpList_mapUpdate_T rfl _ _ _ rfl keyed3 Try.underlying36 HM5.out hszl hinj rfl key rfl true rfl (.int .i64 key) hwf (Maps.keyOf_int_mk Try.underlying3 hwf) (.lit (.bool true)) (plainElem_bool Try.underlying4 true) ?_; intro w7 hP7 hg7; have G7 := Lib.hid hg7; have P7 := Lib.hid hP7; clear hg7 hP7)
        have hfin : Hid (∃ v s gm, IsL w7 w.heap.size g v s ∧ A1 s first (k + 1) ∧ Says s gm ∧ BM w7 mb gm s.rs.length ∧ Bel w w7) := Lib.hid ⟨v3, s, _, H3.out.map HM5.out G7.out, HSt.out.2.2, HSy.out, by have := P7.out; rw [hgs] at this; exact this, bel_map HB5.out G7.out HMb.out.2.1⟩
        clear G7 P7 H3 HM5 HB5 HSy K11
        go_wp2_with fail
        exact ⟨⟨k + 1, by congr 1, by omega, hfin⟩, by simp [intOf]; omega⟩
    · have hkq : k = q := by omega
      subst hkq
      have hml := fun ty => TMap.len HM.out Try.underlying36 ty
      have hN : s.rs.length ≤ 200 := by have := HA.out.len; omega
      have HX : Hid (∃ v s' gm, IsL wi w.heap.size g v s' ∧ SW s' first first false 0 ∧ Says s' gm ∧ BM wi mb gm s'.rs.length ∧ s'.rs.length + 0 = s.rs.length ∧ Bel w wi) := Lib.hid ⟨v, s, gm, H1.out, ⟨HA.out.ok, HA.out.age, HA.out.head, HA.out.wt, fun _ => ⟨Int.le_refl _, fun x _ => by omega⟩, fun h => by simp at h⟩, HS.out, HM.out, rfl, HBw.out⟩
      clear H1 HA HS HM HBw
      generalize s.rs.length = N at *
      go_wp2_with fail
      go_loopw [11, 12, 65] (fun v11 v12 v65 wr => ∃ (j : Nat) (last : Int) (turned : Bool), v65 = .int .i64 j ∧ j ≤ N ∧ v11 = .int .i64 last ∧ v12 = .bool turned ∧ Hid (∃ v s gm, IsL wr w.heap.size g v s ∧ SW s first last turned j ∧ Says s gm ∧ BM wr mb gm s.rs.length ∧ s.rs.length + j = N ∧ Bel w wr)) (fun _ _ v65 _ => N - (intOf v65).toNat)
      case atStart => exact ⟨0, first, false, rfl, by omega, rfl, rfl, HX⟩
      case round =>
        obtain ⟨wj, rfl⟩ : ∃ wj : World, wj = wr := ⟨_, rfl⟩
        obtain ⟨j, last, turned, rfl, hj, rfl, rfl, HI⟩ := hrel
        obtain ⟨v, s, gm, h1, ha, hs, hmp, hnj, hbw⟩ := HI.out
        have H1 := Lib.hid h1
        have HA := Lib.hid ha
        have HS := Lib.hid hs
        have HM := Lib.hid hmp
        have HBw := Lib.hid hbw
        clear h1 ha hs hmp hbw HI HX hml
        by_cases hlt : j < N
        · have h0 : 0 < s.rs.length := by omega
          have HST := Lib.hid (sw_step HA.out (by omega) h0)
          have HLn := Lib.hid (pick_len HA.out.ok)
          have HSy := Lib.hid (says_pick HA.out.ok h0 HS.out)
          have hkey : 0 ≤ pickK s ∧ pickK s < 1099511627776 := by
            obtain ⟨x, hx, e⟩ := pickK_mem HA.out.ok h0
            rw [← e]; exact HA.out.ok.key x hx
          have hwf := wf_small hkey.1 (by omega)
          have hgm : (gm (pickK s)).getD false = true := by rw [HS.out, HST.out.2.1]; simp
          have hgs : (gm (pickK s)).isSome = true := by rw [HS.out, HST.out.2.1]; simp
          have hinj : ∀ x y : Int, Value.int .i64 x = Value.int .i64 y → x = y := fun x y h => by simpa using h
          have hlt' : decide ((j : Int) < (N : Int)) = true := by simp; omega
          go_wp2_with fail
          refine (KP.out _ g v s HA.out.ok (fun x hx => by have := HA.out.wt x hx; omega) H1.out).mono ?_
          rintro e w6 ⟨v6, rfl, h6, hk6⟩
          rw [HST.out.1]
          have H6 := Lib.hid h6
          have HM6 : Hid (BM w6 mb gm s.rs.length) := Lib.hid (BM.kp HM.out hk6 HMb.out.1)
          have HB6 := Lib.hid (Kp.below' (base := w.heap.size) HBw.out hk6 HMb.out.2.2)
          have hlook := HM6.out.look (pickK s) hwf
          rw [hgm] at hlook
          have hs1 := HST.out.2.2.1
          have hs2 := HST.out.2.2.2.1
          have HW := Lib.hid HST.out.2.2.2.2
          clear h6 hk6 H1 HM HBw HST HS hkey
          generalize pickK s = pk at *
          obtain ⟨w7, hdr, hP7, hg7⟩ := TMap.drop HM6.out keyed3 Try.underlying36 hinj hwf (Maps.keyOf_int_mk Try.underlying3 hwf) 0
          have G7 := Lib.hid hg7
          have P7 := Lib.hid hP7
          clear hg7 hP7
          by_cases hkl : pk ≤ last
          · have htf := hs1 hkl
            subst htf
            have d1 : decide (pk ≤ last) = true := by simpa using hkl
            have hfi := hs2 (by rw [d1]; rfl)
            have d2 : decide (first < pk) = false := by simp; omega
            have d3 : decide (pk > first) = false := by simp; omega
            have d4 : ¬ (first < pk) := by omega
            have HW2 : Hid (SW (pickS s) first pk true (j + 1)) := Lib.hid (by have := HW.out; rw [d1] at this; exact this)
            clear HW hs1 hs2
            have hfin : Hid (∃ v s gm, IsL w7 w.heap.size g v s ∧ SW s first pk true (j + 1) ∧ Says s gm ∧ BM w7 mb gm s.rs.length ∧ s.rs.length + (j + 1) = N ∧ Bel w w7) := Lib.hid ⟨v6, pickS s, _, H6.out.map HM6.out G7.out.grown, HW2.out, HSy.out, by rw [HLn.out]; have := P7.out; rw [hgs] at this; exact this, by rw [HLn.out]; omega, bel_map HB6.out G7.out.grown HMb.out.2.1⟩
            clear G7 P7 H6 HM6 HB6 HSy HLn
            go_wp2_with fail
            exact ⟨⟨j + 1, pk, true, by congr 1, by omega, rfl, rfl, hfin⟩, by simp [intOf]; omega⟩
          · have d1 : decide (pk ≤ last) = false := by simpa using hkl
            have d5 : ¬ (pk ≤ last) := hkl
            have HW2 : Hid (SW (pickS s) first pk turned (j + 1)) := Lib.hid (by have := HW.out; rw [d1, Bool.or_false] at this; exact this)
            cases turned
            · clear HW hs1 hs2
              have hfin : Hid (∃ v s gm, IsL w7 w.heap.size g v s ∧ SW s first pk false (j + 1) ∧ Says s gm ∧ BM w7 mb gm s.rs.length ∧ s.rs.length + (j + 1) = N ∧ Bel w w7) := Lib.hid ⟨v6, pickS s, _, H6.out.map HM6.out G7.out.grown, HW2.out, HSy.out, by rw [HLn.out]; have := P7.out; rw [hgs] at this; exact this, by rw [HLn.out]; omega, bel_map HB6.out G7.out.grown HMb.out.2.1⟩
              clear G7 P7 H6 HM6 HB6 HSy HLn
              go_wp2_with fail
              exact ⟨⟨j + 1, pk, false, by congr 1, by omega, rfl, rfl, hfin⟩, by simp [intOf]; omega⟩
            · have hfi := hs2 (by simp)
              have d2 : decide (first < pk) = false := by simp; omega
              have d3 : decide (pk > first) = false := by simp; omega
              have d4 : ¬ (first < pk) := by omega
              clear HW hs1 hs2
              have hfin : Hid (∃ v s gm, IsL w7 w.heap.size g v s ∧ SW s first pk true (j + 1) ∧ Says s gm ∧ BM w7 mb gm s.rs.length ∧ s.rs.length + (j + 1) = N ∧ Bel w w7) := Lib.hid ⟨v6, pickS s, _, H6.out.map HM6.out G7.out.grown, HW2.out, HSy.out, by rw [HLn.out]; have := P7.out; rw [hgs] at this; exact this, by rw [HLn.out]; omega, bel_map HB6.out G7.out.grown HMb.out.2.1⟩
              clear G7 P7 H6 HM6 HB6 HSy HLn
              go_wp2_with fail
              exact ⟨⟨j + 1, pk, true, by congr 1, by omega, rfl, rfl, hfin⟩, by simp [intOf]; omega⟩
        · have hjN : j = N := by omega
          subst hjN
          have hl0 : s.rs.length = 0 := by omega
          have hml := fun ty => TMap.len HM.out Try.underlying36 ty
          have KL0 : Hid (∀ w1, IsL w1 w.heap.size g v s → Calls Try.prog 10 #[PT g] w1 fun e w' => e = .returned (.int .i64 0) ∧ Bel w1 w') := Lib.hid (fun w1 h => by
            have := KL.out w1 g v s h
            rw [hl0] at this
            exact this)
          rw [hl0] at hml
          go_wp2_with fail
          refine (KL0.out _ H1.out).mono ?_
          rintro e w8 ⟨rfl, hb8⟩
          have hfin := HBw.out.trans hb8
          clear hb8 H1 HM HBw hml
          go_wp2_with fail
          go_ret
          exact ⟨rfl, hfin⟩
end Go.Proofs.Ythhigmkheccfpaa
