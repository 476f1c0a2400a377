/- GeomRounds, the walk. -/
import Derived.Test.YtgjalgmnkadbaaaCols
import Derived.Test.YtgjalgmnkadbaaaWakes
import Derived.Test.YtgjalgmnkadbaaaTMap
import Derived.OpenShut
import Derived.Carry
import Derived.Lib.MinMax
import Derived.Outline
import Derived.Deep.RegionHeld3
set_option linter.unusedVariables false
set_option linter.unusedSimpArgs false
namespace Go.Proofs.Ytgjalgmnkadbaaa
open Go.RowKit Go.Proofs.YtgjalgmnkadbaaaW.PrintWords Go.Proofs.YtgjalgmnkadbaaaW.PrintMore
theorem wp_gen {P : Program} {c : Code} {Q : Exit → Act → World → Prop} {a : Act} {w : World} (Φ : World → Prop) (hΦ : Φ w) (h : ∀ W, Φ W → c.wp P Q a W) : c.wp P Q a w := h w hΦ
theorem calls_gen {P : Program} {f : FuncId} {args : Array Value} {R : Ending → World → Prop} {w : World} (Φ : World → Prop) (hΦ : Φ w) (h : ∀ W, Φ W → Calls P f args W R) : Calls P f args w R := h w hΦ
theorem wpl_gen {P : Program} {ops : Array Oper} {Q : Exit → Act → World → Prop} {l : List Oper} {a : Act} {w : World} (Φ : World → Prop) (hΦ : Φ w) (h : ∀ W, Φ W → wpList P ops Q l a W) : wpList P ops Q l a w := h w hΦ
def gMo (m : Int) : Int := 4 + (mx 0 m) % 29
def gSo (s : Int) : Int := 1 + (mx 0 s) % 64
theorem goodGBo (m s : Int) (w : World) : Calls Try.prog 9 #[.agg #[.int .i64 m, .int .i64 s]] w fun e w' => e = .returned (.agg #[.int .i64 (gMo m), .int .i64 (gSo s)]) ∧ Bel w w' :=
  PGeomRows.trunnionlaw09_good.calls m s _ _ w rfl
theorem gMo_bd (m : Int) : 4 ≤ gMo m ∧ gMo m ≤ 32 := by unfold gMo; have := Int.emod_nonneg (mx 0 m) (show (29 : Int) ≠ 0 by omega); have := Int.emod_lt_of_pos (mx 0 m) (show (0 : Int) < 29 by omega); omega
theorem gSo_bd (m : Int) : 1 ≤ gSo m ∧ gSo m ≤ 64 := by unfold gSo; have := Int.emod_nonneg (mx 0 m) (show (64 : Int) ≠ 0 by omega); have := Int.emod_lt_of_pos (mx 0 m) (show (0 : Int) < 64 by omega); omega
/-- A block whose cells are known, now and later. -/
def Keeps (W : World) (g : Nat) (cs : List Value) : Prop := ∀ wx, Bel W wx → ∀ i v, cs[i]? = some v → wx.cell? ⟨g, i, none⟩ = some v
abbrev BM (w : World) (b : Nat) (g : Int → Option Bool) (n : Nat) : Prop := TMap Try.prog 3 4 (fun x : Int => Value.int .i64 x) (fun x => (Lit.int .i64 x).wf = true) (fun b : Bool => Value.bool b) w b g n
theorem keyed3 : Maps.Keyed Try.prog 3 := Maps.int_keyed Try.underlying3
theorem zero4 (w : World) : (zeroValue 4).run Try.prog w = .ok (.bool false) w := by kernel_rfl
theorem BM.look {w : World} {b n : Nat} {g : Int → Option Bool} (h : BM w b g n) (x : Int) (hx : (Lit.int .i64 x).wf = true) : (Instr.lookup 27 (.map (some b)) (.int .i64 x) false).run Try.prog w = .ok (.bool ((g x).getD false)) w :=
  TMap.lookup (a0 := false) h keyed3 Try.underlying27 (zero4 w) (plainElem_bool Try.underlying4 false) hx (Maps.keyOf_int_mk Try.underlying3 hx)
open Classical in
/-- The keys are h i, f ≤ i < t; each is true. -/
noncomputable def gK (h : Int → Int) (f t : Int) : Int → Option Bool := fun x => if ∃ i, f ≤ i ∧ i < t ∧ h i = x then some true else none
theorem gK_none {h : Int → Int} {f t x : Int} (hx : ∀ i, f ≤ i → i < t → h i ≠ x) : gK h f t x = none := by
  unfold gK; rw [if_neg]; rintro ⟨i, a, b, c⟩; exact hx i a b c
theorem gK_succ (h : Int → Int) {f t : Int} (ht : f ≤ t) : (fun y => if y = h t then some true else gK h f t y) = gK h f (t + 1) := by
  funext y
  unfold gK
  by_cases hy : y = h t
  · rw [if_pos hy, if_pos ⟨t, ht, by omega, hy.symm⟩]
  · rw [if_neg hy]
    by_cases he : ∃ i, f ≤ i ∧ i < t ∧ h i = y
    · obtain ⟨i, a, b, c⟩ := he
      rw [if_pos ⟨i, a, b, c⟩, if_pos ⟨i, a, by omega, c⟩]
    · rw [if_neg he, if_neg]
      rintro ⟨i, a, b, c⟩
      by_cases hi : i = t
      · exact hy (by rw [← c, hi])
      · exact he ⟨i, a, by omega, c⟩
theorem gK_empty (h : Int → Int) (f : Int) : gK h f f = fun _ => none := by
  funext x; exact gK_none (fun i a b => by omega)
theorem data_ok (m s : Int) (h1 : 4 ≤ m) (h2 : m ≤ 32) (h3 : 1 ≤ s) (h4 : s ≤ 64) (w : World) : Calls Try.prog 12 #[.agg #[.int .i64 m, .int .i64 s]] w fun e w' => e = .returned (.int .i64 (m - 2)) ∧ Bel w w' := by
  have hg : gd m s = true := (gd_iff m s).2 ⟨h1, h2, h3, h4⟩
  have h := dataB m s w
  rwa [show dat m s = m - 2 by unfold dat; rw [if_pos hg]] at h
theorem mem_ok (m s t c : Int) (h1 : 4 ≤ m) (h2 : m ≤ 32) (h3 : 1 ≤ s) (h4 : s ≤ 64) (a : 0 ≤ t) (b : t < s) (c0 : 0 ≤ c) (c1 : c < m) (w : World) : Calls Try.prog 11 #[.agg #[.int .i64 m, .int .i64 s], .int .i64 t, .int .i64 c] w fun e w' => e = .returned (.tuple #[.int .i64 (mem1 m t c), .int .i64 0]) ∧ Bel w w' :=
  member_ok m s t c w ((gd_iff m s).2 ⟨h1, h2, h3, h4⟩) a b c0 c1
def hP (M t : Int) : Int := mem1 M t (M - 2)
def hQ (M t : Int) : Int := mem1 M t (M - 1)
theorem hP_val (M t : Int) (hM : 4 ≤ M) : hP M t = pP M t := by
  have hp := p_bd M t (by omega)
  unfold hP mem1 tuR
  rw [show M - 2 + 2 = M by omega, Int.emod_self, Int.add_zero, Int.emod_eq_of_lt hp.1 hp.2]
theorem memPQ (M t : Int) (hM : 4 ≤ M) : mem1 M t (M - 1) = (mem1 M t (M - 2) + 1) % M := by
  have h := hP_val M t hM
  unfold hP at h
  rw [h]
  unfold mem1 tuR
  rw [show M - 1 + 2 = 1 + M by omega, Int.add_emod_right, Int.emod_eq_of_lt (a := 1) (by omega) (by omega)]
theorem mod_ne (M i t : Int) (hM : 0 < M) (h1 : i < t) (h2 : t < i + M) : i % M ≠ t % M := by
  intro h
  have h3 : (t - i) % M = 0 := by rw [Int.sub_emod, h, Int.sub_self, Int.zero_emod]
  rw [Int.emod_eq_of_lt (by omega) (by omega)] at h3
  omega
theorem hP_ne (M i t : Int) (hM : 4 ≤ M) (h0 : t < i + M) (h1 : i < t) (_h2 : True) : hP M i ≠ mem1 M t (M - 2) := by
  intro h
  have h3 : hP M i = hP M t := h
  rw [hP_val M i hM, hP_val M t hM] at h3
  unfold pP at h3
  exact mod_ne M i t (by omega) h1 h0 (by omega)
theorem hQ_ne (M i t : Int) (hM : 4 ≤ M) (h0 : t < i + M) (h1 : i < t) (_h2 : True) : hQ M i ≠ mem1 M t (M - 1) := by
  intro h
  unfold hQ at h
  rw [memPQ M i hM, memPQ M t hM] at h
  have a := hP_val M i hM
  have b := hP_val M t hM
  unfold hP at a b
  rw [a, b] at h
  have p1 := p_bd M i (by omega)
  have p2 := p_bd M t (by omega)
  have h4 : pP M i = pP M t := by
    have e1 := md (pP M i + 1) M (by omega) (by omega)
    have e2 := md (pP M t + 1) M (by omega) (by omega)
    rw [e1, e2] at h
    split at h <;> split at h <;> omega
  unfold pP at h4
  exact mod_ne M i t (by omega) h1 h0 (by omega)
set_option maxHeartbeats 4000000 in
set_option maxRecDepth 100000 in
theorem rounds_calls (m s f : Int) (w : World) : Calls Try.prog 3 #[.agg #[.int .i64 m, .int .i64 s], .int .i64 f] w fun e w' => e = .returned (.bool true) ∧ Bel w w' := by
  have K1 := Lib.hid (goodGBo m s)
  have K2 := Lib.hid memberB
  have K3 := Lib.hid wakesB
  have K4 := Lib.hid dataB
  have hM := gMo_bd m
  have hS := gSo_bd s
  go_enter Try.func3, Try.ntmps3
  go_wp2_with fail
  refine (K1.out _).mono ?_
  rintro e w1 ⟨rfl, hb1⟩
  generalize gMo m = M at *
  generalize gSo s = S at *
  by_cases hlt : S < M
  · have hlt' : decide (S < M) = true := by simpa using hlt
    go_wp2_with fail
    refine (K3.out _).mono ?_
    rintro e w2 ⟨rfl, hb2⟩
    go_wp2_with fail
    go_ret
    exact ⟨rfl, (((Bel.alloc _ _).trans hb1).trans (Bel.alloc _ _)).trans hb2⟩
  · have hlt' : decide (S < M) = false := by simpa using hlt
    have hmm := @run_makeMap Try.prog
    have hw5 : ∀ wx, Bel (w1.alloc (Obj.cells #[Value.int IntKind.i64 M, Value.int IntKind.i64 S] 24)) wx → wx.cell? ⟨w1.heap.size, 0, none⟩ = some (.int .i64 M) ∧ wx.cell? ⟨w1.heap.size, 1, none⟩ = some (.int .i64 S) := fun wx hx => ⟨cellB hx (by simp [go_sem]), cellB hx (by simp [go_sem])⟩
    have hw1 : w.heap.size + 1 ≤ w1.heap.size := by have := hb1.size; simpa using this
    go_wp2_with fail
    have hm0 : 0 ≤ max 0 f := by omega
    have hF0 := Int.emod_nonneg (max 0 f) (show S - M + 1 ≠ 0 by omega)
    have hF1 : max 0 f % (S - M + 1) ≤ S - M := by have := Int.emod_lt_of_pos (max 0 f) (show 0 < S - M + 1 by omega); omega
    generalize max 0 f % (S - M + 1) = F at *
    refine wp_gen (fun W => (Below w.heap.size w W ∧ (W.cell? ⟨w1.heap.size, 0, none⟩ = some (.int .i64 M) ∧ W.cell? ⟨w1.heap.size, 1, none⟩ = some (.int .i64 S))) ∧ BM W (w1.heap.size + 1) (fun _ => none) 0 ∧ BM W (w1.heap.size + 1 + 1) (fun _ => none) 0) ⟨⟨?_, ?_⟩, ?_, ?_⟩ ?_
    · exact ((((Bel.alloc _ _).trans hb1).trans (Bel.alloc _ _)).trans (Bel.alloc _ _)).trans (Bel.alloc _ _)
    · exact hw5 _ ((Bel.alloc _ _).trans (Bel.alloc _ _))
    · exact (TMap.made_at _ (by simp)).below (Bel.alloc _ _)
    · exact TMap.made_at _ (by simp)
    rintro W1 ⟨⟨hbw, hc0, hc1⟩, hp, hq⟩
    have HP := Lib.hid hp
    have HQ := Lib.hid hq
    clear hp hq hw5
    go_loopw [8] (fun v8 wr => ∃ (t : Int), v8 = .int .i64 t ∧ F ≤ t ∧ t ≤ F + M ∧ Hid (Below w.heap.size w wr ∧ wr.cell? ⟨w1.heap.size, 0, none⟩ = some (.int .i64 M) ∧ wr.cell? ⟨w1.heap.size, 1, none⟩ = some (.int .i64 S) ∧ BM wr (w1.heap.size + 1) (gK (hP M) F t) (t - F).toNat ∧ BM wr (w1.heap.size + 1 + 1) (gK (hQ M) F t) (t - F).toNat)) (fun v8 _ => (F + M - intOf v8).toNat)
    case atStart =>
      exact ⟨F, rfl, by omega, by omega, Lib.hid ⟨hbw, hc0, hc1, by rw [gK_empty, Int.sub_self]; exact HP.out, by rw [gK_empty, Int.sub_self]; exact HQ.out⟩⟩
    case round =>
      obtain ⟨wo, rfl⟩ : ∃ wo : World, wo = wr := ⟨_, rfl⟩
      obtain ⟨t, rfl, t0, t1, HR⟩ := hrel
      obtain ⟨r1, r2, r3, r4, r5⟩ := HR.out
      clear HR HP HQ hc0 hc1
      have HB := Lib.hid r1
      have HP := Lib.hid r4
      have HQ := Lib.hid r5
      clear r1 r4 r5
      by_cases hlt : t < F + M
      · have hD : ∀ wx, Calls Try.prog 12 #[.agg #[.int .i64 M, .int .i64 S]] wx fun e w' => e = .returned (.int .i64 (M - 2)) ∧ Bel wx w' := fun wx => data_ok M S hM.1 hM.2 hS.1 hS.2 wx
        have hMe : ∀ c, 0 ≤ c → c < M → ∀ wx, Calls Try.prog 11 #[.agg #[.int .i64 M, .int .i64 S], .int .i64 t, .int .i64 c] wx fun e w' => e = .returned (.tuple #[.int .i64 (mem1 M t c), .int .i64 0]) ∧ Bel wx w' := fun c a b wx => mem_ok M S t c hM.1 hM.2 hS.1 hS.2 (by omega) (by omega) a b wx
        have HD := Lib.hid hD
        have HM := Lib.hid hMe
        clear hD hMe
        have q0 : ∀ wx, Bel wo wx → wx.cell? ⟨w1.heap.size, 0, none⟩ = some (.int .i64 M) := fun wx hx => cellB hx r2
        have q1 : ∀ wx, Bel wo wx → wx.cell? ⟨w1.heap.size, 1, none⟩ = some (.int .i64 S) := fun wx hx => cellB hx r3
        go_wp2_with fail
        go_region_held3 (fun w' => Bel wo w') (first | assumption | exact Bel.drew _ | exact Bel.trans (by assumption) (Bel.drew _) | exact Bel.trans (by assumption) (by assumption) | exact Bel.trans (by assumption) (Bel.alloc _ _)) ((first | (go_at_call 12; refine (HD.out _).mono ?_; rintro e wa ⟨rfl, hba⟩) | (go_at_call 11; refine (HM.out _ (by omega) (by omega) _).mono ?_; rintro e wa ⟨rfl, hba⟩)))
        go_wp2_with fail
        have e1 : IntKind.i64.wrap (M - 2 + 1) = M - 1 := (IntWalk.i64_in _ (by omega)).trans (by omega)
        go_region_held3 (fun w' => Bel wo w') (first | assumption | exact Bel.drew _ | exact Bel.trans (by assumption) (Bel.drew _) | exact Bel.trans (by assumption) (by assumption) | exact Bel.trans (by assumption) (Bel.alloc _ _)) ((first | (go_at_call 12; refine (HD.out _).mono ?_; rintro e wa ⟨rfl, hba⟩) | (go_at_call 11; refine (HM.out _ (by omega) (by omega) _).mono ?_; rintro e wa ⟨rfl, hba⟩)))
        clear q0 q1 e1
        have hbq : ∃ wb, Bel wo wb ∧ True := ⟨_, Bel.refl _, trivial⟩
        clear hbq
        have hA : hP M t = mem1 M t (M - 2) := rfl
        have hB : hQ M t = mem1 M t (M - 1) := rfl
        have bA := mem1_bd M t (M - 2) (by omega)
        have bB := mem1_bd M t (M - 1) (by omega)
        have hAB : mem1 M t (M - 1) = (mem1 M t (M - 2) + 1) % M := memPQ M t hM.1
        have hne : (mem1 M t (M - 1) != (mem1 M t (M - 2) + 1) % M) = false := by rw [hAB]; simp
        have wfA : (Lit.int .i64 (mem1 M t (M - 2))).wf = true := WalkArith.wf_i64 (by omega)
        have wfB : (Lit.int .i64 (mem1 M t (M - 1))).wf = true := WalkArith.wf_i64 (by omega)
        have gA : gK (hP M) F t (mem1 M t (M - 2)) = none := gK_none (fun i a b => hP_ne M i t hM.1 (by omega) b trivial)
        have gB : gK (hQ M) F t (mem1 M t (M - 1)) = none := gK_none (fun i a b => hQ_ne M i t hM.1 (by omega) b trivial)
        have l1 : ∀ wx, Bel wo wx → (Instr.lookup 27 (.map (some (w1.heap.size + 1))) (.int .i64 (mem1 M t (M - 2))) false).run Try.prog wx = .ok (.bool false) wx := fun wx hx => by
          have := BM.look (TMap.below HP.out hx) _ wfA
          rwa [gA] at this
        have l2 : ∀ wx, Bel wo wx → (Instr.lookup 27 (.map (some (w1.heap.size + 1 + 1))) (.int .i64 (mem1 M t (M - 1))) false).run Try.prog wx = .ok (.bool false) wx := fun wx hx => by
          have := BM.look (TMap.below HQ.out hx) _ wfB
          rwa [gB] at this
        have q0 : ∀ wx, Bel wo wx → wx.cell? ⟨w1.heap.size, 0, none⟩ = some (.int .i64 M) := fun wx hx => cellB hx r2
        have uA : (fun y => if y = mem1 M t (M - 2) then some true else gK (hP M) F t y) = gK (hP M) F (t + 1) := by have := gK_succ (hP M) t0; rwa [hA] at this
        have uB : (fun y => if y = mem1 M t (M - 1) then some true else gK (hQ M) F t y) = gK (hQ M) F (t + 1) := by have := gK_succ (hQ M) t0; rwa [hB] at this
        have HPx : ∀ wx, Bel wo wx → BM wx (w1.heap.size + 1) (gK (hP M) F t) (t - F).toNat := fun wx hx => TMap.below HP.out hx
        have HQx : ∀ wx, Bel wo wx → BM wx (w1.heap.size + 1 + 1) (gK (hQ M) F t) (t - F).toNat := fun wx hx => TMap.below HQ.out hx
        have hszP : (t - F).toNat < maxLen := by unfold maxLen; omega
        have hinj : ∀ x y : Int, Value.int .i64 x = Value.int .i64 y → x = y := fun x y h => by injection h
        have tokA : True := trivial
        generalize mem1 M t (M - 2) = A at *
        generalize mem1 M t (M - 1) = B at *
        have UA := Lib.hid uA
        have UB := Lib.hid uB
        have GA := Lib.hid gA
        have GB := Lib.hid gB
        have R2 := Lib.hid r2
        have R3 := Lib.hid r3
        clear hA hB hAB uA uB gA gB r2 r3
        go_wp2_with (first
          | (at_mapUpdate; have _t := tokA; refine wpList_mapUpdate_T rfl _ _ _ rfl keyed3 Try.underlying27 (HPx _ (by assumption)) (hszP) hinj rfl A rfl true rfl (.int .i64 A) wfA (Maps.keyOf_int_mk Try.underlying3 wfA) (.lit (.bool true)) (plainElem_bool Try.underlying4 true) ?_; intro w5 hP5 hg5; clear tokA; have q5 := Lib.hid (TMap.keep (HQx _ (by assumption)) (hg5.block (w1.heap.size + 1 + 1) (TMap.lt (HQx _ (by assumption))) (by simp))); have g5 := Lib.hid hg5; have p5 := Lib.hid hP5; clear hg5 hP5)
          | (at_mapUpdate; refine wpList_mapUpdate_T rfl _ _ _ rfl keyed3 Try.underlying27 q5.out (hszP) hinj rfl B rfl true rfl (.int .i64 B) wfB (Maps.keyOf_int_mk Try.underlying3 wfB) (.lit (.bool true)) (plainElem_bool Try.underlying4 true) ?_; intro w6 hP6 hg6; have g6 := Lib.hid hg6; have p6 := Lib.hid hP6; clear hg6 hP6))
        have hwa : Below w.heap.size w wa := Below.trans HB.out (Below.mono (by assumption : Bel wo wa) HB.out.size)
        have h5 : Below w.heap.size w w5 := pw_below_grown hwa _ hwa.size g5.out (by intro k hk; injection hk with hk; omega)
        have h6 : Below w.heap.size w w6 := pw_below_grown h5 _ h5.size g6.out (by intro k hk; injection hk with hk; omega)
        have z1 : w1.heap.size < wa.heap.size := by have := World.block_lt_of_cell? wa _ (q0 wa (by assumption)); simpa using this
        have z5 : w1.heap.size < w5.heap.size := by have := g5.out.size; omega
        have ca := q0 wa (by assumption)
        have cb := cellB (by assumption : Bel wo wa) R3.out
        have ec : ∀ o, w6.cell? ⟨w1.heap.size, o, none⟩ = wa.cell? ⟨w1.heap.size, o, none⟩ := fun o => (World.cell?_of_block (g6.out.block w1.heap.size z5 (by simp; omega))).trans (World.cell?_of_block (g5.out.block w1.heap.size z1 (by simp)))
        have e7 : (t + 1 - F).toNat = (t - F).toNat + 1 := by omega
        refine ⟨⟨t + 1, rfl, by omega, by omega, Lib.hid ⟨h6, by rw [ec]; exact ca, by rw [ec]; exact cb, ?_, ?_⟩⟩, by simp [intOf]; omega⟩
        · have := (TMap.keep p5.out (g6.out.block _ (TMap.lt p5.out) (by simp)))
          rw [GA.out] at this
          simp only [Option.isSome_none, Bool.false_eq_true, if_false] at this
          rw [← UA.out, e7]
          exact this
        · have := p6.out
          rw [GB.out] at this
          simp only [Option.isSome_none, Bool.false_eq_true, if_false] at this
          rw [← UB.out, e7]
          exact this
      · have et : t = F + M := by omega
        have hl1 : ∀ wx, Bel wo wx → ∀ ty, (Builtin.len_ #[27] ty #[.map (some (w1.heap.size + 1))]).run Try.prog wx = .ok (.int .i64 M) wx := fun wx hx ty => by
          rw [TMap.len (TMap.below HP.out hx) Try.underlying27 ty]; congr 2; omega
        have hl2 : ∀ wx, Bel wo wx → ∀ ty, (Builtin.len_ #[27] ty #[.map (some (w1.heap.size + 1 + 1))]).run Try.prog wx = .ok (.int .i64 M) wx := fun wx hx ty => by
          rw [TMap.len (TMap.below HQ.out hx) Try.underlying27 ty]; congr 2; omega
        have q0 : ∀ wx, Bel wo wx → wx.cell? ⟨w1.heap.size, 0, none⟩ = some (.int .i64 M) := fun wx hx => cellB hx r2
        clear et
        go_wp2_with fail
        refine (K3.out _).mono ?_
        rintro e w2 ⟨rfl, hb2⟩
        go_wp2_with fail
        go_ret
        exact ⟨rfl, Below.trans HB.out (Below.mono hb2 HB.out.size)⟩
theorem rounds_law (m s : Int) (f : Int) (hm : IntKind.has .i64 m) (hs : IntKind.has .i64 s) (hf : (Lit.int .i64 f).wf = true) (w : World) : Calls Try.prog 3 #[.agg #[.int .i64 m, .int .i64 s], .int .i64 f] w fun e w' => e = .returned (.bool true) ∧ Below w.heap.size w w' := rounds_calls m s f w
end Go.Proofs.Ytgjalgmnkadbaaa
