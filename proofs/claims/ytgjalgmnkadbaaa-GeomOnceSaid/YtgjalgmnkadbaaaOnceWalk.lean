/- GeomOnce, the walk. -/
import Derived.Test.YtgjalgmnkadbaaaCols
import Derived.Test.YtgjalgmnkadbaaaWakes
import Derived.Test.YtgjalgmnkadbaaaTMap
import Derived.OpenShut
import Derived.Carry
import Derived.Outline
import Derived.DeepKeys5
import Derived.Lib.MinMax
import Derived.Deep.RegionHeld3
set_option linter.unusedVariables false
set_option linter.unusedSimpArgs false
namespace Go.Proofs.Ytgjalgmnkadbaaa
open Go.RowKit Go.Proofs.YtgjalgmnkadbaaaW.PrintWords Go.Proofs.YtgjalgmnkadbaaaW.PrintMore
namespace Once
theorem wp_gen {P : Program} {c : Code} {Q : Exit → Act → World → Prop} {a : Act} {w : World} (Φ : World → Prop) (hΦ : Φ w) (h : ∀ W, Φ W → c.wp P Q a W) : c.wp P Q a w := h w hΦ
def gMo (m : Int) : Int := 4 + (mx 0 m) % 29
def gSo (s : Int) : Int := 1 + (mx 0 s) % 64
theorem goodGBo (m s : Int) (w : World) : Calls Try.prog 9 #[.agg #[.int .i64 m, .int .i64 s]] w fun e w' => e = .returned (.agg #[.int .i64 (gMo m), .int .i64 (gSo s)]) ∧ Bel w w' :=
  PGeomRows.trunnionlaw09_good.calls m s _ _ w rfl
theorem gMo_bd (m : Int) : 4 ≤ gMo m ∧ gMo m ≤ 32 := by unfold gMo; have := Int.emod_nonneg (mx 0 m) (show (29 : Int) ≠ 0 by omega); have := Int.emod_lt_of_pos (mx 0 m) (show (0 : Int) < 29 by omega); omega
theorem gSo_bd (m : Int) : 1 ≤ gSo m ∧ gSo m ≤ 64 := by unfold gSo; have := Int.emod_nonneg (mx 0 m) (show (64 : Int) ≠ 0 by omega); have := Int.emod_lt_of_pos (mx 0 m) (show (0 : Int) < 64 by omega); omega
abbrev BM (w : World) (b : Nat) (g : Int → Option Bool) (n : Nat) : Prop := TMap Try.prog 3 4 (fun x : Int => Value.int .i64 x) (fun x => (Lit.int .i64 x).wf = true) (fun b : Bool => Value.bool b) w b g n
abbrev PM (w : World) (b : Nat) (g : Int × Int → Option Bool) (n : Nat) : Prop := TMap Try.prog 37 4 (fun x : Int × Int => Value.agg #[.int .i64 x.1, .int .i64 x.2]) (fun x => (Lit.int .i64 x.1).wf = true ∧ (Lit.int .i64 x.2).wf = true) (fun b : Bool => Value.bool b) w b g n
theorem keyed3 : Maps.Keyed Try.prog 3 := Maps.int_keyed Try.underlying3
theorem laidOut : laidOutB Try.prog = true := by kernel_rfl
theorem keyed37 : Maps.Keyed Try.prog 37 := Maps.Keyed.of_law (deep_law_gate laidOut (of_decide_eq_true (by kernel_rfl)) (of_decide_eq_true (by kernel_rfl)) (by kernel_rfl) (by kernel_rfl))
theorem types1 : ∃ d, Try.prog.types.size = d + 1 := ⟨Try.prog.types.size - 1, by have h : 0 < Try.prog.types.size := of_decide_eq_true (by kernel_rfl); omega⟩
theorem kt37 : Try.prog.keyType 37 = true := by kernel_rfl
theorem cells37 : Try.prog.cellsOf 37 = 2 := by kernel_rfl
theorem cells3 : Try.prog.cellsOf 3 = 1 := by kernel_rfl
theorem keyOf_pair (a b : Int) (ha : (Lit.int .i64 a).wf = true) (hb : (Lit.int .i64 b).wf = true) : keyOf Try.prog 37 (.agg #[.int .i64 a, .int .i64 b]) = some (.string (keyBytes [.int .i64 a, .int .i64 b])) := by
  obtain ⟨d, hd⟩ := types1
  unfold keyOf
  simp only [Try.underlying37]
  have hf : Value.formed Try.prog 37 (.agg #[.int .i64 a, .int .i64 b]) = true := by simp [Value.formed, Try.underlying37, cells37]
  rw [if_pos (by rw [kt37, hf]; rfl), hd]
  simp only [Program.keyLits, Try.underlying37, Value.cells, cells37, cells3]
  simp [Program.keyLits, Try.underlying3, ha, hb, List.range, List.range.loop]
theorem zero4 (w : World) : (zeroValue 4).run Try.prog w = .ok (.bool false) w := by kernel_rfl
theorem BM.look {w : World} {b n : Nat} {g : Int → Option Bool} (h : BM w b g n) (x : Int) (hx : (Lit.int .i64 x).wf = true) : (Instr.lookup 27 (.map (some b)) (.int .i64 x) false).run Try.prog w = .ok (.bool ((g x).getD false)) w :=
  TMap.lookup (a0 := false) h keyed3 Try.underlying27 (zero4 w) (plainElem_bool Try.underlying4 false) hx (Maps.keyOf_int_mk Try.underlying3 hx)
theorem PM.look {w : World} {b n : Nat} {g : Int × Int → Option Bool} (h : PM w b g n) (x y : Int) (hx : (Lit.int .i64 x).wf = true) (hy : (Lit.int .i64 y).wf = true) : (Instr.lookup 58 (.map (some b)) (.agg #[.int .i64 x, .int .i64 y]) false).run Try.prog w = .ok (.bool ((g (x, y)).getD false)) w :=
  TMap.lookup (a0 := false) (x := (x, y)) h keyed37 Try.underlying58 (zero4 w) (plainElem_bool Try.underlying4 false) ⟨hx, hy⟩ (keyOf_pair x y hx hy)
open Classical in
/-- The keys are h i, f ≤ i < t; each is true. -/
noncomputable def gK {K : Type} (h : Int → K) (f t : Int) : K → Option Bool := fun x => if ∃ i, f ≤ i ∧ i < t ∧ h i = x then some true else none
theorem gK_none {K : Type} {h : Int → K} {f t : Int} {x : K} (hx : ∀ i, f ≤ i → i < t → h i ≠ x) : gK h f t x = none := by
  unfold gK; rw [if_neg]; rintro ⟨i, a, b, c⟩; exact hx i a b c
theorem gK_succ {K : Type} [DecidableEq K] (h : Int → K) {f t : Int} (ht : f ≤ t) : (fun y => if y = h t then some true else gK h f t y) = gK h f (t + 1) := by
  funext y
  unfold gK
  by_cases hy : y = h t
  · rw [if_pos hy, if_pos ⟨t, ht, by omega, hy.symm⟩]
  · rw [if_neg hy]
    by_cases he : ∃ i, f ≤ i ∧ i < t ∧ h i = y
    · obtain ⟨i, a, b, c⟩ := he
      rw [if_pos ⟨i, a, b, c⟩, if_pos ⟨i, a, by omega, c⟩]
    · rw [if_neg he, if_neg]
      rintro ⟨i, a, b, c⟩
      by_cases hi : i = t
      · exact hy (by rw [← c, hi])
      · exact he ⟨i, a, by omega, c⟩
theorem gK_empty {K : Type} (h : Int → K) (f : Int) : gK h f f = fun _ => none := by
  funext x; exact gK_none (fun i a b => by omega)
/-- The place of a block. -/
def hK (M b : Int) : Int × Int := (mem1 M (b / (M - 2)) (b % (M - 2)), 100 + b / (M - 2))
theorem hK_inj (M i t : Int) (hM : 4 ≤ M) (h : hK M i = hK M t) : i = t := by
  unfold hK at h
  injection h with h1 h2
  have h3 : i / (M - 2) = t / (M - 2) := by omega
  rw [h3] at h1
  have b1 := Int.emod_nonneg i (show M - 2 ≠ 0 by omega)
  have b2 := Int.emod_lt_of_pos i (show 0 < M - 2 by omega)
  have c1 := Int.emod_nonneg t (show M - 2 ≠ 0 by omega)
  have c2 := Int.emod_lt_of_pos t (show 0 < M - 2 by omega)
  have h4 := congrArg (col1 M (t / (M - 2))) h1
  rw [col_mem M _ _ hM b1 (by omega), col_mem M _ _ hM c1 (by omega)] at h4
  have e1 := Int.mul_ediv_add_emod i (M - 2)
  have e2 := Int.mul_ediv_add_emod t (M - 2)
  rw [h3, h4] at e1
  omega
theorem mem1_inj (M t i j : Int) (hM : 4 ≤ M) (i0 : 0 ≤ i) (i1 : i < M) (j0 : 0 ≤ j) (j1 : j < M) (h : mem1 M t i = mem1 M t j) : i = j := by
  have h4 := congrArg (col1 M t) h
  rwa [col_mem M _ _ hM i0 i1, col_mem M _ _ hM j0 j1] at h4
theorem dat_ok {m s : Int} (h : gd m s = true) : dat m s = m - 2 := by unfold dat; rw [if_pos h]
theorem blk_ok {m s : Int} (h : gd m s = true) : blk m s = (m - 2) * s := by unfold blk; rw [if_pos h]

set_option maxHeartbeats 8000000 in
set_option maxRecDepth 100000 in
theorem once_calls (m s : Int) (w : World) : Calls Try.prog 8 #[.agg #[.int .i64 m, .int .i64 s]] w fun e w' => e = .returned (.bool true) ∧ Bel w w' := by
  have K1 := Lib.hid (goodGBo m s)
  have K3 := Lib.hid wakesB
  have hM := gMo_bd m
  have hS := gSo_bd s
  go_enter Try.func8, Try.ntmps8
  go_wp2_with fail
  refine (K1.out _).mono ?_
  rintro e w1 ⟨rfl, hb1⟩
  generalize gMo m = M at *
  generalize gSo s = S at *
  have hg : gd M S = true := (gd_iff M S).2 ⟨hM.1, hM.2, hS.1, hS.2⟩
  have KB : Hid (∀ wx, Calls Try.prog 15 #[.agg #[.int .i64 M, .int .i64 S]] wx fun e w' => e = .returned (.int .i64 ((M - 2) * S)) ∧ Bel wx w') := Lib.hid (fun wx => by have := blocksB M S wx; rwa [blk_ok hg] at this)
  have hN0 : 0 ≤ (M - 2) * S := Int.mul_nonneg (by omega) (by omega)
  have hN1 : (M - 2) * S ≤ 30 * 64 := Int.mul_le_mul (by omega) (by omega) (by omega) (by omega)
  have hNd : Hid (∀ b, b < (M - 2) * S → b / (M - 2) < S) := Lib.hid (fun b hb => Int.ediv_lt_of_lt_mul (by omega) (by rw [Int.mul_comm]; exact hb))
  generalize hNe : (M - 2) * S = N at hN0 hN1 hNd KB
  have HNe := Lib.hid hNe
  clear hNe
  have HNx : Hid (∀ b, b < N → b < (M - 2) * S) := Lib.hid (fun b h => by rw [HNe.out]; exact h)
  have Hg := Lib.hid hg
  clear hg
  have hmm := @run_makeMap Try.prog
  have hw1 : w.heap.size + 1 ≤ w1.heap.size := by have := hb1.size; simpa using this
  have hw5 : ∀ wx, Bel (w1.alloc (Obj.cells #[Value.int IntKind.i64 M, Value.int IntKind.i64 S] 24)) wx → wx.cell? ⟨w1.heap.size, 0, none⟩ = some (.int .i64 M) ∧ wx.cell? ⟨w1.heap.size, 1, none⟩ = some (.int .i64 S) := fun wx hx => ⟨cellB hx (by simp [go_sem]), cellB hx (by simp [go_sem])⟩
  go_wp2_with fail
  refine (KB.out _).mono ?_
  rintro e w2 ⟨rfl, hb2⟩
  have hbw : Below w.heap.size w w2 := ((((Bel.alloc _ _).trans hb1).trans (Bel.alloc _ _)).trans (Bel.alloc _ _)).trans hb2
  have hc := hw5 w2 ((Bel.alloc _ _).trans hb2)
  have hp : PM w2 (w1.heap.size + 1) (fun _ => none) 0 := (TMap.made_at _ (by simp)).below hb2
  have HP := Lib.hid hp
  have HC := Lib.hid hc
  have HB := Lib.hid hbw
  clear hp hc hw5 hbw hb2 hmm
  go_wp2_with fail
  go_loopw [28] (fun v28 wr => ∃ (b : Int), v28 = .int .i64 b ∧ 0 ≤ b ∧ b ≤ N ∧ Hid (Below w.heap.size w wr ∧ (wr.cell? ⟨w1.heap.size, 0, none⟩ = some (.int .i64 M) ∧ wr.cell? ⟨w1.heap.size, 1, none⟩ = some (.int .i64 S)) ∧ PM wr (w1.heap.size + 1) (gK (hK M) 0 b) b.toNat)) (fun v28 _ => (N - intOf v28).toNat)
  case atStart =>
    exact ⟨0, rfl, by omega, by omega, Lib.hid ⟨HB.out, HC.out, by rw [gK_empty]; exact HP.out⟩⟩
  case round =>
    obtain ⟨wo, rfl⟩ : ∃ wo : World, wo = wr := ⟨_, rfl⟩
    obtain ⟨b, rfl, b0, b1, HR⟩ := hrel
    have q0 : ∀ wx, Bel wo wx → wx.cell? ⟨w1.heap.size, 0, none⟩ = some (.int .i64 M) := fun wx hx => cellB hx HR.out.2.1.1
    have q1 : ∀ wx, Bel wo wx → wx.cell? ⟨w1.heap.size, 1, none⟩ = some (.int .i64 S) := fun wx hx => cellB hx HR.out.2.1.2
    have h0 := Bel.refl wo
    clear HB HP HC
    by_cases hlt : b < N
    · have hgd := Hg.out
      have x0 := Int.ediv_nonneg (a := b) (b := M - 2) b0 (by omega)
      have x1 := hNd.out b hlt
      have x2 := Int.emod_nonneg b (show M - 2 ≠ 0 by omega)
      have x3 := Int.emod_lt_of_pos b (show 0 < M - 2 by omega)
      have hK0 : hK M b = (mem1 M (b / (M - 2)) (b % (M - 2)), 100 + b / (M - 2)) := rfl
      have hG : gK (hK M) 0 b (hK M b) = none := gK_none (fun i a c h => by have := hK_inj M i b hM.1 h; omega)
      have hU := gK_succ (hK M) b0
      have e0 := Int.mul_ediv_add_emod b (M - 2)
      have CF : Hid (∀ wx, Calls Try.prog 25 #[.agg #[.int .i64 M, .int .i64 S], .int .i64 b] wx fun e w' => e = .returned (.tuple #[.int .i64 (b / (M - 2)), .int .i64 (b % (M - 2)), .int .i64 0]) ∧ Bel wx w') :=
        Lib.hid (fun wx => by have := find_ok M S b wx hgd b0 (by rw [blk_ok hgd]; exact HNx.out b hlt); rwa [dat_ok hgd] at this)
      have CB : Hid (∀ wx, Calls Try.prog 27 #[.agg #[.int .i64 M, .int .i64 S], .int .i64 (b / (M - 2)), .int .i64 (b % (M - 2))] wx fun e w' => e = .returned (.tuple #[.int .i64 b, .int .i64 0]) ∧ Bel wx w') :=
        Lib.hid (fun wx => by have := block_ok M S (b / (M - 2)) (b % (M - 2)) wx hgd x0 x1 x2 (by rw [dat_ok hgd]; exact x3); rwa [dat_ok hgd, show b / (M - 2) * (M - 2) + b % (M - 2) = b by rw [Int.mul_comm]; exact e0] at this)
      have CM : Hid (∀ wx, Calls Try.prog 11 #[.agg #[.int .i64 M, .int .i64 S], .int .i64 (b / (M - 2)), .int .i64 (b % (M - 2))] wx fun e w' => e = .returned (.tuple #[.int .i64 (mem1 M (b / (M - 2)) (b % (M - 2))), .int .i64 0]) ∧ Bel wx w') :=
        Lib.hid (fun wx => member_ok M S (b / (M - 2)) (b % (M - 2)) wx hgd x0 x1 x2 (by omega))
      have CS : Hid (∀ wx, Calls Try.prog 23 #[.agg #[.int .i64 M, .int .i64 S], .int .i64 (b / (M - 2))] wx fun e w' => e = .returned (.tuple #[.int .i64 (100 + b / (M - 2)), .int .i64 0]) ∧ Bel wx w') :=
        Lib.hid (fun wx => sector_ok M S (b / (M - 2)) wx hgd x0 x1)
      have bA := mem1_bd M (b / (M - 2)) (b % (M - 2)) (by omega)
      have wfA : (Lit.int .i64 (mem1 M (b / (M - 2)) (b % (M - 2)))).wf = true := WalkArith.wf_i64 (by omega)
      have wfB : (Lit.int .i64 (100 + b / (M - 2))).wf = true := WalkArith.wf_i64 (by omega)
      rw [hK0] at hG hU
      have l1 : ∀ wx, Bel wo wx → (Instr.lookup 58 (.map (some (w1.heap.size + 1))) (.agg #[.int .i64 (mem1 M (b / (M - 2)) (b % (M - 2))), .int .i64 (100 + b / (M - 2))]) false).run Try.prog wx = .ok (.bool false) wx := fun wx hx => by
        have := PM.look (TMap.below HR.out.2.2 hx) _ _ wfA wfB
        rwa [hG] at this
      clear e0 hgd hK0
      generalize mem1 M (b / (M - 2)) (b % (M - 2)) = A at *
      generalize b / (M - 2) = q at *
      generalize b % (M - 2) = r at *
      have HG := Lib.hid hG
      have HU := Lib.hid hU
      have hinj : ∀ x y : Int × Int, (fun x : Int × Int => Value.agg #[.int .i64 x.1, .int .i64 x.2]) x = (fun x : Int × Int => Value.agg #[.int .i64 x.1, .int .i64 x.2]) y → x = y := by
        rintro ⟨x1, x2⟩ ⟨y1, y2⟩ h
        simp at h
        simp [h]
      have hsz : b.toNat < maxLen := by unfold maxLen; omega
      clear hG hU
      go_wp2_with fail
      refine (CF.out _).mono ?_
      rintro e w3 ⟨rfl, hb3⟩
      go_wp2_with fail
      refine (CB.out _).mono ?_
      rintro e w4 ⟨rfl, hb4⟩
      replace hb4 := hb3.trans hb4
      go_wp2_with fail
      refine (CM.out _).mono ?_
      rintro e w5 ⟨rfl, hb5⟩
      replace hb5 := hb4.trans hb5
      go_wp2_with fail
      refine (CS.out _).mono ?_
      rintro e w6 ⟨rfl, hb6⟩
      replace hb6 := hb5.trans hb6
      have hp6 : PM w6 (w1.heap.size + 1) (gK (hK M) 0 b) b.toNat := TMap.below HR.out.2.2 hb6
      have HP6 := Lib.hid hp6
      clear hp6
      go_wp2_with (at_mapUpdate; refine wpList_mapUpdate_T rfl _ _ _ rfl keyed37 Try.underlying58 HP6.out hsz hinj rfl (A, 100 + q) rfl true rfl (.string (keyBytes [.int .i64 A, .int .i64 (100 + q)])) ⟨wfA, wfB⟩ (keyOf_pair A (100 + q) wfA wfB) (.lit (.bool true)) (plainElem_bool Try.underlying4 true) ?_; intro w7 hP7 hg7; have G7 := Lib.hid hg7; have P7 := Lib.hid hP7; clear hg7 hP7)
      have h6 : Below w.heap.size w w6 := Below.trans HR.out.1 (Below.mono hb6 HR.out.1.size)
      have h7 : Below w.heap.size w w7 := pw_below_grown h6 _ h6.size G7.out (by intro k hk; injection hk with hk; omega)
      have z6 : w1.heap.size < w6.heap.size := by have := World.block_lt_of_cell? w6 _ (q0 w6 hb6); simpa using this
      have ec : ∀ o, w7.cell? ⟨w1.heap.size, o, none⟩ = w6.cell? ⟨w1.heap.size, o, none⟩ := fun o => World.cell?_of_block (G7.out.block w1.heap.size z6 (by simp))
      have e7 : (b + 1).toNat = b.toNat + 1 := by omega
      refine ⟨⟨b + 1, rfl, by omega, by omega, Lib.hid ⟨h7, ⟨by rw [ec]; exact q0 w6 hb6, by rw [ec]; exact q1 w6 hb6⟩, ?_⟩⟩, by simp [intOf]; omega⟩
      have := P7.out
      rw [HG.out] at this
      simp only [Option.isSome_none, Bool.false_eq_true, if_false] at this
      rw [← HU.out, e7]
      exact this
    · have eb : b = N := by omega
      have HPN : Hid (∀ wx, Bel wo wx → PM wx (w1.heap.size + 1) (gK (hK M) 0 N) N.toNat) := Lib.hid (fun wx hx => by rw [← eb]; exact TMap.below HR.out.2.2 hx)
      have HBw : Hid (Below w.heap.size w wo) := Lib.hid HR.out.1
      clear HR eb b0 b1 HNx hNd
      go_wp2_with fail
      go_loopw [91] (fun v91 wr => ∃ (t : Int), v91 = .int .i64 t ∧ 0 ≤ t ∧ t ≤ S ∧ Hid (Bel wo wr)) (fun v91 _ => (S - intOf v91).toNat)
      case atStart => exact ⟨0, rfl, by omega, by omega, Lib.hid h0⟩
      case round =>
        obtain ⟨wp, rfl⟩ : ∃ wp : World, wp = wr := ⟨_, rfl⟩
        obtain ⟨t, rfl, t0, t1, HR2⟩ := hrel
        have hbp := HR2.out
        clear HR2 h0
        by_cases hlt2 : t < S
        · have CR := Lib.hid (fun wx => row_okC M S t wx Hg.out t0 hlt2)
          have hlen : ((rowL M t M.toNat).length : Int) = M := by simp [rowL]; omega
          have hrd : Hid (∀ i, 0 ≤ i → i < M → rd (rowL M t M.toNat) i = mem1 M t i) := Lib.hid (fun i a b => rd_row M t i a b)
          have hll : (rowL M t M.toNat).length ≤ M.toNat ∧ M.toNat ≤ (rowL M t M.toNat).length := by omega
          clear hlen
          generalize rowL M t M.toNat = l at *
          have hmm := @run_makeMap Try.prog
          go_wp2_with fail
          refine (CR.out _).mono ?_
          rintro e w3 ⟨A, c, rfl, hcl, hC, hb3⟩
          replace hb3 := hbp.trans hb3
          have HC := Lib.hid hC
          obtain ⟨ad, c0, rfl, _⟩ := Kd.C_get hC 0 0 (by omega) (by omega)
          clear hC
          go_wp2_with fail
          refine wp_gen (fun W => Below w3.heap.size w3 W ∧ BM W w3.heap.size (fun _ => none) 0) ⟨Bel.alloc _ _, TMap.made_at _ rfl⟩ ?_
          rintro W3 ⟨hb4, hm4⟩
          go_loopw [103] (fun v103 wr => ∃ (k : Int), v103 = .int .i64 k ∧ 0 ≤ k ∧ k ≤ M ∧ Hid (Below w3.heap.size w3 wr ∧ BM wr w3.heap.size (gK (mem1 M t) 0 k) k.toNat)) (fun v103 _ => (M - intOf v103).toNat)
          case atStart => exact ⟨0, rfl, by omega, by omega, Lib.hid ⟨hb4, by rw [gK_empty]; exact hm4⟩⟩
          case round =>
            obtain ⟨wq, rfl⟩ : ∃ wq : World, wq = wr := ⟨_, rfl⟩
            obtain ⟨k, rfl, k0, k1, HR3⟩ := hrel
            clear hb4 hm4 hmm
            have hbq : Bel wo wq := Below.trans hb3 (Below.mono HR3.out.1 hb3.size)
            by_cases hlt3 : k < M
            · have r0 := hrd.out k k0 hlt3
              have hcl' := Kd.C_below HC.out HR3.out.1
              obtain ⟨ad', c1, hadd, hl1, hK, hcell⟩ := Kd.C_get hcl' 0 k k0 (by omega)
              obtain rfl : ad = ad' := Option.some.inj hadd
              have hc1 : c1 = [.int .i64 (mem1 M t k)] := by
                have : c1 = [.int .i64 (l.getD k.toNat 0)] := hK
                rw [this, ← r0]
                rfl
              have hcell' := hcell 0 _ (by rw [hc1]; rfl)
              have hsz1 : (Kd.int .i64).sz = 1 := rfl
              rw [hsz1, Nat.mul_one, Nat.add_zero] at hcell'
              clear hc1 hK hcell hl1 hsz1 hcl' hadd r0
              have bX := mem1_bd M t k (by omega)
              have wfX : (Lit.int .i64 (mem1 M t k)).wf = true := WalkArith.wf_i64 (by omega)
              have CC : Hid (∀ wx, Calls Try.prog 19 #[.agg #[.int .i64 M, .int .i64 S], .int .i64 t, .int .i64 (mem1 M t k)] wx fun e w' => e = .returned (.tuple #[.int .i64 k, .int .i64 0]) ∧ Bel wx w') :=
                Lib.hid (fun wx => by
                  have := column_ok M S t (mem1 M t k) wx Hg.out t0 hlt2 bX.1 bX.2
                  have e := col_mem M t k hM.1 k0 hlt3
                  unfold col1 at e
                  rwa [e] at this)
              have hG : gK (mem1 M t) 0 k (mem1 M t k) = none := gK_none (fun i a c h => by have := mem1_inj M t i k hM.1 a (by omega) k0 hlt3 h; omega)
              have hU := gK_succ (mem1 M t) k0
              have l1 : ∀ wx, Bel wq wx → (Instr.lookup 27 (.map (some w3.heap.size)) (.int .i64 (mem1 M t k)) false).run Try.prog wx = .ok (.bool false) wx := fun wx hx => by
                have := BM.look (TMap.below HR3.out.2 hx) _ wfX
                rwa [hG] at this
              have q0' := fun wx (hx : Bel wq wx) => q0 wx (hbq.trans hx)
              have q1' := fun wx (hx : Bel wq wx) => q1 wx (hbq.trans hx)
              have hinj : ∀ x y : Int, Value.int .i64 x = Value.int .i64 y → x = y := fun x y h => by injection h
              have hsz : k.toNat < maxLen := by unfold maxLen; omega
              generalize mem1 M t k = X at *
              have HG := Lib.hid hG
              have HU := Lib.hid hU
              have hkl : k < l.length := by omega
              clear hG hU
              have hqq := Bel.refl wq
              have HD := Lib.hid hrd
              go_wp2_with fail
              refine (CC.out _).mono ?_
              rintro e w5 ⟨rfl, hb5⟩
              have hp5 : BM w5 w3.heap.size (gK (mem1 M t) 0 k) k.toNat := TMap.below HR3.out.2 hb5
              have HP5 := Lib.hid hp5
              clear hp5
              go_wp2_with (at_mapUpdate; refine wpList_mapUpdate_T rfl _ _ _ rfl keyed3 Try.underlying27 HP5.out hsz hinj rfl X rfl true rfl (.int .i64 X) wfX (Maps.keyOf_int_mk Try.underlying3 wfX) (.lit (.bool true)) (plainElem_bool Try.underlying4 true) ?_; intro w7 hP7 hg7; have G7 := Lib.hid hg7; have P7 := Lib.hid hP7; clear hg7 hP7)
              have h6 : Below w3.heap.size w3 w5 := Below.trans HR3.out.1 (Below.mono hb5 HR3.out.1.size)
              have h7 : Below w3.heap.size w3 w7 := pw_below_grown h6 _ h6.size G7.out (by intro k hk; injection hk with hk; omega)
              have e7 : (k + 1).toNat = k.toNat + 1 := by omega
              refine ⟨⟨k + 1, rfl, by omega, by omega, Lib.hid ⟨h7, ?_⟩⟩, by simp [intOf]; omega⟩
              have := P7.out
              rw [HG.out] at this
              simp only [Option.isSome_none, Bool.false_eq_true, if_false] at this
              rw [← HU.out, e7]
              exact this
            · have ek : k = M := by omega
              have hkl : ¬ k < l.length := by omega
              have hle : ((l.length : Int) != M) = false := by rw [bne_eq_false_iff_eq]; omega
              have c0' := q0 wq hbq
              clear ek
              go_wp2_with fail
              exact ⟨⟨t + 1, rfl, by omega, by omega, Lib.hid hbq⟩, by simp [intOf]; omega⟩
        · have hl1 : ∀ wx, Bel wo wx → ∀ ty, (Builtin.len_ #[58] ty #[.map (some (w1.heap.size + 1))]).run Try.prog wx = .ok (.int .i64 N) wx := fun wx hx ty => by
            rw [TMap.len (HPN.out wx hx) Try.underlying58 ty]; congr 2; omega
          go_wp2_with fail
          refine (K3.out _).mono ?_
          rintro e w8 ⟨rfl, hb8⟩
          replace hb8 := hbp.trans hb8
          go_wp2_with fail
          refine (KB.out _).mono ?_
          rintro e w9 ⟨rfl, hb9⟩
          replace hb9 := hb8.trans hb9
          go_wp2_with fail
          go_ret
          exact ⟨rfl, Below.trans HBw.out (Below.mono hb9 HBw.out.size)⟩
theorem once_law (m s : Int) (hm : IntKind.has .i64 m) (hs : IntKind.has .i64 s) (w : World) : Calls Try.prog 8 #[.agg #[.int .i64 m, .int .i64 s]] w fun e w' => e = .returned (.bool true) ∧ Below w.heap.size w w' := once_calls m s w
end Once
end Go.Proofs.Ytgjalgmnkadbaaa
