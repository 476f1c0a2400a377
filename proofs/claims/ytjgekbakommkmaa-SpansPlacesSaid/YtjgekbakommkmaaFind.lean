/- Spans: the search for a place. -/
import Derived.Test.YtjgekbakommkmaaSe
import Derived.Test.YtjgekbakommkmaaSc
import Derived.Handy
import Derived.Lib.Hide
import Derived.Lib.MinMax
import Derived.Outline
set_option linter.unusedVariables false
set_option linter.unusedSimpArgs false
namespace Go.Proofs.Ytjgekbakommkmaa
open Go.RowKit Go.Proofs.YtjgekbakommkmaaW.PrintWords Go.Proofs.YtjgekbakommkmaaW.PrintMore
open PSpansChange
theorem wp_gen {P : Program} {c : Code} {Q : Exit → Act → World → Prop} {a : Act} {w : World} (Φ : World → Prop) (hΦ : Φ w) (h : ∀ W, Φ W → c.wp P Q a W) : c.wp P Q a w := h w hΦ
theorem calls_gen {P : Program} {f : FuncId} {args : Array Value} {R : Ending → World → Prop} {w : World} (Φ : World → Prop) (hΦ : Φ w) (h : ∀ W, Φ W → Calls P f args W R) : Calls P f args w R := h w hΦ
def Bel (w w' : World) : Prop := Below w.heap.size w w'
theorem Bel.refl (w : World) : Bel w w := Below.refl _ w
theorem Bel.trans {w w1 w2 : World} (h : Bel w w1) (k : Bel w1 w2) : Bel w w2 := below_then h h.size k
theorem Bel.alloc (w : World) (o : Obj) : Bel w (w.alloc o) := (Below.refl _ w).alloc (Nat.le_refl _) o
theorem Bel.drew (w : World) : Bel w w.drew := below_drew (Below.refl _ w)
theorem Bel.drewN (w : World) (n : Nat) : Bel w (w.drewN n) := pw_below_drewN (Below.refl _ w) n
theorem cellB {w w1 : World} (h : Bel w w1) {a : Addr} {v : Value} (hc : w.cell? a = some v) : w1.cell? a = some v := pw_cell_below h hc
set_option maxHeartbeats 1000000 in
theorem isNaN (a : Int) (w : World) : Calls Try.prog 39 #[.int .i64 a] w fun e w' => e = .returned (.bool false) ∧ w = w' := by
  go_enter Try.func39, Try.ntmps39
  go_wp2_with fail
  go_ret
  exact ⟨by simp, rfl⟩
def cmpF (a b : Int) : Int := if a < b then -1 else if b < a then 1 else 0
set_option maxHeartbeats 1000000 in
theorem compare (a b : Int) (w : World) : Calls Try.prog 38 #[.int .i64 a, .int .i64 b] w fun e w' => e = .returned (.int .i64 (cmpF a b)) ∧ w = w' := by
  have K := Lib.hid isNaN
  unfold cmpF
  by_cases h1 : a < b
  · rw [if_pos h1]
    go_enter Try.func38, Try.ntmps38
    go_wp2_with fail
    refine (K.out _ _).mono ?_
    rintro e w1 ⟨rfl, rfl⟩
    go_wp2_with fail
    refine (K.out _ _).mono ?_
    rintro e w1 ⟨rfl, rfl⟩
    go_wp2_with fail
    go_ret
    exact ⟨rfl, rfl⟩
  · rw [if_neg h1]
    by_cases h2 : b < a
    · rw [if_pos h2]
      go_enter Try.func38, Try.ntmps38
      go_wp2_with fail
      refine (K.out _ _).mono ?_
      rintro e w1 ⟨rfl, rfl⟩
      go_wp2_with fail
      refine (K.out _ _).mono ?_
      rintro e w1 ⟨rfl, rfl⟩
      go_wp2_with fail
      go_ret
      exact ⟨rfl, rfl⟩
    · rw [if_neg h2]
      go_enter Try.func38, Try.ntmps38
      go_wp2_with fail
      refine (K.out _ _).mono ?_
      rintro e w1 ⟨rfl, rfl⟩
      go_wp2_with fail
      refine (K.out _ _).mono ?_
      rintro e w1 ⟨rfl, rfl⟩
      go_wp2_with fail
      go_ret
      exact ⟨rfl, rfl⟩
set_option maxHeartbeats 1000000 in
theorem closure (a b t : Int) (h0 : -1 ≤ t) (h1 : t ≤ 1099511627776) (w : World) : Calls Try.prog 37 #[.agg #[.int .i64 a, .int .i64 b], .int .i64 t] w fun e w' => e = .returned (.int .i64 (cmpF b (t + 1))) ∧ Bel w w' := by
  have K := Lib.hid (compare b (t + 1))
  go_enter Try.func37, Try.ntmps37
  go_wp2_with fail
  refine (K.out _).mono ?_
  rintro e w1 ⟨rfl, rfl⟩
  go_wp2_with fail
  go_ret
  exact ⟨rfl, Bel.alloc _ _⟩
/-- Place i parts the spans that end at t or before it from those that end behind it. -/
def FindAt (l : List S30) (t : Int) (i : Nat) : Prop := i ≤ l.length ∧ (∀ j : Nat, j < i → (rd_T30 l j).f1 ≤ t) ∧ (∀ j : Nat, i ≤ j → j < l.length → t < (rd_T30 l j).f1)
def Rising (l : List S30) : Prop := ∀ i j : Nat, i ≤ j → j < l.length → (rd_T30 l i).f1 ≤ (rd_T30 l j).f1
set_option maxHeartbeats 4000000 in
set_option maxRecDepth 100000 in
theorem bsf (A : Option Addr) (c : Nat) (l : List S30) (t : Int) (h0 : -1 ≤ t) (h1 : t ≤ 1099511627776) (hs : Rising l) (hlen : l.length ≤ 1000000) (w : World) (hC : Kd.C k30 w A l.length l) :
    Calls Try.prog 36 #[.slice A l.length c, .int .i64 t, .func (.func 37) #[] #[]] w fun e w' => ∃ (i : Nat) (b : Bool), e = .returned (.tuple #[.int .i64 i, .bool b]) ∧ FindAt l t i ∧ Bel w w' := by
  have K := Lib.hid (fun a b => closure a b t h0 h1)
  have HC := Lib.hid hC
  have HS := Lib.hid hs
  have hll : Hid (l.length = l.length) := Lib.hid rfl
  clear hC hs
  go_enter Try.func36, Try.ntmps36
  go_wp2_with fail
  have hlm : (0 : Int) ≤ l.length := by omega
  go_loopw [9, 10] (fun v9 v10 wr => ∃ (lo hi : Nat), v9 = .int .i64 lo ∧ v10 = .int .i64 hi ∧ lo ≤ hi ∧ hi ≤ l.length ∧ Hid (Bel w wr ∧ (∀ j : Nat, j < lo → (rd_T30 l j).f1 ≤ t) ∧ (∀ j : Nat, hi ≤ j → j < l.length → t < (rd_T30 l j).f1))) (fun v9 v10 _ => (intOf v10 - intOf v9).toNat)
  case atStart => exact ⟨0, l.length, rfl, rfl, by omega, by omega, Lib.hid ⟨Bel.refl _, fun j hj => absurd hj (by omega), fun j h1 h2 => absurd h1 (by omega)⟩⟩
  case round =>
    obtain ⟨wo, rfl⟩ : ∃ wo : World, wo = wr := ⟨_, rfl⟩
    obtain ⟨lo, hi, rfl, rfl, hlh, hin, HI⟩ := hrel
    have hC' := Kd.C_below HC.out HI.out.1
    by_cases hlt : lo < hi
    · obtain ⟨ad, rfl, x0, x1⟩ := at_T30 hC' ((lo + hi) / 2 : Nat) (by omega) (by omega)
      simp only [Int.toNat_natCast] at x0 x1
      have hy1 : Hid (rd_T30 l ((lo + hi) / 2 : Nat) = rd_T30 l ((lo + hi) / 2 : Nat)) := Lib.hid rfl
      generalize hy : rd_T30 l ((lo + hi) / 2 : Nat) = y at x0 x1
      obtain ⟨y0, y1⟩ := y
      simp only [] at x0 x1
      have HY := Lib.hid hy
      clear hy hy1 hC'
      have HCl := Lib.hid (fun wx => K.out y0 y1 wx)
      by_cases hc : y1 ≤ t
      · have hcm : cmpF y1 (t + 1) = -1 := by unfold cmpF; rw [if_pos (by omega)]
        rw [hcm] at HCl
        clear hcm
        go_wp2_with fail
        refine (HCl.out _).mono ?_
        rintro e w' ⟨rfl, hb⟩
        go_wp2_with fail
        have hfin : Hid (Bel w w' ∧ (∀ j : Nat, j < (lo + hi) / 2 + 1 → (rd_T30 l j).f1 ≤ t) ∧ (∀ j : Nat, hi ≤ j → j < l.length → t < (rd_T30 l j).f1)) := Lib.hid ⟨HI.out.1.trans hb, fun j hj => by
          have := HS.out j ((lo + hi) / 2) (by omega) (by omega)
          rw [HY.out] at this
          exact Int.le_trans this hc, HI.out.2.2⟩
        exact ⟨⟨(lo + hi) / 2 + 1, hi, by first | (congr 1; done) | (congr 1; omega), rfl, by omega, by omega, hfin⟩, by simp [intOf]; omega⟩
      · have hcm : 0 ≤ cmpF y1 (t + 1) := by unfold cmpF; rw [if_neg (by omega)]; split <;> omega
        generalize cmpF y1 (t + 1) = q at *
        go_wp2_with fail
        refine (HCl.out _).mono ?_
        rintro e w' ⟨rfl, hb⟩
        go_wp2_with fail
        have hfin : Hid (Bel w w' ∧ (∀ j : Nat, j < lo → (rd_T30 l j).f1 ≤ t) ∧ (∀ j : Nat, (lo + hi) / 2 ≤ j → j < l.length → t < (rd_T30 l j).f1)) := Lib.hid ⟨HI.out.1.trans hb, HI.out.2.1, fun j h1 h2 => by
          have := HS.out ((lo + hi) / 2) j h1 h2
          rw [HY.out] at this
          simp only [] at this
          omega⟩
        exact ⟨⟨lo, (lo + hi) / 2, rfl, by first | (congr 1; done) | (congr 1; omega), by omega, by omega, hfin⟩, by simp [intOf]; omega⟩
    · have hle : hi = lo := by omega
      subst hle
      have hfa : Hid (FindAt l t hi) := Lib.hid ⟨hin, HI.out.2.1, HI.out.2.2⟩
      have hbw := HI.out.1
      by_cases hn : hi < l.length
      · obtain ⟨ad, rfl, x0, x1⟩ := at_T30 hC' (hi : Nat) (by omega) (by omega)
        simp only [Int.toNat_natCast] at x0 x1
        generalize rd_T30 l (hi : Nat) = y at x0 x1
        obtain ⟨y0, y1⟩ := y
        simp only [] at x0 x1
        have HCl := Lib.hid (fun wx => K.out y0 y1 wx)
        generalize cmpF y1 (t + 1) = q at *
        clear hC' HI
        go_wp2_with fail
        refine (HCl.out _).mono ?_
        rintro e w' ⟨rfl, hb⟩
        go_wp2_with fail
        go_ret2
        exact ⟨hi, _, rfl, hfa.out, hbw.trans hb⟩
      · clear hC' HI
        go_wp2_with fail
        go_ret2
        exact ⟨hi, _, rfl, hfa.out, hbw⟩
set_option maxHeartbeats 1000000 in
theorem findB (A : Option Addr) (c : Nat) (l : List S30) (t : Int) (h0 : -1 ≤ t) (h1 : t ≤ 1099511627776) (hs : Rising l) (hlen : l.length ≤ 1000000) (w : World) (hC : Kd.C k30 w A l.length l) :
    Calls Try.prog 32 #[.slice A l.length c, .int .i64 t] w fun e w' => ∃ (i : Nat), e = .returned (.int .i64 i) ∧ FindAt l t i ∧ Bel w w' := by
  have K := Lib.hid (bsf A c l t h0 h1 hs hlen w hC)
  clear hs hC
  go_enter Try.func32, Try.ntmps32
  go_wp2_with fail
  refine K.out.mono ?_
  rintro e w1 ⟨i, b, rfl, hf, hb⟩
  have HF := Lib.hid hf
  clear hf
  go_wp2_with fail
  go_ret
  exact ⟨i, rfl, HF.out, hb⟩
end Go.Proofs.Ytjgekbakommkmaa
