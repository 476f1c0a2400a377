/- The walk of the reference's Load. -/
import Derived.Test.YtfahogbgkjockaaWalkB
set_option linter.unusedSimpArgs false
namespace Go.Proofs.Ytfahogbgkjockaa
open Go.RowKit Go.Proofs.YtfahogbgkjockaaW.PrintWords
theorem ld8_out (s : ByteArray) (a : Int) (h : a ≤ -8 ∨ (s.size : Int) ≤ a) : W (ld8 s a) = 0 := by
  have e : ∀ i : Nat, i < 8 → ldB s a i = 0 := by
    intro i hi
    unfold ldB
    rw [if_neg (by omega)]
  simp [ld8, W, e]
theorem ldB_in (s : ByteArray) (a : Int) (i : Nat) (j : Int) (e : a + i = j) (h0 : 0 ≤ j) (h1 : j < s.size) : (ldB s a i : Int) = bt s j := by
  subst e
  have := bt_range s (a + i)
  unfold ldB
  rw [if_pos ⟨h0, h1⟩]
  omega
theorem ldB_out (s : ByteArray) (a : Int) (i : Nat) (h : ¬ (0 ≤ a + i ∧ a + i < s.size)) : ldB s a i = 0 := by
  unfold ldB
  rw [if_neg h]
def zeros8 : List Nat := [0, 0, 0, 0, 0, 0, 0, 0]
set_option maxHeartbeats 8000000 in
set_option maxRecDepth 100000 in
theorem rload_calls (s : ByteArray) (a : Int) (w : World) (hs : s.size ≤ 1000) :
    Calls Try.prog 11 #[.string s, .int .i64 a] w fun e w' => e = .returned (.int .u64 (W (ld8 s a) : Nat)) ∧ Below w.heap.size w w' := by
  by_cases ha : -8 < a
  · by_cases ha2 : a < s.size
    · have hwd := fun (w : World) => word_calls (ld8 s a) w (ld8_by s a) rfl
      have Hwd := Lib.hid hwd
      clear hwd
      have hdef : ld8 s a = [ldB s a 0, ldB s a 1, ldB s a 2, ldB s a 3, ldB s a 4, ldB s a 5, ldB s a 6, ldB s a 7] := rfl
      generalize hF : ld8 s a = F at Hwd hdef ⊢
      have HF := Lib.hid hdef
      clear hF hdef
      have hd1 : decide (a ≤ -8) = false := decide_eq_false (by omega)
      have hd2 : decide ((s.size : Int) ≤ a) = false := decide_eq_false (by omega)
      go_enter Try.func11, Try.ntmps11
      go_wp2_with fail
      go_loopw [6] (fun v6 wr => ∃ (i : Nat), i ≤ 8 ∧ v6 = .int .i64 i ∧ Hid (wr = w.alloc (.cells (cellsU F zeros8 i) 29))) (fun v6 _ => 8 - (intOf v6).toNat)
      case atStart => exact ⟨0, by omega, rfl, Lib.hid rfl⟩
      case round =>
        obtain ⟨i, hi, rfl, hw⟩ := hrel
        have hw2 := hw.out
        clear hw
        by_cases hlt : i < 8
        · unfold cellsU at hw2
          rcases (by omega : i = 0 ∨ i = 1 ∨ i = 2 ∨ i = 3 ∨ i = 4 ∨ i = 5 ∨ i = 6 ∨ i = 7) with rfl | rfl | rfl | rfl | rfl | rfl | rfl | rfl
          · simp only [upto_not F zeros8 0 0 (by omega), upto_not F zeros8 0 1 (by omega), upto_not F zeros8 0 2 (by omega), upto_not F zeros8 0 3 (by omega), upto_not F zeros8 0 4 (by omega), upto_not F zeros8 0 5 (by omega), upto_not F zeros8 0 6 (by omega), upto_not F zeros8 0 7 (by omega), zeros8, List.getD_cons_zero, List.getD_cons_succ] at hw2
            subst hw2
            by_cases hc : 0 ≤ a
            · by_cases hc2 : a < s.size
              · have hx := bt_at s (a)
                have hd3 : decide (0 ≤ a) = true := decide_eq_true hc
                have hd4 : decide (a < (s.size : Int)) = true := decide_eq_true hc2
                have Hv : Hid ((ldB s a 0 : Int) = bt s (a)) := Lib.hid (ldB_in s a 0 (a) (by omega) hc hc2)
                go_wp2
                go_roundw
                case rel => exact ⟨1, by omega, rfl, Lib.hid (by simp [cellsU, upto, HF.out, Hv.out, zeros8])⟩
                case measure => simp [intOf]
              · exact absurd ha2 hc2
            · have hd3 : decide (0 ≤ a) = false := decide_eq_false hc
              have Hv : Hid (ldB s a 0 = 0) := Lib.hid (ldB_out s a 0 (by omega))
              go_wp2
              go_roundw
              case rel => exact ⟨1, by omega, rfl, Lib.hid (by simp [cellsU, upto, HF.out, Hv.out, zeros8])⟩
              case measure => simp [intOf]
          · simp only [upto_done F zeros8 1 0 (by omega), upto_not F zeros8 1 1 (by omega), upto_not F zeros8 1 2 (by omega), upto_not F zeros8 1 3 (by omega), upto_not F zeros8 1 4 (by omega), upto_not F zeros8 1 5 (by omega), upto_not F zeros8 1 6 (by omega), upto_not F zeros8 1 7 (by omega), zeros8, List.getD_cons_zero, List.getD_cons_succ] at hw2
            subst hw2
            by_cases hc : 0 ≤ a + 1
            · by_cases hc2 : a + 1 < s.size
              · have hx := bt_at s (a + 1)
                have hd3 : decide (0 ≤ a + 1) = true := decide_eq_true hc
                have hd4 : decide (a + 1 < (s.size : Int)) = true := decide_eq_true hc2
                have Hv : Hid ((ldB s a 1 : Int) = bt s (a + 1)) := Lib.hid (ldB_in s a 1 (a + 1) (by omega) hc hc2)
                go_wp2
                go_roundw
                case rel => exact ⟨2, by omega, rfl, Lib.hid (by simp [cellsU, upto, HF.out, Hv.out, zeros8])⟩
                case measure => simp [intOf]
              · have hd3 : decide (0 ≤ a + 1) = true := decide_eq_true hc
                have hd4 : decide (a + 1 < (s.size : Int)) = false := decide_eq_false hc2
                have Hv : Hid (ldB s a 1 = 0) := Lib.hid (ldB_out s a 1 (by omega))
                go_wp2
                go_roundw
                case rel => exact ⟨2, by omega, rfl, Lib.hid (by simp [cellsU, upto, HF.out, Hv.out, zeros8])⟩
                case measure => simp [intOf]
            · have hd3 : decide (0 ≤ a + 1) = false := decide_eq_false hc
              have Hv : Hid (ldB s a 1 = 0) := Lib.hid (ldB_out s a 1 (by omega))
              go_wp2
              go_roundw
              case rel => exact ⟨2, by omega, rfl, Lib.hid (by simp [cellsU, upto, HF.out, Hv.out, zeros8])⟩
              case measure => simp [intOf]
          · simp only [upto_done F zeros8 2 0 (by omega), upto_done F zeros8 2 1 (by omega), upto_not F zeros8 2 2 (by omega), upto_not F zeros8 2 3 (by omega), upto_not F zeros8 2 4 (by omega), upto_not F zeros8 2 5 (by omega), upto_not F zeros8 2 6 (by omega), upto_not F zeros8 2 7 (by omega), zeros8, List.getD_cons_zero, List.getD_cons_succ] at hw2
            subst hw2
            by_cases hc : 0 ≤ a + 2
            · by_cases hc2 : a + 2 < s.size
              · have hx := bt_at s (a + 2)
                have hd3 : decide (0 ≤ a + 2) = true := decide_eq_true hc
                have hd4 : decide (a + 2 < (s.size : Int)) = true := decide_eq_true hc2
                have Hv : Hid ((ldB s a 2 : Int) = bt s (a + 2)) := Lib.hid (ldB_in s a 2 (a + 2) (by omega) hc hc2)
                go_wp2
                go_roundw
                case rel => exact ⟨3, by omega, rfl, Lib.hid (by simp [cellsU, upto, HF.out, Hv.out, zeros8])⟩
                case measure => simp [intOf]
              · have hd3 : decide (0 ≤ a + 2) = true := decide_eq_true hc
                have hd4 : decide (a + 2 < (s.size : Int)) = false := decide_eq_false hc2
                have Hv : Hid (ldB s a 2 = 0) := Lib.hid (ldB_out s a 2 (by omega))
                go_wp2
                go_roundw
                case rel => exact ⟨3, by omega, rfl, Lib.hid (by simp [cellsU, upto, HF.out, Hv.out, zeros8])⟩
                case measure => simp [intOf]
            · have hd3 : decide (0 ≤ a + 2) = false := decide_eq_false hc
              have Hv : Hid (ldB s a 2 = 0) := Lib.hid (ldB_out s a 2 (by omega))
              go_wp2
              go_roundw
              case rel => exact ⟨3, by omega, rfl, Lib.hid (by simp [cellsU, upto, HF.out, Hv.out, zeros8])⟩
              case measure => simp [intOf]
          · simp only [upto_done F zeros8 3 0 (by omega), upto_done F zeros8 3 1 (by omega), upto_done F zeros8 3 2 (by omega), upto_not F zeros8 3 3 (by omega), upto_not F zeros8 3 4 (by omega), upto_not F zeros8 3 5 (by omega), upto_not F zeros8 3 6 (by omega), upto_not F zeros8 3 7 (by omega), zeros8, List.getD_cons_zero, List.getD_cons_succ] at hw2
            subst hw2
            by_cases hc : 0 ≤ a + 3
            · by_cases hc2 : a + 3 < s.size
              · have hx := bt_at s (a + 3)
                have hd3 : decide (0 ≤ a + 3) = true := decide_eq_true hc
                have hd4 : decide (a + 3 < (s.size : Int)) = true := decide_eq_true hc2
                have Hv : Hid ((ldB s a 3 : Int) = bt s (a + 3)) := Lib.hid (ldB_in s a 3 (a + 3) (by omega) hc hc2)
                go_wp2
                go_roundw
                case rel => exact ⟨4, by omega, rfl, Lib.hid (by simp [cellsU, upto, HF.out, Hv.out, zeros8])⟩
                case measure => simp [intOf]
              · have hd3 : decide (0 ≤ a + 3) = true := decide_eq_true hc
                have hd4 : decide (a + 3 < (s.size : Int)) = false := decide_eq_false hc2
                have Hv : Hid (ldB s a 3 = 0) := Lib.hid (ldB_out s a 3 (by omega))
                go_wp2
                go_roundw
                case rel => exact ⟨4, by omega, rfl, Lib.hid (by simp [cellsU, upto, HF.out, Hv.out, zeros8])⟩
                case measure => simp [intOf]
            · have hd3 : decide (0 ≤ a + 3) = false := decide_eq_false hc
              have Hv : Hid (ldB s a 3 = 0) := Lib.hid (ldB_out s a 3 (by omega))
              go_wp2
              go_roundw
              case rel => exact ⟨4, by omega, rfl, Lib.hid (by simp [cellsU, upto, HF.out, Hv.out, zeros8])⟩
              case measure => simp [intOf]
          · simp only [upto_done F zeros8 4 0 (by omega), upto_done F zeros8 4 1 (by omega), upto_done F zeros8 4 2 (by omega), upto_done F zeros8 4 3 (by omega), upto_not F zeros8 4 4 (by omega), upto_not F zeros8 4 5 (by omega), upto_not F zeros8 4 6 (by omega), upto_not F zeros8 4 7 (by omega), zeros8, List.getD_cons_zero, List.getD_cons_succ] at hw2
            subst hw2
            by_cases hc : 0 ≤ a + 4
            · by_cases hc2 : a + 4 < s.size
              · have hx := bt_at s (a + 4)
                have hd3 : decide (0 ≤ a + 4) = true := decide_eq_true hc
                have hd4 : decide (a + 4 < (s.size : Int)) = true := decide_eq_true hc2
                have Hv : Hid ((ldB s a 4 : Int) = bt s (a + 4)) := Lib.hid (ldB_in s a 4 (a + 4) (by omega) hc hc2)
                go_wp2
                go_roundw
                case rel => exact ⟨5, by omega, rfl, Lib.hid (by simp [cellsU, upto, HF.out, Hv.out, zeros8])⟩
                case measure => simp [intOf]
              · have hd3 : decide (0 ≤ a + 4) = true := decide_eq_true hc
                have hd4 : decide (a + 4 < (s.size : Int)) = false := decide_eq_false hc2
                have Hv : Hid (ldB s a 4 = 0) := Lib.hid (ldB_out s a 4 (by omega))
                go_wp2
                go_roundw
                case rel => exact ⟨5, by omega, rfl, Lib.hid (by simp [cellsU, upto, HF.out, Hv.out, zeros8])⟩
                case measure => simp [intOf]
            · have hd3 : decide (0 ≤ a + 4) = false := decide_eq_false hc
              have Hv : Hid (ldB s a 4 = 0) := Lib.hid (ldB_out s a 4 (by omega))
              go_wp2
              go_roundw
              case rel => exact ⟨5, by omega, rfl, Lib.hid (by simp [cellsU, upto, HF.out, Hv.out, zeros8])⟩
              case measure => simp [intOf]
          · simp only [upto_done F zeros8 5 0 (by omega), upto_done F zeros8 5 1 (by omega), upto_done F zeros8 5 2 (by omega), upto_done F zeros8 5 3 (by omega), upto_done F zeros8 5 4 (by omega), upto_not F zeros8 5 5 (by omega), upto_not F zeros8 5 6 (by omega), upto_not F zeros8 5 7 (by omega), zeros8, List.getD_cons_zero, List.getD_cons_succ] at hw2
            subst hw2
            by_cases hc : 0 ≤ a + 5
            · by_cases hc2 : a + 5 < s.size
              · have hx := bt_at s (a + 5)
                have hd3 : decide (0 ≤ a + 5) = true := decide_eq_true hc
                have hd4 : decide (a + 5 < (s.size : Int)) = true := decide_eq_true hc2
                have Hv : Hid ((ldB s a 5 : Int) = bt s (a + 5)) := Lib.hid (ldB_in s a 5 (a + 5) (by omega) hc hc2)
                go_wp2
                go_roundw
                case rel => exact ⟨6, by omega, rfl, Lib.hid (by simp [cellsU, upto, HF.out, Hv.out, zeros8])⟩
                case measure => simp [intOf]
              · have hd3 : decide (0 ≤ a + 5) = true := decide_eq_true hc
                have hd4 : decide (a + 5 < (s.size : Int)) = false := decide_eq_false hc2
                have Hv : Hid (ldB s a 5 = 0) := Lib.hid (ldB_out s a 5 (by omega))
                go_wp2
                go_roundw
                case rel => exact ⟨6, by omega, rfl, Lib.hid (by simp [cellsU, upto, HF.out, Hv.out, zeros8])⟩
                case measure => simp [intOf]
            · have hd3 : decide (0 ≤ a + 5) = false := decide_eq_false hc
              have Hv : Hid (ldB s a 5 = 0) := Lib.hid (ldB_out s a 5 (by omega))
              go_wp2
              go_roundw
              case rel => exact ⟨6, by omega, rfl, Lib.hid (by simp [cellsU, upto, HF.out, Hv.out, zeros8])⟩
              case measure => simp [intOf]
          · simp only [upto_done F zeros8 6 0 (by omega), upto_done F zeros8 6 1 (by omega), upto_done F zeros8 6 2 (by omega), upto_done F zeros8 6 3 (by omega), upto_done F zeros8 6 4 (by omega), upto_done F zeros8 6 5 (by omega), upto_not F zeros8 6 6 (by omega), upto_not F zeros8 6 7 (by omega), zeros8, List.getD_cons_zero, List.getD_cons_succ] at hw2
            subst hw2
            by_cases hc : 0 ≤ a + 6
            · by_cases hc2 : a + 6 < s.size
              · have hx := bt_at s (a + 6)
                have hd3 : decide (0 ≤ a + 6) = true := decide_eq_true hc
                have hd4 : decide (a + 6 < (s.size : Int)) = true := decide_eq_true hc2
                have Hv : Hid ((ldB s a 6 : Int) = bt s (a + 6)) := Lib.hid (ldB_in s a 6 (a + 6) (by omega) hc hc2)
                go_wp2
                go_roundw
                case rel => exact ⟨7, by omega, rfl, Lib.hid (by simp [cellsU, upto, HF.out, Hv.out, zeros8])⟩
                case measure => simp [intOf]
              · have hd3 : decide (0 ≤ a + 6) = true := decide_eq_true hc
                have hd4 : decide (a + 6 < (s.size : Int)) = false := decide_eq_false hc2
                have Hv : Hid (ldB s a 6 = 0) := Lib.hid (ldB_out s a 6 (by omega))
                go_wp2
                go_roundw
                case rel => exact ⟨7, by omega, rfl, Lib.hid (by simp [cellsU, upto, HF.out, Hv.out, zeros8])⟩
                case measure => simp [intOf]
            · have hd3 : decide (0 ≤ a + 6) = false := decide_eq_false hc
              have Hv : Hid (ldB s a 6 = 0) := Lib.hid (ldB_out s a 6 (by omega))
              go_wp2
              go_roundw
              case rel => exact ⟨7, by omega, rfl, Lib.hid (by simp [cellsU, upto, HF.out, Hv.out, zeros8])⟩
              case measure => simp [intOf]
          · simp only [upto_done F zeros8 7 0 (by omega), upto_done F zeros8 7 1 (by omega), upto_done F zeros8 7 2 (by omega), upto_done F zeros8 7 3 (by omega), upto_done F zeros8 7 4 (by omega), upto_done F zeros8 7 5 (by omega), upto_done F zeros8 7 6 (by omega), upto_not F zeros8 7 7 (by omega), zeros8, List.getD_cons_zero, List.getD_cons_succ] at hw2
            subst hw2
            by_cases hc : 0 ≤ a + 7
            · by_cases hc2 : a + 7 < s.size
              · have hx := bt_at s (a + 7)
                have hd3 : decide (0 ≤ a + 7) = true := decide_eq_true hc
                have hd4 : decide (a + 7 < (s.size : Int)) = true := decide_eq_true hc2
                have Hv : Hid ((ldB s a 7 : Int) = bt s (a + 7)) := Lib.hid (ldB_in s a 7 (a + 7) (by omega) hc hc2)
                go_wp2
                go_roundw
                case rel => exact ⟨8, by omega, rfl, Lib.hid (by simp [cellsU, upto, HF.out, Hv.out, zeros8])⟩
                case measure => simp [intOf]
              · have hd3 : decide (0 ≤ a + 7) = true := decide_eq_true hc
                have hd4 : decide (a + 7 < (s.size : Int)) = false := decide_eq_false hc2
                have Hv : Hid (ldB s a 7 = 0) := Lib.hid (ldB_out s a 7 (by omega))
                go_wp2
                go_roundw
                case rel => exact ⟨8, by omega, rfl, Lib.hid (by simp [cellsU, upto, HF.out, Hv.out, zeros8])⟩
                case measure => simp [intOf]
            · have hd3 : decide (0 ≤ a + 7) = false := decide_eq_false hc
              have Hv : Hid (ldB s a 7 = 0) := Lib.hid (ldB_out s a 7 (by omega))
              go_wp2
              go_roundw
              case rel => exact ⟨8, by omega, rfl, Lib.hid (by simp [cellsU, upto, HF.out, Hv.out, zeros8])⟩
              case measure => simp [intOf]
        · obtain rfl : i = 8 := by omega
          unfold cellsU at hw2
          simp only [upto_done F zeros8 8 0 (by omega), upto_done F zeros8 8 1 (by omega), upto_done F zeros8 8 2 (by omega), upto_done F zeros8 8 3 (by omega), upto_done F zeros8 8 4 (by omega), upto_done F zeros8 8 5 (by omega), upto_done F zeros8 8 6 (by omega), upto_done F zeros8 8 7 (by omega)] at hw2
          subst hw2
          go_wp2_with fail
          refine (Hwd.out _).mono ?_
          rintro e w' ⟨rfl, o8, rfl⟩
          go_wp2_with fail
          go_ret
          exact ⟨rfl, by go_grown⟩
    · have hz := ld8_out s a (.inr (by omega))
      rw [hz]
      clear hz
      go_enter Try.func11, Try.ntmps11
      go_wp2_with fail
      go_ret
      exact ⟨rfl, by go_grown⟩
  · have hz := ld8_out s a (.inl (by omega))
    rw [hz]
    clear hz
    go_enter Try.func11, Try.ntmps11
    go_wp2_with fail
    go_ret
    exact ⟨rfl, by go_grown⟩
end Go.Proofs.Ytfahogbgkjockaa
