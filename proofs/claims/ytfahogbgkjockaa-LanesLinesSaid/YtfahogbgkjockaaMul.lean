/- The walk of the reference's product of two bytes (trunnionref01.Mul): it returns mulB a b. -/
import Derived.Test.YtfahogbgkjockaaProg
import Derived.WalkKit
import Derived.Test.YtfahogbgkjockaaBytes
import Derived.Handy
import Derived.Lib.Hide
namespace Go.Proofs.Ytfahogbgkjockaa
open Go.RowKit
theorem bt1_bd (C j : Nat) : 0 ≤ bt1 C j ∧ bt1 C j ≤ 1 := by unfold bt1; split <;> omega
theorem cell_step (E j x y : Nat) : (wrap64 (bt1 E j + wrap64 ((x : Int) % 2 * ((y : Int) % 2)))).tmod 2 = bt1 (stp E j (x % 2) (y % 2)) j := by
  have h1 : ((x : Int) % 2 * ((y : Int) % 2)) = ((x % 2 * (y % 2) : Nat) : Int) := by push_cast; rfl
  rw [h1]
  unfold stp bt1
  rcases Nat.mod_two_eq_zero_or_one x with hx | hx <;> rcases Nat.mod_two_eq_zero_or_one y with hy | hy <;> rw [hx, hy] <;>
    cases h : E.testBit j <;> simp [wrap64, Nat.testBit_xor, Nat.testBit_two_pow_self, h]
theorem bt1_stp_ne (E j m p q : Nat) (h : j ≠ m) : bt1 (stp E j p q) m = bt1 E m := by
  unfold stp bt1
  split
  · simp [Nat.testBit_xor, h]
  · rfl
def cellsM (C : Nat) : Array Value := #[.int .i64 (bt1 C 0), .int .i64 (bt1 C 1), .int .i64 (bt1 C 2), .int .i64 (bt1 C 3), .int .i64 (bt1 C 4), .int .i64 (bt1 C 5), .int .i64 (bt1 C 6), .int .i64 (bt1 C 7), .int .i64 (bt1 C 8), .int .i64 (bt1 C 9), .int .i64 (bt1 C 10), .int .i64 (bt1 C 11), .int .i64 (bt1 C 12), .int .i64 (bt1 C 13), .int .i64 (bt1 C 14)]
theorem step_rel (w : World) (E j x y : Nat) (hj : j < 15) : Hid (w.alloc (.cells ((cellsM E).setIfInBounds j (.int .i64 ((wrap64 (bt1 E j + wrap64 ((x : Int) % 2 * ((y : Int) % 2)))).tmod 2))) 41) = w.alloc (.cells (cellsM (stp E j (x % 2) (y % 2))) 41)) := by
  rw [cell_step]
  refine Lib.hid ?_
  congr 2
  rcases (by omega : j = 0 ∨ j = 1 ∨ j = 2 ∨ j = 3 ∨ j = 4 ∨ j = 5 ∨ j = 6 ∨ j = 7 ∨ j = 8 ∨ j = 9 ∨ j = 10 ∨ j = 11 ∨ j = 12 ∨ j = 13 ∨ j = 14) with rfl | rfl | rfl | rfl | rfl | rfl | rfl | rfl | rfl | rfl | rfl | rfl | rfl | rfl | rfl <;> simp [cellsM, bt1_stp_ne]
theorem inn_rel {y b k E D a i x : Nat} (hx : x = a / 2 ^ i) (hy : y = b / 2 ^ k) (hE : E = inn D a b i k) : stp E (i + k) (x % 2) (y % 2) = inn D a b i (k + 1) := by
  subst hx hy hE; rfl
theorem half_rel {y b k : Nat} (hy : y = b / 2 ^ k) : y / 2 = b / 2 ^ (k + 1) := by
  subst hy; rw [Nat.div_div_eq_div_mul, Nat.pow_succ]
theorem fl_ne (C i j : Nat) (h0 : i ≠ j) (h1 : i ≠ j + 4) (h2 : i ≠ j + 5) (h3 : i ≠ j + 6) (h4 : i ≠ j + 8) (h : C.testBit i = true) (h8 : 8 ≤ i) (hi : i < 15) (hj : j < 15) : bt1 (flp C i) j = bt1 C j := by
  unfold flp bt1
  rw [if_pos h, Nat.testBit_xor]
  have : (285 * 2 ^ (i - 8)).testBit j = false := by
    rcases (by omega : i = 8 ∨ i = 9 ∨ i = 10 ∨ i = 11 ∨ i = 12 ∨ i = 13 ∨ i = 14) with rfl | rfl | rfl | rfl | rfl | rfl | rfl <;>
    rcases (by omega : j = 0 ∨ j = 1 ∨ j = 2 ∨ j = 3 ∨ j = 4 ∨ j = 5 ∨ j = 6 ∨ j = 7 ∨ j = 8 ∨ j = 9 ∨ j = 10 ∨ j = 11 ∨ j = 12 ∨ j = 13 ∨ j = 14) with rfl | rfl | rfl | rfl | rfl | rfl | rfl | rfl | rfl | rfl | rfl | rfl | rfl | rfl | rfl <;> first | omega | decide
  simp [this]
theorem fl_eq (C i j : Nat) (hh : i = j ∨ i = j + 4 ∨ i = j + 5 ∨ i = j + 6 ∨ i = j + 8) (h : C.testBit i = true) (h8 : 8 ≤ i) (hi : i < 15) : bt1 (flp C i) j = 1 - bt1 C j := by
  unfold flp bt1
  rw [if_pos h, Nat.testBit_xor]
  have : (285 * 2 ^ (i - 8)).testBit j = true := by
    rcases (by omega : i = 8 ∨ i = 9 ∨ i = 10 ∨ i = 11 ∨ i = 12 ∨ i = 13 ∨ i = 14) with rfl | rfl | rfl | rfl | rfl | rfl | rfl <;>
    rcases (by omega : j = 0 ∨ j = 1 ∨ j = 2 ∨ j = 3 ∨ j = 4 ∨ j = 5 ∨ j = 6 ∨ j = 7 ∨ j = 8 ∨ j = 9 ∨ j = 10 ∨ j = 11 ∨ j = 12 ∨ j = 13 ∨ j = 14) with rfl | rfl | rfl | rfl | rfl | rfl | rfl | rfl | rfl | rfl | rfl | rfl | rfl | rfl | rfl <;> first | omega | decide
  rw [this]
  cases C.testBit j <;> simp
theorem red_no (C n : Nat) (h : ¬ C.testBit (n + 8) = true) : red C (n + 1) = red C n := by
  show red (flp C (n + 8)) n = red C n
  unfold flp
  rw [if_neg h]
theorem ret_int {k : IntKind} {a b : Int} (h : a = b) : Ending.returned (.int k a) = .returned (.int k b) := by rw [h]
theorem mul_end (C : Nat) : 2 * (2 * (2 * (2 * (2 * (2 * (2 * bt1 C 7 + bt1 C 6) + bt1 C 5) + bt1 C 4) + bt1 C 3) + bt1 C 2) + bt1 C 1) + bt1 C 0 = ((C % 256 : Nat) : Int) := by
  have h : ∀ j, bt1 C j = ((C / 2 ^ j % 2 : Nat) : Int) := by
    intro j
    unfold bt1
    rw [Nat.testBit_eq_decide_div_mod_eq]
    rcases Nat.mod_two_eq_zero_or_one (C / 2 ^ j) with h | h <;> simp [h]
  simp only [h]
  omega
set_option maxHeartbeats 40000000 in
set_option maxRecDepth 100000 in
theorem mul_calls (a b : Nat) (w : World) (ha : a < 256) (hb : b < 256) :
    Calls Try.prog 23 #[.int .u8 a, .int .u8 b] w fun e w' => e = .returned (.int .u8 (mulB a b : Nat)) ∧ ∃ o, w' = w.alloc o := by
  go_enter Try.func23, Try.ntmps23
  go_wp2
  go_loopw [6, 7] (fun v6 v7 wr => ∃ (i x : Nat), i ≤ 8 ∧ x < 256 ∧ v6 = .int .i64 x ∧ v7 = .int .i64 i ∧ Hid (x = a / 2 ^ i) ∧ Hid (wr = w.alloc (.cells (cellsM (clm a b i)) 41))) (fun _ v7 _ => 8 - (intOf v7).toNat)
  case atStart => exact ⟨0, a, by omega, by omega, rfl, rfl, Lib.hid (by simp), Lib.hid (by simp [cellsM, clm, bt1])⟩
  case round =>
    obtain ⟨i, x, hi, hx, rfl, rfl, hxe, hw⟩ := hrel
    have hw2 := hw.out
    by_cases hlt : i < 8
    · obtain ⟨D, hD⟩ : ∃ D, D = clm a b i := ⟨_, rfl⟩
      rw [← hD] at hw2
      have HD := Lib.hid hD
      clear hD hw
      unfold cellsM at hw2
      subst hw2
      go_wp2
      go_loopw [8, 9] (fun v8 v9 wr => ∃ (k y E : Nat), k ≤ 8 ∧ y < 256 ∧ v8 = .int .i64 y ∧ v9 = .int .i64 k ∧ Hid (y = b / 2 ^ k) ∧ Hid (E = inn D a b i k) ∧ Hid (wr = w.alloc (.cells (cellsM E) 41))) (fun _ v9 _ => 8 - (intOf v9).toNat)
      case atStart => exact ⟨0, b, D, by omega, by omega, rfl, rfl, Lib.hid (by simp), Lib.hid rfl, Lib.hid rfl⟩
      case round =>
        obtain ⟨k, y, E, hk, hy, rfl, rfl, hye, hE, hw⟩ := hrel
        have hw3 := hw.out
        clear hw
        by_cases hkt : k < 8
        · unfold cellsM at hw3
          subst hw3
          rcases (by omega : i = 0 ∨ i = 1 ∨ i = 2 ∨ i = 3 ∨ i = 4 ∨ i = 5 ∨ i = 6 ∨ i = 7) with rfl | rfl | rfl | rfl | rfl | rfl | rfl | rfl
          · rcases (by omega : k = 0 ∨ k = 1 ∨ k = 2 ∨ k = 3 ∨ k = 4 ∨ k = 5 ∨ k = 6 ∨ k = 7) with rfl | rfl | rfl | rfl | rfl | rfl | rfl | rfl
            · go_wp2
              go_roundw
              case rel => exact ⟨1, y / 2, stp E (0 + 0) (x % 2) (y % 2), by omega, by omega, by go_num, by first | rfl | go_num, Lib.hid (half_rel hye.out), Lib.hid (inn_rel hxe.out hye.out hE.out), step_rel w E 0 x y (by omega)⟩
              case measure => simp [intOf]
            · go_wp2
              go_roundw
              case rel => exact ⟨2, y / 2, stp E (0 + 1) (x % 2) (y % 2), by omega, by omega, by go_num, by first | rfl | go_num, Lib.hid (half_rel hye.out), Lib.hid (inn_rel hxe.out hye.out hE.out), step_rel w E 1 x y (by omega)⟩
              case measure => simp [intOf]
            · go_wp2
              go_roundw
              case rel => exact ⟨3, y / 2, stp E (0 + 2) (x % 2) (y % 2), by omega, by omega, by go_num, by first | rfl | go_num, Lib.hid (half_rel hye.out), Lib.hid (inn_rel hxe.out hye.out hE.out), step_rel w E 2 x y (by omega)⟩
              case measure => simp [intOf]
            · go_wp2
              go_roundw
              case rel => exact ⟨4, y / 2, stp E (0 + 3) (x % 2) (y % 2), by omega, by omega, by go_num, by first | rfl | go_num, Lib.hid (half_rel hye.out), Lib.hid (inn_rel hxe.out hye.out hE.out), step_rel w E 3 x y (by omega)⟩
              case measure => simp [intOf]
            · go_wp2
              go_roundw
              case rel => exact ⟨5, y / 2, stp E (0 + 4) (x % 2) (y % 2), by omega, by omega, by go_num, by first | rfl | go_num, Lib.hid (half_rel hye.out), Lib.hid (inn_rel hxe.out hye.out hE.out), step_rel w E 4 x y (by omega)⟩
              case measure => simp [intOf]
            · go_wp2
              go_roundw
              case rel => exact ⟨6, y / 2, stp E (0 + 5) (x % 2) (y % 2), by omega, by omega, by go_num, by first | rfl | go_num, Lib.hid (half_rel hye.out), Lib.hid (inn_rel hxe.out hye.out hE.out), step_rel w E 5 x y (by omega)⟩
              case measure => simp [intOf]
            · go_wp2
              go_roundw
              case rel => exact ⟨7, y / 2, stp E (0 + 6) (x % 2) (y % 2), by omega, by omega, by go_num, by first | rfl | go_num, Lib.hid (half_rel hye.out), Lib.hid (inn_rel hxe.out hye.out hE.out), step_rel w E 6 x y (by omega)⟩
              case measure => simp [intOf]
            · go_wp2
              go_roundw
              case rel => exact ⟨8, y / 2, stp E (0 + 7) (x % 2) (y % 2), by omega, by omega, by go_num, by first | rfl | go_num, Lib.hid (half_rel hye.out), Lib.hid (inn_rel hxe.out hye.out hE.out), step_rel w E 7 x y (by omega)⟩
              case measure => simp [intOf]
          · rcases (by omega : k = 0 ∨ k = 1 ∨ k = 2 ∨ k = 3 ∨ k = 4 ∨ k = 5 ∨ k = 6 ∨ k = 7) with rfl | rfl | rfl | rfl | rfl | rfl | rfl | rfl
            · go_wp2
              go_roundw
              case rel => exact ⟨1, y / 2, stp E (1 + 0) (x % 2) (y % 2), by omega, by omega, by go_num, by first | rfl | go_num, Lib.hid (half_rel hye.out), Lib.hid (inn_rel hxe.out hye.out hE.out), step_rel w E 1 x y (by omega)⟩
              case measure => simp [intOf]
            · go_wp2
              go_roundw
              case rel => exact ⟨2, y / 2, stp E (1 + 1) (x % 2) (y % 2), by omega, by omega, by go_num, by first | rfl | go_num, Lib.hid (half_rel hye.out), Lib.hid (inn_rel hxe.out hye.out hE.out), step_rel w E 2 x y (by omega)⟩
              case measure => simp [intOf]
            · go_wp2
              go_roundw
              case rel => exact ⟨3, y / 2, stp E (1 + 2) (x % 2) (y % 2), by omega, by omega, by go_num, by first | rfl | go_num, Lib.hid (half_rel hye.out), Lib.hid (inn_rel hxe.out hye.out hE.out), step_rel w E 3 x y (by omega)⟩
              case measure => simp [intOf]
            · go_wp2
              go_roundw
              case rel => exact ⟨4, y / 2, stp E (1 + 3) (x % 2) (y % 2), by omega, by omega, by go_num, by first | rfl | go_num, Lib.hid (half_rel hye.out), Lib.hid (inn_rel hxe.out hye.out hE.out), step_rel w E 4 x y (by omega)⟩
              case measure => simp [intOf]
            · go_wp2
              go_roundw
              case rel => exact ⟨5, y / 2, stp E (1 + 4) (x % 2) (y % 2), by omega, by omega, by go_num, by first | rfl | go_num, Lib.hid (half_rel hye.out), Lib.hid (inn_rel hxe.out hye.out hE.out), step_rel w E 5 x y (by omega)⟩
              case measure => simp [intOf]
            · go_wp2
              go_roundw
              case rel => exact ⟨6, y / 2, stp E (1 + 5) (x % 2) (y % 2), by omega, by omega, by go_num, by first | rfl | go_num, Lib.hid (half_rel hye.out), Lib.hid (inn_rel hxe.out hye.out hE.out), step_rel w E 6 x y (by omega)⟩
              case measure => simp [intOf]
            · go_wp2
              go_roundw
              case rel => exact ⟨7, y / 2, stp E (1 + 6) (x % 2) (y % 2), by omega, by omega, by go_num, by first | rfl | go_num, Lib.hid (half_rel hye.out), Lib.hid (inn_rel hxe.out hye.out hE.out), step_rel w E 7 x y (by omega)⟩
              case measure => simp [intOf]
            · go_wp2
              go_roundw
              case rel => exact ⟨8, y / 2, stp E (1 + 7) (x % 2) (y % 2), by omega, by omega, by go_num, by first | rfl | go_num, Lib.hid (half_rel hye.out), Lib.hid (inn_rel hxe.out hye.out hE.out), step_rel w E 8 x y (by omega)⟩
              case measure => simp [intOf]
          · rcases (by omega : k = 0 ∨ k = 1 ∨ k = 2 ∨ k = 3 ∨ k = 4 ∨ k = 5 ∨ k = 6 ∨ k = 7) with rfl | rfl | rfl | rfl | rfl | rfl | rfl | rfl
            · go_wp2
              go_roundw
              case rel => exact ⟨1, y / 2, stp E (2 + 0) (x % 2) (y % 2), by omega, by omega, by go_num, by first | rfl | go_num, Lib.hid (half_rel hye.out), Lib.hid (inn_rel hxe.out hye.out hE.out), step_rel w E 2 x y (by omega)⟩
              case measure => simp [intOf]
            · go_wp2
              go_roundw
              case rel => exact ⟨2, y / 2, stp E (2 + 1) (x % 2) (y % 2), by omega, by omega, by go_num, by first | rfl | go_num, Lib.hid (half_rel hye.out), Lib.hid (inn_rel hxe.out hye.out hE.out), step_rel w E 3 x y (by omega)⟩
              case measure => simp [intOf]
            · go_wp2
              go_roundw
              case rel => exact ⟨3, y / 2, stp E (2 + 2) (x % 2) (y % 2), by omega, by omega, by go_num, by first | rfl | go_num, Lib.hid (half_rel hye.out), Lib.hid (inn_rel hxe.out hye.out hE.out), step_rel w E 4 x y (by omega)⟩
              case measure => simp [intOf]
            · go_wp2
              go_roundw
              case rel => exact ⟨4, y / 2, stp E (2 + 3) (x % 2) (y % 2), by omega, by omega, by go_num, by first | rfl | go_num, Lib.hid (half_rel hye.out), Lib.hid (inn_rel hxe.out hye.out hE.out), step_rel w E 5 x y (by omega)⟩
              case measure => simp [intOf]
            · go_wp2
              go_roundw
              case rel => exact ⟨5, y / 2, stp E (2 + 4) (x % 2) (y % 2), by omega, by omega, by go_num, by first | rfl | go_num, Lib.hid (half_rel hye.out), Lib.hid (inn_rel hxe.out hye.out hE.out), step_rel w E 6 x y (by omega)⟩
              case measure => simp [intOf]
            · go_wp2
              go_roundw
              case rel => exact ⟨6, y / 2, stp E (2 + 5) (x % 2) (y % 2), by omega, by omega, by go_num, by first | rfl | go_num, Lib.hid (half_rel hye.out), Lib.hid (inn_rel hxe.out hye.out hE.out), step_rel w E 7 x y (by omega)⟩
              case measure => simp [intOf]
            · go_wp2
              go_roundw
              case rel => exact ⟨7, y / 2, stp E (2 + 6) (x % 2) (y % 2), by omega, by omega, by go_num, by first | rfl | go_num, Lib.hid (half_rel hye.out), Lib.hid (inn_rel hxe.out hye.out hE.out), step_rel w E 8 x y (by omega)⟩
              case measure => simp [intOf]
            · go_wp2
              go_roundw
              case rel => exact ⟨8, y / 2, stp E (2 + 7) (x % 2) (y % 2), by omega, by omega, by go_num, by first | rfl | go_num, Lib.hid (half_rel hye.out), Lib.hid (inn_rel hxe.out hye.out hE.out), step_rel w E 9 x y (by omega)⟩
              case measure => simp [intOf]
          · rcases (by omega : k = 0 ∨ k = 1 ∨ k = 2 ∨ k = 3 ∨ k = 4 ∨ k = 5 ∨ k = 6 ∨ k = 7) with rfl | rfl | rfl | rfl | rfl | rfl | rfl | rfl
            · go_wp2
              go_roundw
              case rel => exact ⟨1, y / 2, stp E (3 + 0) (x % 2) (y % 2), by omega, by omega, by go_num, by first | rfl | go_num, Lib.hid (half_rel hye.out), Lib.hid (inn_rel hxe.out hye.out hE.out), step_rel w E 3 x y (by omega)⟩
              case measure => simp [intOf]
            · go_wp2
              go_roundw
              case rel => exact ⟨2, y / 2, stp E (3 + 1) (x % 2) (y % 2), by omega, by omega, by go_num, by first | rfl | go_num, Lib.hid (half_rel hye.out), Lib.hid (inn_rel hxe.out hye.out hE.out), step_rel w E 4 x y (by omega)⟩
              case measure => simp [intOf]
            · go_wp2
              go_roundw
              case rel => exact ⟨3, y / 2, stp E (3 + 2) (x % 2) (y % 2), by omega, by omega, by go_num, by first | rfl | go_num, Lib.hid (half_rel hye.out), Lib.hid (inn_rel hxe.out hye.out hE.out), step_rel w E 5 x y (by omega)⟩
              case measure => simp [intOf]
            · go_wp2
              go_roundw
              case rel => exact ⟨4, y / 2, stp E (3 + 3) (x % 2) (y % 2), by omega, by omega, by go_num, by first | rfl | go_num, Lib.hid (half_rel hye.out), Lib.hid (inn_rel hxe.out hye.out hE.out), step_rel w E 6 x y (by omega)⟩
              case measure => simp [intOf]
            · go_wp2
              go_roundw
              case rel => exact ⟨5, y / 2, stp E (3 + 4) (x % 2) (y % 2), by omega, by omega, by go_num, by first | rfl | go_num, Lib.hid (half_rel hye.out), Lib.hid (inn_rel hxe.out hye.out hE.out), step_rel w E 7 x y (by omega)⟩
              case measure => simp [intOf]
            · go_wp2
              go_roundw
              case rel => exact ⟨6, y / 2, stp E (3 + 5) (x % 2) (y % 2), by omega, by omega, by go_num, by first | rfl | go_num, Lib.hid (half_rel hye.out), Lib.hid (inn_rel hxe.out hye.out hE.out), step_rel w E 8 x y (by omega)⟩
              case measure => simp [intOf]
            · go_wp2
              go_roundw
              case rel => exact ⟨7, y / 2, stp E (3 + 6) (x % 2) (y % 2), by omega, by omega, by go_num, by first | rfl | go_num, Lib.hid (half_rel hye.out), Lib.hid (inn_rel hxe.out hye.out hE.out), step_rel w E 9 x y (by omega)⟩
              case measure => simp [intOf]
            · go_wp2
              go_roundw
              case rel => exact ⟨8, y / 2, stp E (3 + 7) (x % 2) (y % 2), by omega, by omega, by go_num, by first | rfl | go_num, Lib.hid (half_rel hye.out), Lib.hid (inn_rel hxe.out hye.out hE.out), step_rel w E 10 x y (by omega)⟩
              case measure => simp [intOf]
          · rcases (by omega : k = 0 ∨ k = 1 ∨ k = 2 ∨ k = 3 ∨ k = 4 ∨ k = 5 ∨ k = 6 ∨ k = 7) with rfl | rfl | rfl | rfl | rfl | rfl | rfl | rfl
            · go_wp2
              go_roundw
              case rel => exact ⟨1, y / 2, stp E (4 + 0) (x % 2) (y % 2), by omega, by omega, by go_num, by first | rfl | go_num, Lib.hid (half_rel hye.out), Lib.hid (inn_rel hxe.out hye.out hE.out), step_rel w E 4 x y (by omega)⟩
              case measure => simp [intOf]
            · go_wp2
              go_roundw
              case rel => exact ⟨2, y / 2, stp E (4 + 1) (x % 2) (y % 2), by omega, by omega, by go_num, by first | rfl | go_num, Lib.hid (half_rel hye.out), Lib.hid (inn_rel hxe.out hye.out hE.out), step_rel w E 5 x y (by omega)⟩
              case measure => simp [intOf]
            · go_wp2
              go_roundw
              case rel => exact ⟨3, y / 2, stp E (4 + 2) (x % 2) (y % 2), by omega, by omega, by go_num, by first | rfl | go_num, Lib.hid (half_rel hye.out), Lib.hid (inn_rel hxe.out hye.out hE.out), step_rel w E 6 x y (by omega)⟩
              case measure => simp [intOf]
            · go_wp2
              go_roundw
              case rel => exact ⟨4, y / 2, stp E (4 + 3) (x % 2) (y % 2), by omega, by omega, by go_num, by first | rfl | go_num, Lib.hid (half_rel hye.out), Lib.hid (inn_rel hxe.out hye.out hE.out), step_rel w E 7 x y (by omega)⟩
              case measure => simp [intOf]
            · go_wp2
              go_roundw
              case rel => exact ⟨5, y / 2, stp E (4 + 4) (x % 2) (y % 2), by omega, by omega, by go_num, by first | rfl | go_num, Lib.hid (half_rel hye.out), Lib.hid (inn_rel hxe.out hye.out hE.out), step_rel w E 8 x y (by omega)⟩
              case measure => simp [intOf]
            · go_wp2
              go_roundw
              case rel => exact ⟨6, y / 2, stp E (4 + 5) (x % 2) (y % 2), by omega, by omega, by go_num, by first | rfl | go_num, Lib.hid (half_rel hye.out), Lib.hid (inn_rel hxe.out hye.out hE.out), step_rel w E 9 x y (by omega)⟩
              case measure => simp [intOf]
            · go_wp2
              go_roundw
              case rel => exact ⟨7, y / 2, stp E (4 + 6) (x % 2) (y % 2), by omega, by omega, by go_num, by first | rfl | go_num, Lib.hid (half_rel hye.out), Lib.hid (inn_rel hxe.out hye.out hE.out), step_rel w E 10 x y (by omega)⟩
              case measure => simp [intOf]
            · go_wp2
              go_roundw
              case rel => exact ⟨8, y / 2, stp E (4 + 7) (x % 2) (y % 2), by omega, by omega, by go_num, by first | rfl | go_num, Lib.hid (half_rel hye.out), Lib.hid (inn_rel hxe.out hye.out hE.out), step_rel w E 11 x y (by omega)⟩
              case measure => simp [intOf]
          · rcases (by omega : k = 0 ∨ k = 1 ∨ k = 2 ∨ k = 3 ∨ k = 4 ∨ k = 5 ∨ k = 6 ∨ k = 7) with rfl | rfl | rfl | rfl | rfl | rfl | rfl | rfl
            · go_wp2
              go_roundw
              case rel => exact ⟨1, y / 2, stp E (5 + 0) (x % 2) (y % 2), by omega, by omega, by go_num, by first | rfl | go_num, Lib.hid (half_rel hye.out), Lib.hid (inn_rel hxe.out hye.out hE.out), step_rel w E 5 x y (by omega)⟩
              case measure => simp [intOf]
            · go_wp2
              go_roundw
              case rel => exact ⟨2, y / 2, stp E (5 + 1) (x % 2) (y % 2), by omega, by omega, by go_num, by first | rfl | go_num, Lib.hid (half_rel hye.out), Lib.hid (inn_rel hxe.out hye.out hE.out), step_rel w E 6 x y (by omega)⟩
              case measure => simp [intOf]
            · go_wp2
              go_roundw
              case rel => exact ⟨3, y / 2, stp E (5 + 2) (x % 2) (y % 2), by omega, by omega, by go_num, by first | rfl | go_num, Lib.hid (half_rel hye.out), Lib.hid (inn_rel hxe.out hye.out hE.out), step_rel w E 7 x y (by omega)⟩
              case measure => simp [intOf]
            · go_wp2
              go_roundw
              case rel => exact ⟨4, y / 2, stp E (5 + 3) (x % 2) (y % 2), by omega, by omega, by go_num, by first | rfl | go_num, Lib.hid (half_rel hye.out), Lib.hid (inn_rel hxe.out hye.out hE.out), step_rel w E 8 x y (by omega)⟩
              case measure => simp [intOf]
            · go_wp2
              go_roundw
              case rel => exact ⟨5, y / 2, stp E (5 + 4) (x % 2) (y % 2), by omega, by omega, by go_num, by first | rfl | go_num, Lib.hid (half_rel hye.out), Lib.hid (inn_rel hxe.out hye.out hE.out), step_rel w E 9 x y (by omega)⟩
              case measure => simp [intOf]
            · go_wp2
              go_roundw
              case rel => exact ⟨6, y / 2, stp E (5 + 5) (x % 2) (y % 2), by omega, by omega, by go_num, by first | rfl | go_num, Lib.hid (half_rel hye.out), Lib.hid (inn_rel hxe.out hye.out hE.out), step_rel w E 10 x y (by omega)⟩
              case measure => simp [intOf]
            · go_wp2
              go_roundw
              case rel => exact ⟨7, y / 2, stp E (5 + 6) (x % 2) (y % 2), by omega, by omega, by go_num, by first | rfl | go_num, Lib.hid (half_rel hye.out), Lib.hid (inn_rel hxe.out hye.out hE.out), step_rel w E 11 x y (by omega)⟩
              case measure => simp [intOf]
            · go_wp2
              go_roundw
              case rel => exact ⟨8, y / 2, stp E (5 + 7) (x % 2) (y % 2), by omega, by omega, by go_num, by first | rfl | go_num, Lib.hid (half_rel hye.out), Lib.hid (inn_rel hxe.out hye.out hE.out), step_rel w E 12 x y (by omega)⟩
              case measure => simp [intOf]
          · rcases (by omega : k = 0 ∨ k = 1 ∨ k = 2 ∨ k = 3 ∨ k = 4 ∨ k = 5 ∨ k = 6 ∨ k = 7) with rfl | rfl | rfl | rfl | rfl | rfl | rfl | rfl
            · go_wp2
              go_roundw
              case rel => exact ⟨1, y / 2, stp E (6 + 0) (x % 2) (y % 2), by omega, by omega, by go_num, by first | rfl | go_num, Lib.hid (half_rel hye.out), Lib.hid (inn_rel hxe.out hye.out hE.out), step_rel w E 6 x y (by omega)⟩
              case measure => simp [intOf]
            · go_wp2
              go_roundw
              case rel => exact ⟨2, y / 2, stp E (6 + 1) (x % 2) (y % 2), by omega, by omega, by go_num, by first | rfl | go_num, Lib.hid (half_rel hye.out), Lib.hid (inn_rel hxe.out hye.out hE.out), step_rel w E 7 x y (by omega)⟩
              case measure => simp [intOf]
            · go_wp2
              go_roundw
              case rel => exact ⟨3, y / 2, stp E (6 + 2) (x % 2) (y % 2), by omega, by omega, by go_num, by first | rfl | go_num, Lib.hid (half_rel hye.out), Lib.hid (inn_rel hxe.out hye.out hE.out), step_rel w E 8 x y (by omega)⟩
              case measure => simp [intOf]
            · go_wp2
              go_roundw
              case rel => exact ⟨4, y / 2, stp E (6 + 3) (x % 2) (y % 2), by omega, by omega, by go_num, by first | rfl | go_num, Lib.hid (half_rel hye.out), Lib.hid (inn_rel hxe.out hye.out hE.out), step_rel w E 9 x y (by omega)⟩
              case measure => simp [intOf]
            · go_wp2
              go_roundw
              case rel => exact ⟨5, y / 2, stp E (6 + 4) (x % 2) (y % 2), by omega, by omega, by go_num, by first | rfl | go_num, Lib.hid (half_rel hye.out), Lib.hid (inn_rel hxe.out hye.out hE.out), step_rel w E 10 x y (by omega)⟩
              case measure => simp [intOf]
            · go_wp2
              go_roundw
              case rel => exact ⟨6, y / 2, stp E (6 + 5) (x % 2) (y % 2), by omega, by omega, by go_num, by first | rfl | go_num, Lib.hid (half_rel hye.out), Lib.hid (inn_rel hxe.out hye.out hE.out), step_rel w E 11 x y (by omega)⟩
              case measure => simp [intOf]
            · go_wp2
              go_roundw
              case rel => exact ⟨7, y / 2, stp E (6 + 6) (x % 2) (y % 2), by omega, by omega, by go_num, by first | rfl | go_num, Lib.hid (half_rel hye.out), Lib.hid (inn_rel hxe.out hye.out hE.out), step_rel w E 12 x y (by omega)⟩
              case measure => simp [intOf]
            · go_wp2
              go_roundw
              case rel => exact ⟨8, y / 2, stp E (6 + 7) (x % 2) (y % 2), by omega, by omega, by go_num, by first | rfl | go_num, Lib.hid (half_rel hye.out), Lib.hid (inn_rel hxe.out hye.out hE.out), step_rel w E 13 x y (by omega)⟩
              case measure => simp [intOf]
          · rcases (by omega : k = 0 ∨ k = 1 ∨ k = 2 ∨ k = 3 ∨ k = 4 ∨ k = 5 ∨ k = 6 ∨ k = 7) with rfl | rfl | rfl | rfl | rfl | rfl | rfl | rfl
            · go_wp2
              go_roundw
              case rel => exact ⟨1, y / 2, stp E (7 + 0) (x % 2) (y % 2), by omega, by omega, by go_num, by first | rfl | go_num, Lib.hid (half_rel hye.out), Lib.hid (inn_rel hxe.out hye.out hE.out), step_rel w E 7 x y (by omega)⟩
              case measure => simp [intOf]
            · go_wp2
              go_roundw
              case rel => exact ⟨2, y / 2, stp E (7 + 1) (x % 2) (y % 2), by omega, by omega, by go_num, by first | rfl | go_num, Lib.hid (half_rel hye.out), Lib.hid (inn_rel hxe.out hye.out hE.out), step_rel w E 8 x y (by omega)⟩
              case measure => simp [intOf]
            · go_wp2
              go_roundw
              case rel => exact ⟨3, y / 2, stp E (7 + 2) (x % 2) (y % 2), by omega, by omega, by go_num, by first | rfl | go_num, Lib.hid (half_rel hye.out), Lib.hid (inn_rel hxe.out hye.out hE.out), step_rel w E 9 x y (by omega)⟩
              case measure => simp [intOf]
            · go_wp2
              go_roundw
              case rel => exact ⟨4, y / 2, stp E (7 + 3) (x % 2) (y % 2), by omega, by omega, by go_num, by first | rfl | go_num, Lib.hid (half_rel hye.out), Lib.hid (inn_rel hxe.out hye.out hE.out), step_rel w E 10 x y (by omega)⟩
              case measure => simp [intOf]
            · go_wp2
              go_roundw
              case rel => exact ⟨5, y / 2, stp E (7 + 4) (x % 2) (y % 2), by omega, by omega, by go_num, by first | rfl | go_num, Lib.hid (half_rel hye.out), Lib.hid (inn_rel hxe.out hye.out hE.out), step_rel w E 11 x y (by omega)⟩
              case measure => simp [intOf]
            · go_wp2
              go_roundw
              case rel => exact ⟨6, y / 2, stp E (7 + 5) (x % 2) (y % 2), by omega, by omega, by go_num, by first | rfl | go_num, Lib.hid (half_rel hye.out), Lib.hid (inn_rel hxe.out hye.out hE.out), step_rel w E 12 x y (by omega)⟩
              case measure => simp [intOf]
            · go_wp2
              go_roundw
              case rel => exact ⟨7, y / 2, stp E (7 + 6) (x % 2) (y % 2), by omega, by omega, by go_num, by first | rfl | go_num, Lib.hid (half_rel hye.out), Lib.hid (inn_rel hxe.out hye.out hE.out), step_rel w E 13 x y (by omega)⟩
              case measure => simp [intOf]
            · go_wp2
              go_roundw
              case rel => exact ⟨8, y / 2, stp E (7 + 7) (x % 2) (y % 2), by omega, by omega, by go_num, by first | rfl | go_num, Lib.hid (half_rel hye.out), Lib.hid (inn_rel hxe.out hye.out hE.out), step_rel w E 14 x y (by omega)⟩
              case measure => simp [intOf]
        · obtain rfl : k = 8 := by omega
          generalize hcc : cellsM E = cc at hw3
          have Hcc := Lib.hid hcc
          clear hcc
          subst hw3
          go_wp2
          go_roundw
          case rel => exact ⟨i + 1, x / 2, by omega, by omega, by go_num, by go_num, Lib.hid (half_rel hxe.out), Lib.hid (by rw [← Hcc.out, hE.out, HD.out]; rfl)⟩
          case measure => simp [intOf]; omega
    · obtain rfl : i = 8 := by omega
      clear hw
      obtain ⟨C0, hC0⟩ : ∃ C0, C0 = clm a b 8 := ⟨_, rfl⟩
      rw [← hC0] at hw2
      have HC0 := Lib.hid hC0
      clear hC0
      generalize hcc : cellsM C0 = cc at hw2
      have Hcc := Lib.hid hcc
      clear hcc
      subst hw2
      go_wp2
      go_loopw [10] (fun v10 wr => ∃ (i C : Nat), 7 ≤ i ∧ i ≤ 14 ∧ v10 = .int .i64 i ∧ Hid (red C (i - 7) = red C0 7) ∧ Hid (wr = w.alloc (.cells (cellsM C) 41))) (fun v10 _ => (intOf v10).toNat)
      case atStart => exact ⟨14, C0, by omega, by omega, rfl, Lib.hid rfl, Lib.hid (by rw [Hcc.out])⟩
      case round =>
        obtain ⟨i, C, hi1, hi2, rfl, hred, hw⟩ := hrel
        have hw3 := hw.out
        clear hw
        by_cases h7 : i = 7
        · subst h7
          unfold cellsM at hw3
          subst hw3
          have b0 := bt1_bd C 0
          have b1 := bt1_bd C 1
          have b2 := bt1_bd C 2
          have b3 := bt1_bd C 3
          have b4 := bt1_bd C 4
          have b5 := bt1_bd C 5
          have b6 := bt1_bd C 6
          have b7 := bt1_bd C 7
          go_wp2
          go_rounds 9
          go_ret
          exact ⟨ret_int (by rw [mul_end]; unfold mulB; rw [← HC0.out, ← hred.out]; rfl), ⟨_, rfl⟩⟩
        · unfold cellsM at hw3
          subst hw3
          rcases (by omega : i = 8 ∨ i = 9 ∨ i = 10 ∨ i = 11 ∨ i = 12 ∨ i = 13 ∨ i = 14) with rfl | rfl | rfl | rfl | rfl | rfl | rfl
          · by_cases hb : C.testBit 8 = true
            · have h1 : bt1 C 8 = 1 := by unfold bt1; rw [if_pos hb]
              have b4 := bt1_bd C 4
              have b3 := bt1_bd C 3
              have b2 := bt1_bd C 2
              have b0 := bt1_bd C 0
              go_wp2
              go_roundw
              case rel => exact ⟨7, flp C 8, by omega, by omega, rfl, Lib.hid (by rw [← hred.out]; rfl), Lib.hid (by simp only [cellsM, fl_ne C 8 1 (by omega) (by omega) (by omega) (by omega) (by omega) hb (by omega) (by omega) (by omega), fl_ne C 8 5 (by omega) (by omega) (by omega) (by omega) (by omega) hb (by omega) (by omega) (by omega), fl_ne C 8 6 (by omega) (by omega) (by omega) (by omega) (by omega) hb (by omega) (by omega) (by omega), fl_ne C 8 7 (by omega) (by omega) (by omega) (by omega) (by omega) hb (by omega) (by omega) (by omega), fl_ne C 8 9 (by omega) (by omega) (by omega) (by omega) (by omega) hb (by omega) (by omega) (by omega), fl_ne C 8 10 (by omega) (by omega) (by omega) (by omega) (by omega) hb (by omega) (by omega) (by omega), fl_ne C 8 11 (by omega) (by omega) (by omega) (by omega) (by omega) hb (by omega) (by omega) (by omega), fl_ne C 8 12 (by omega) (by omega) (by omega) (by omega) (by omega) hb (by omega) (by omega) (by omega), fl_ne C 8 13 (by omega) (by omega) (by omega) (by omega) (by omega) hb (by omega) (by omega) (by omega), fl_ne C 8 14 (by omega) (by omega) (by omega) (by omega) (by omega) hb (by omega) (by omega) (by omega), fl_eq C 8 8 (by omega) hb (by omega) (by omega), fl_eq C 8 4 (by omega) hb (by omega) (by omega), fl_eq C 8 3 (by omega) hb (by omega) (by omega), fl_eq C 8 2 (by omega) hb (by omega) (by omega), fl_eq C 8 0 (by omega) hb (by omega) (by omega), h1]; rfl)⟩
              case measure => simp [intOf]
            · have h1 : bt1 C 8 = 0 := by unfold bt1; rw [if_neg hb]
              go_wp2
              go_roundw
              case rel => exact ⟨7, C, by omega, by omega, rfl, Lib.hid (by rw [← hred.out]; exact (red_no C 0 hb).symm), Lib.hid (by simp only [cellsM, h1])⟩
              case measure => simp [intOf]
          · by_cases hb : C.testBit 9 = true
            · have h1 : bt1 C 9 = 1 := by unfold bt1; rw [if_pos hb]
              have b5 := bt1_bd C 5
              have b4 := bt1_bd C 4
              have b3 := bt1_bd C 3
              have b1 := bt1_bd C 1
              go_wp2
              go_roundw
              case rel => exact ⟨8, flp C 9, by omega, by omega, rfl, Lib.hid (by rw [← hred.out]; rfl), Lib.hid (by simp only [cellsM, fl_ne C 9 0 (by omega) (by omega) (by omega) (by omega) (by omega) hb (by omega) (by omega) (by omega), fl_ne C 9 2 (by omega) (by omega) (by omega) (by omega) (by omega) hb (by omega) (by omega) (by omega), fl_ne C 9 6 (by omega) (by omega) (by omega) (by omega) (by omega) hb (by omega) (by omega) (by omega), fl_ne C 9 7 (by omega) (by omega) (by omega) (by omega) (by omega) hb (by omega) (by omega) (by omega), fl_ne C 9 8 (by omega) (by omega) (by omega) (by omega) (by omega) hb (by omega) (by omega) (by omega), fl_ne C 9 10 (by omega) (by omega) (by omega) (by omega) (by omega) hb (by omega) (by omega) (by omega), fl_ne C 9 11 (by omega) (by omega) (by omega) (by omega) (by omega) hb (by omega) (by omega) (by omega), fl_ne C 9 12 (by omega) (by omega) (by omega) (by omega) (by omega) hb (by omega) (by omega) (by omega), fl_ne C 9 13 (by omega) (by omega) (by omega) (by omega) (by omega) hb (by omega) (by omega) (by omega), fl_ne C 9 14 (by omega) (by omega) (by omega) (by omega) (by omega) hb (by omega) (by omega) (by omega), fl_eq C 9 9 (by omega) hb (by omega) (by omega), fl_eq C 9 5 (by omega) hb (by omega) (by omega), fl_eq C 9 4 (by omega) hb (by omega) (by omega), fl_eq C 9 3 (by omega) hb (by omega) (by omega), fl_eq C 9 1 (by omega) hb (by omega) (by omega), h1]; rfl)⟩
              case measure => simp [intOf]
            · have h1 : bt1 C 9 = 0 := by unfold bt1; rw [if_neg hb]
              go_wp2
              go_roundw
              case rel => exact ⟨8, C, by omega, by omega, rfl, Lib.hid (by rw [← hred.out]; exact (red_no C 1 hb).symm), Lib.hid (by simp only [cellsM, h1])⟩
              case measure => simp [intOf]
          · by_cases hb : C.testBit 10 = true
            · have h1 : bt1 C 10 = 1 := by unfold bt1; rw [if_pos hb]
              have b6 := bt1_bd C 6
              have b5 := bt1_bd C 5
              have b4 := bt1_bd C 4
              have b2 := bt1_bd C 2
              go_wp2
              go_roundw
              case rel => exact ⟨9, flp C 10, by omega, by omega, rfl, Lib.hid (by rw [← hred.out]; rfl), Lib.hid (by simp only [cellsM, fl_ne C 10 0 (by omega) (by omega) (by omega) (by omega) (by omega) hb (by omega) (by omega) (by omega), fl_ne C 10 1 (by omega) (by omega) (by omega) (by omega) (by omega) hb (by omega) (by omega) (by omega), fl_ne C 10 3 (by omega) (by omega) (by omega) (by omega) (by omega) hb (by omega) (by omega) (by omega), fl_ne C 10 7 (by omega) (by omega) (by omega) (by omega) (by omega) hb (by omega) (by omega) (by omega), fl_ne C 10 8 (by omega) (by omega) (by omega) (by omega) (by omega) hb (by omega) (by omega) (by omega), fl_ne C 10 9 (by omega) (by omega) (by omega) (by omega) (by omega) hb (by omega) (by omega) (by omega), fl_ne C 10 11 (by omega) (by omega) (by omega) (by omega) (by omega) hb (by omega) (by omega) (by omega), fl_ne C 10 12 (by omega) (by omega) (by omega) (by omega) (by omega) hb (by omega) (by omega) (by omega), fl_ne C 10 13 (by omega) (by omega) (by omega) (by omega) (by omega) hb (by omega) (by omega) (by omega), fl_ne C 10 14 (by omega) (by omega) (by omega) (by omega) (by omega) hb (by omega) (by omega) (by omega), fl_eq C 10 10 (by omega) hb (by omega) (by omega), fl_eq C 10 6 (by omega) hb (by omega) (by omega), fl_eq C 10 5 (by omega) hb (by omega) (by omega), fl_eq C 10 4 (by omega) hb (by omega) (by omega), fl_eq C 10 2 (by omega) hb (by omega) (by omega), h1]; rfl)⟩
              case measure => simp [intOf]
            · have h1 : bt1 C 10 = 0 := by unfold bt1; rw [if_neg hb]
              go_wp2
              go_roundw
              case rel => exact ⟨9, C, by omega, by omega, rfl, Lib.hid (by rw [← hred.out]; exact (red_no C 2 hb).symm), Lib.hid (by simp only [cellsM, h1])⟩
              case measure => simp [intOf]
          · by_cases hb : C.testBit 11 = true
            · have h1 : bt1 C 11 = 1 := by unfold bt1; rw [if_pos hb]
              have b7 := bt1_bd C 7
              have b6 := bt1_bd C 6
              have b5 := bt1_bd C 5
              have b3 := bt1_bd C 3
              go_wp2
              go_roundw
              case rel => exact ⟨10, flp C 11, by omega, by omega, rfl, Lib.hid (by rw [← hred.out]; rfl), Lib.hid (by simp only [cellsM, fl_ne C 11 0 (by omega) (by omega) (by omega) (by omega) (by omega) hb (by omega) (by omega) (by omega), fl_ne C 11 1 (by omega) (by omega) (by omega) (by omega) (by omega) hb (by omega) (by omega) (by omega), fl_ne C 11 2 (by omega) (by omega) (by omega) (by omega) (by omega) hb (by omega) (by omega) (by omega), fl_ne C 11 4 (by omega) (by omega) (by omega) (by omega) (by omega) hb (by omega) (by omega) (by omega), fl_ne C 11 8 (by omega) (by omega) (by omega) (by omega) (by omega) hb (by omega) (by omega) (by omega), fl_ne C 11 9 (by omega) (by omega) (by omega) (by omega) (by omega) hb (by omega) (by omega) (by omega), fl_ne C 11 10 (by omega) (by omega) (by omega) (by omega) (by omega) hb (by omega) (by omega) (by omega), fl_ne C 11 12 (by omega) (by omega) (by omega) (by omega) (by omega) hb (by omega) (by omega) (by omega), fl_ne C 11 13 (by omega) (by omega) (by omega) (by omega) (by omega) hb (by omega) (by omega) (by omega), fl_ne C 11 14 (by omega) (by omega) (by omega) (by omega) (by omega) hb (by omega) (by omega) (by omega), fl_eq C 11 11 (by omega) hb (by omega) (by omega), fl_eq C 11 7 (by omega) hb (by omega) (by omega), fl_eq C 11 6 (by omega) hb (by omega) (by omega), fl_eq C 11 5 (by omega) hb (by omega) (by omega), fl_eq C 11 3 (by omega) hb (by omega) (by omega), h1]; rfl)⟩
              case measure => simp [intOf]
            · have h1 : bt1 C 11 = 0 := by unfold bt1; rw [if_neg hb]
              go_wp2
              go_roundw
              case rel => exact ⟨10, C, by omega, by omega, rfl, Lib.hid (by rw [← hred.out]; exact (red_no C 3 hb).symm), Lib.hid (by simp only [cellsM, h1])⟩
              case measure => simp [intOf]
          · by_cases hb : C.testBit 12 = true
            · have h1 : bt1 C 12 = 1 := by unfold bt1; rw [if_pos hb]
              have b8 := bt1_bd C 8
              have b7 := bt1_bd C 7
              have b6 := bt1_bd C 6
              have b4 := bt1_bd C 4
              go_wp2
              go_roundw
              case rel => exact ⟨11, flp C 12, by omega, by omega, rfl, Lib.hid (by rw [← hred.out]; rfl), Lib.hid (by simp only [cellsM, fl_ne C 12 0 (by omega) (by omega) (by omega) (by omega) (by omega) hb (by omega) (by omega) (by omega), fl_ne C 12 1 (by omega) (by omega) (by omega) (by omega) (by omega) hb (by omega) (by omega) (by omega), fl_ne C 12 2 (by omega) (by omega) (by omega) (by omega) (by omega) hb (by omega) (by omega) (by omega), fl_ne C 12 3 (by omega) (by omega) (by omega) (by omega) (by omega) hb (by omega) (by omega) (by omega), fl_ne C 12 5 (by omega) (by omega) (by omega) (by omega) (by omega) hb (by omega) (by omega) (by omega), fl_ne C 12 9 (by omega) (by omega) (by omega) (by omega) (by omega) hb (by omega) (by omega) (by omega), fl_ne C 12 10 (by omega) (by omega) (by omega) (by omega) (by omega) hb (by omega) (by omega) (by omega), fl_ne C 12 11 (by omega) (by omega) (by omega) (by omega) (by omega) hb (by omega) (by omega) (by omega), fl_ne C 12 13 (by omega) (by omega) (by omega) (by omega) (by omega) hb (by omega) (by omega) (by omega), fl_ne C 12 14 (by omega) (by omega) (by omega) (by omega) (by omega) hb (by omega) (by omega) (by omega), fl_eq C 12 12 (by omega) hb (by omega) (by omega), fl_eq C 12 8 (by omega) hb (by omega) (by omega), fl_eq C 12 7 (by omega) hb (by omega) (by omega), fl_eq C 12 6 (by omega) hb (by omega) (by omega), fl_eq C 12 4 (by omega) hb (by omega) (by omega), h1]; rfl)⟩
              case measure => simp [intOf]
            · have h1 : bt1 C 12 = 0 := by unfold bt1; rw [if_neg hb]
              go_wp2
              go_roundw
              case rel => exact ⟨11, C, by omega, by omega, rfl, Lib.hid (by rw [← hred.out]; exact (red_no C 4 hb).symm), Lib.hid (by simp only [cellsM, h1])⟩
              case measure => simp [intOf]
          · by_cases hb : C.testBit 13 = true
            · have h1 : bt1 C 13 = 1 := by unfold bt1; rw [if_pos hb]
              have b9 := bt1_bd C 9
              have b8 := bt1_bd C 8
              have b7 := bt1_bd C 7
              have b5 := bt1_bd C 5
              go_wp2
              go_roundw
              case rel => exact ⟨12, flp C 13, by omega, by omega, rfl, Lib.hid (by rw [← hred.out]; rfl), Lib.hid (by simp only [cellsM, fl_ne C 13 0 (by omega) (by omega) (by omega) (by omega) (by omega) hb (by omega) (by omega) (by omega), fl_ne C 13 1 (by omega) (by omega) (by omega) (by omega) (by omega) hb (by omega) (by omega) (by omega), fl_ne C 13 2 (by omega) (by omega) (by omega) (by omega) (by omega) hb (by omega) (by omega) (by omega), fl_ne C 13 3 (by omega) (by omega) (by omega) (by omega) (by omega) hb (by omega) (by omega) (by omega), fl_ne C 13 4 (by omega) (by omega) (by omega) (by omega) (by omega) hb (by omega) (by omega) (by omega), fl_ne C 13 6 (by omega) (by omega) (by omega) (by omega) (by omega) hb (by omega) (by omega) (by omega), fl_ne C 13 10 (by omega) (by omega) (by omega) (by omega) (by omega) hb (by omega) (by omega) (by omega), fl_ne C 13 11 (by omega) (by omega) (by omega) (by omega) (by omega) hb (by omega) (by omega) (by omega), fl_ne C 13 12 (by omega) (by omega) (by omega) (by omega) (by omega) hb (by omega) (by omega) (by omega), fl_ne C 13 14 (by omega) (by omega) (by omega) (by omega) (by omega) hb (by omega) (by omega) (by omega), fl_eq C 13 13 (by omega) hb (by omega) (by omega), fl_eq C 13 9 (by omega) hb (by omega) (by omega), fl_eq C 13 8 (by omega) hb (by omega) (by omega), fl_eq C 13 7 (by omega) hb (by omega) (by omega), fl_eq C 13 5 (by omega) hb (by omega) (by omega), h1]; rfl)⟩
              case measure => simp [intOf]
            · have h1 : bt1 C 13 = 0 := by unfold bt1; rw [if_neg hb]
              go_wp2
              go_roundw
              case rel => exact ⟨12, C, by omega, by omega, rfl, Lib.hid (by rw [← hred.out]; exact (red_no C 5 hb).symm), Lib.hid (by simp only [cellsM, h1])⟩
              case measure => simp [intOf]
          · by_cases hb : C.testBit 14 = true
            · have h1 : bt1 C 14 = 1 := by unfold bt1; rw [if_pos hb]
              have b10 := bt1_bd C 10
              have b9 := bt1_bd C 9
              have b8 := bt1_bd C 8
              have b6 := bt1_bd C 6
              go_wp2
              go_roundw
              case rel => exact ⟨13, flp C 14, by omega, by omega, rfl, Lib.hid (by rw [← hred.out]; rfl), Lib.hid (by simp only [cellsM, fl_ne C 14 0 (by omega) (by omega) (by omega) (by omega) (by omega) hb (by omega) (by omega) (by omega), fl_ne C 14 1 (by omega) (by omega) (by omega) (by omega) (by omega) hb (by omega) (by omega) (by omega), fl_ne C 14 2 (by omega) (by omega) (by omega) (by omega) (by omega) hb (by omega) (by omega) (by omega), fl_ne C 14 3 (by omega) (by omega) (by omega) (by omega) (by omega) hb (by omega) (by omega) (by omega), fl_ne C 14 4 (by omega) (by omega) (by omega) (by omega) (by omega) hb (by omega) (by omega) (by omega), fl_ne C 14 5 (by omega) (by omega) (by omega) (by omega) (by omega) hb (by omega) (by omega) (by omega), fl_ne C 14 7 (by omega) (by omega) (by omega) (by omega) (by omega) hb (by omega) (by omega) (by omega), fl_ne C 14 11 (by omega) (by omega) (by omega) (by omega) (by omega) hb (by omega) (by omega) (by omega), fl_ne C 14 12 (by omega) (by omega) (by omega) (by omega) (by omega) hb (by omega) (by omega) (by omega), fl_ne C 14 13 (by omega) (by omega) (by omega) (by omega) (by omega) hb (by omega) (by omega) (by omega), fl_eq C 14 14 (by omega) hb (by omega) (by omega), fl_eq C 14 10 (by omega) hb (by omega) (by omega), fl_eq C 14 9 (by omega) hb (by omega) (by omega), fl_eq C 14 8 (by omega) hb (by omega) (by omega), fl_eq C 14 6 (by omega) hb (by omega) (by omega), h1]; rfl)⟩
              case measure => simp [intOf]
            · have h1 : bt1 C 14 = 0 := by unfold bt1; rw [if_neg hb]
              go_wp2
              go_roundw
              case rel => exact ⟨13, C, by omega, by omega, rfl, Lib.hid (by rw [← hred.out]; exact (red_no C 6 hb).symm), Lib.hid (by simp only [cellsM, h1])⟩
              case measure => simp [intOf]
end Go.Proofs.Ytfahogbgkjockaa
