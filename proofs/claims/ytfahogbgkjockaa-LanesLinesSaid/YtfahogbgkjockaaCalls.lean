/- What the program's Load comes to. -/
import Derived.Test.YtfahogbgkjockaaVals
import Derived.Test.YtfahogbgkjockaaWalkB
set_option linter.unusedVariables false
namespace Go.Proofs.Ytfahogbgkjockaa
open Go.RowKit Go.Proofs.YtfahogbgkjockaaW.PrintWords Go.Proofs.YtfahogbgkjockaaW.PrintMore
open PLanesTimes
theorem w64_of {x : Int} (h0 : -9223372036854775808 ≤ x) (h1 : x < 9223372036854775808) : wrap64 x = x := by unfold wrap64; omega
/-- The first i bytes. -/
def pre8 (s : ByteArray) (a : Int) : Nat → Nat
  | 0 => 0
  | i + 1 => pre8 s a i + ldB s a i * 256 ^ i
theorem pre8_lt (s : ByteArray) (a : Int) (i : Nat) : pre8 s a i < 256 ^ i := by
  induction i with
  | zero => simp [pre8]
  | succ i ih =>
    have h := ldB_lt s a i
    simp only [pre8, Nat.pow_succ]
    have : ldB s a i * 256 ^ i ≤ 255 * 256 ^ i := Nat.mul_le_mul_right _ (by omega)
    omega
theorem pre8_W (s : ByteArray) (a : Int) : pre8 s a 8 = W (ld8 s a) := by
  simp only [pre8, ld8, W]
  omega
theorem load_step (s : ByteArray) (a : Int) (hs : s.size ≤ 1000) (ha : -9223372036854775808 ≤ a) (ha2 : a < 9223372036854775808) (k i : Nat) (hi : i < 8) :
    lanes_Load.l0 (k + 1) s a (pre8 s a i : Nat) (i : Int) = lanes_Load.l0 k s a (pre8 s a (i + 1) : Nat) ((i + 1 : Nat) : Int) := by
  have e1 : wrap64 (-(i : Int)) = -(i : Int) := w64_of (by omega) (by omega)
  have e2 : wrap64 ((s.size : Int) - i) = (s.size : Int) - i := w64_of (by omega) (by omega)
  have e4 : wrap64 (8 * (i : Int)) = 8 * (i : Int) := w64_of (by omega) (by omega)
  have e5 : wrap64 ((i : Int) + 1) = ((i + 1 : Nat) : Int) := w64_of (by omega) (by omega)
  simp only [lanes_Load.l0]
  rw [if_pos (by omega), e1, e2, e5]
  by_cases h1 : a ≥ -(i : Int)
  · rw [if_pos h1]
    by_cases h2 : a < (s.size : Int) - i
    · have e3 : wrap64 (a + i) = a + i := w64_of (by omega) (by omega)
      rw [if_pos h2, e3, e4, if_pos (by omega), if_pos (by omega), if_pos (by omega)]
      have hb := bt_range s (a + i)
      have hl : (ldB s a i : Int) = bt s (a + i) := by
        unfold ldB
        rw [if_pos (by omega)]
        omega
      have hL := ldB_lt s a i
      have hP := pre8_lt s a i
      have hp : (256 : Nat) ^ i = 2 ^ (8 * i) := by rw [Nat.pow_mul]
      have hle : (256 : Nat) ^ (i + 1) ≤ 256 ^ 8 := Nat.pow_le_pow_right (by omega) (by omega)
      have hm : ldB s a i * 256 ^ i ≤ 255 * 256 ^ i := Nat.mul_le_mul_right _ (by omega)
      have hsz : 256 ^ (i + 1) = 256 ^ i * 256 := Nat.pow_succ ..
      have hsh : shl .u64 (IntKind.u64.wrap (bt s (a + i))) (8 * (i : Int)) = ((ldB s a i * 256 ^ i : Nat) : Int) := by
        unfold shl
        rw [← hl, wrap_u64_of (by omega), show (8 * (i : Int)).toNat = 8 * i by omega, show IntKind.bits .u64 = 64 from rfl, Nat.min_eq_left (by omega)]
        rw [show ((ldB s a i : Int) * 2 ^ (8 * i)) = ((ldB s a i * 256 ^ i : Nat) : Int) by rw [hp, Int.natCast_mul, Int.natCast_pow]; rfl]
        exact wrap_u64_of (by omega)
      rw [hsh, bits_or_u64 _ _ (by omega) (by omega)]
      congr 2
      rw [Nat.or_comm, hp, Nat.mul_comm, ← Nat.two_pow_add_eq_or_of_lt (by rw [← hp]; exact hP)]
      simp only [pre8]
      rw [hp, Nat.mul_comm (2 ^ (8 * i)), Nat.add_comm]
    · rw [if_neg h2]
      have : ldB s a i = 0 := by unfold ldB; rw [if_neg (by omega)]
      simp only [pre8, this]
      simp
  · rw [if_neg h1]
    have : ldB s a i = 0 := by unfold ldB; rw [if_neg (by omega)]
    simp only [pre8, this]
    simp
theorem load_W (s : ByteArray) (a : Int) (hs : s.size ≤ 1000) (ha : -9223372036854775808 ≤ a) (ha2 : a < 9223372036854775808) :
    lanes_Load.f 9 s a = some ((W (ld8 s a) : Nat) : Int) := by
  have st := load_step s a hs ha ha2
  have h0 := st 8 0 (by omega)
  rw [st 7 1 (by omega), st 6 2 (by omega), st 5 3 (by omega), st 4 4 (by omega), st 3 5 (by omega), st 2 6 (by omega), st 1 7 (by omega)] at h0
  simp only [lanes_Load.f]
  refine h0.trans ?_
  simp only [lanes_Load.l0]
  rw [if_neg (by omega), pre8_W]
theorem load_calls (s : ByteArray) (a : Int) (w : World) (hs : s.size ≤ 1000) (ha : -9223372036854775808 ≤ a) (ha2 : a < 9223372036854775808) :
    Calls Try.prog 10 #[.string s, .int .i64 a] w fun e w' => e = .returned (.int .u64 (W (ld8 s a) : Nat)) ∧ Drawn0 w w' :=
  lanes_Load.calls 9 s a _ w (load_W s a hs ha ha2)
theorem twice_calls (l : List Nat) (w : World) (h : By l) (h8 : l.length = 8) :
    Calls Try.prog 14 #[.int .u64 (W l : Nat)] w fun e w' => e = .returned (.int .u64 (W (l.map tw) : Nat)) ∧ Drawn0 w w' :=
  lanes_Twice.calls _ _ w (twice_W l h h8)
theorem half_calls (l : List Nat) (w : World) (h : By l) (h8 : l.length = 8) :
    Calls Try.prog 13 #[.int .u64 (W l : Nat)] w fun e w' => e = .returned (.int .u64 (W (l.map hf) : Nat)) ∧ Drawn0 w w' :=
  lanes_Half.calls _ _ w (half_W l h h8)
theorem times_calls (l : List Nat) (c : Nat) (w : World) (h : By l) (h8 : l.length = 8) (hc : c < 256) :
    Calls Try.prog 20 #[.int .u64 (W l : Nat), .int .u8 c] w fun e w' => e = .returned (.int .u64 (W (l.map fun b => tmB 8 b c 0) : Nat)) ∧ Drawn0 w w' :=
  lanes_Times.calls 9 _ _ _ w (times_W l c h h8 hc)
theorem high_calls (l : List Nat) (w : World) (h : By l) (h8 : l.length = 8) :
    Calls Try.prog 18 #[.int .u64 (W l : Nat)] w fun e w' => e = .returned (.int .u64 (W (l.map hi8) : Nat)) ∧ Drawn0 w w' :=
  PLanesStores.lanes_High.calls _ _ w (high_W l h h8)
theorem spread_calls (b : Nat) (w : World) (hb : b < 256) :
    Calls Try.prog 16 #[.int .u8 b] w fun e w' => e = .returned (.int .u64 (W [b, b, b, b, b, b, b, b] : Nat)) ∧ Drawn0 w w' := by
  refine PLanesStores.lanes_Spread.calls _ _ w ?_
  simp only [PLanesStores.lanes_Spread.f]
  rw [wrap_u64_of (by omega), show (72340172838076673 * (b : Int)) = ((W [b, b, b, b, b, b, b, b] : Nat) : Int) by simp only [W]; omega, wrap_u64_of (by simp only [W]; omega)]
theorem store_calls (l : List Nat) (w : World) (h : By l) (h8 : l.length = 8) :
    Calls Try.prog 12 #[.int .u64 (W l : Nat)] w fun e w' => e = .returned (.string (strOfNums (l.map fun b : Nat => (b : Int)))) ∧ ∃ o, w' = w.alloc o := by
  obtain ⟨b0, b1, b2, b3, b4, b5, b6, b7, rfl⟩ := list8 l h8
  have i0 := h b0 (by simp)
  have i1 := h b1 (by simp)
  have i2 := h b2 (by simp)
  have i3 := h b3 (by simp)
  have i4 := h b4 (by simp)
  have i5 := h b5 (by simp)
  have i6 := h b6 (by simp)
  have i7 := h b7 (by simp)
  refine (store_calls0 _ w).mono ?_
  rintro e w' ⟨rfl, o, rfl⟩
  refine ⟨?_, o, rfl⟩
  congr 3
  simp only [W, List.map, List.cons.injEq, and_true]
  omega
end Go.Proofs.Ytfahogbgkjockaa
