/- Walks of the reference's functions on words (Bytes, Word, Times) and of the program's Store. -/
import Derived.Test.YtfahogbgkjockaaMul
import Derived.Test.YtfahogbgkjockaaWords
import Derived.Test.YtfahogbgkjockaaWWords
import Derived.Handy
import Derived.Lib.Hide
namespace Go.Proofs.Ytfahogbgkjockaa
open Go.RowKit Go.Proofs.YtfahogbgkjockaaW.PrintWords
theorem run_bytes8 (c0 c1 c2 c3 c4 c5 c6 c7 : Int) (w : World) : Sem.run Try.prog (convert 31 9 (Value.slice (some { block := w.heap.size, off := 0 }) 8 8)) (w.alloc (Obj.cells #[.int .u8 c0, .int .u8 c1, .int .u8 c2, .int .u8 c3, .int .u8 c4, .int .u8 c5, .int .u8 c6, .int .u8 c7] 29)) = .ok (.string (strOfNums [c0, c1, c2, c3, c4, c5, c6, c7])) (w.alloc (Obj.cells #[.int .u8 c0, .int .u8 c1, .int .u8 c2, .int .u8 c3, .int .u8 c4, .int .u8 c5, .int .u8 c6, .int .u8 c7] 29)) := by
  refine run_convert_bytes_arg _ 31 5 Try.underlying31 Try.underlying5 _ 0 8 8 [c0, c1, c2, c3, c4, c5, c6, c7] rfl ?_ 9 Try.underlying9
  intro i hi
  rcases (by omega : i = 0 ∨ i = 1 ∨ i = 2 ∨ i = 3 ∨ i = 4 ∨ i = 5 ∨ i = 6 ∨ i = 7) with rfl | rfl | rfl | rfl | rfl | rfl | rfl | rfl <;> simp [go_sem]
set_option maxHeartbeats 4000000 in
set_option maxRecDepth 100000 in
theorem store_calls0 (x : Int) (w : World) :
    Calls Try.prog 12 #[.int .u64 x] w fun e w' => e = .returned (.string (strOfNums [x % 256, x / 256 % 256, x / 65536 % 256, x / 16777216 % 256, x / 4294967296 % 256, x / 1099511627776 % 256, x / 281474976710656 % 256, x / 72057594037927936 % 256])) ∧ ∃ o, w' = w.alloc o := by
  have hcv := run_bytes8
  go_enter Try.func12, Try.ntmps12
  go_wp2
  go_rounds 9
  go_ret
  exact ⟨rfl, _, rfl⟩
/-- A word's eight bytes as a Go value. -/
def arr8 (l : List Nat) : Value := .agg #[.int .u8 (l.getD 0 0 : Nat), .int .u8 (l.getD 1 0 : Nat), .int .u8 (l.getD 2 0 : Nat), .int .u8 (l.getD 3 0 : Nat), .int .u8 (l.getD 4 0 : Nat), .int .u8 (l.getD 5 0 : Nat), .int .u8 (l.getD 6 0 : Nat), .int .u8 (l.getD 7 0 : Nat)]
set_option maxHeartbeats 4000000 in
set_option maxRecDepth 100000 in
theorem bytes_calls0 (x : Int) (w : World) (hx0 : 0 ≤ x) (hx1 : x < 18446744073709551616) :
    Calls Try.prog 15 #[.int .u64 x] w fun e w' => e = .returned (.agg #[.int .u8 (x % 256), .int .u8 (x / 256 % 256), .int .u8 (x / 256 / 256 % 256), .int .u8 (x / 256 / 256 / 256 % 256), .int .u8 (x / 256 / 256 / 256 / 256 % 256), .int .u8 (x / 256 / 256 / 256 / 256 / 256 % 256), .int .u8 (x / 256 / 256 / 256 / 256 / 256 / 256 % 256), .int .u8 (x / 256 / 256 / 256 / 256 / 256 / 256 / 256 % 256)]) ∧ ∃ o p, w' = (w.alloc o).alloc p := by
  go_enter Try.func15, Try.ntmps15
  go_wp2
  go_rounds 9
  refine bodyPost_ret (v := .agg #[.int .u8 (x % 256), .int .u8 (x / 256 % 256), .int .u8 (x / 256 / 256 % 256), .int .u8 (x / 256 / 256 / 256 % 256), .int .u8 (x / 256 / 256 / 256 / 256 % 256), .int .u8 (x / 256 / 256 / 256 / 256 / 256 % 256), .int .u8 (x / 256 / 256 / 256 / 256 / 256 / 256 % 256), .int .u8 (x / 256 / 256 / 256 / 256 / 256 / 256 / 256 % 256)]) ?_ rfl ⟨rfl, _, _, rfl⟩
  simp [results, Try.results15, go_sem]
theorem bytes_calls (l : List Nat) (w : World) (h : By l) (h8 : l.length = 8) :
    Calls Try.prog 15 #[.int .u64 (W l : Nat)] w fun e w' => e = .returned (arr8 l) ∧ ∃ o p, w' = (w.alloc o).alloc p := by
  have hl := W8_lt h h8
  refine (bytes_calls0 (W l : Nat) w (by omega) (by omega)).mono ?_
  rintro e w' ⟨rfl, o, p, rfl⟩
  refine ⟨?_, o, p, rfl⟩
  match l, h8, h with
  | [b0, b1, b2, b3, b4, b5, b6, b7], _, h =>
    have i0 := h b0 (by simp)
    have i1 := h b1 (by simp)
    have i2 := h b2 (by simp)
    have i3 := h b3 (by simp)
    have i4 := h b4 (by simp)
    have i5 := h b5 (by simp)
    have i6 := h b6 (by simp)
    have i7 := h b7 (by simp)
    simp [arr8, W]
    omega
set_option maxHeartbeats 4000000 in
set_option maxRecDepth 100000 in
theorem word_calls0 (b0 b1 b2 b3 b4 b5 b6 b7 : Int) (w : World) (h0 : 0 ≤ b0 ∧ b0 < 256) (h1 : 0 ≤ b1 ∧ b1 < 256) (h2 : 0 ≤ b2 ∧ b2 < 256) (h3 : 0 ≤ b3 ∧ b3 < 256) (h4 : 0 ≤ b4 ∧ b4 < 256) (h5 : 0 ≤ b5 ∧ b5 < 256) (h6 : 0 ≤ b6 ∧ b6 < 256) (h7 : 0 ≤ b7 ∧ b7 < 256) :
    Calls Try.prog 17 #[.agg #[.int .u8 b0, .int .u8 b1, .int .u8 b2, .int .u8 b3, .int .u8 b4, .int .u8 b5, .int .u8 b6, .int .u8 b7]] w fun e w' => e = .returned (.int .u64 (256 * (256 * (256 * (256 * (256 * (256 * (256 * b7 + b6) + b5) + b4) + b3) + b2) + b1) + b0)) ∧ ∃ o, w' = w.alloc o := by
  go_enter Try.func17, Try.ntmps17
  go_wp2
  go_rounds 9
  go_ret
  exact ⟨rfl, _, rfl⟩
theorem word_calls (l : List Nat) (w : World) (h : By l) (h8 : l.length = 8) :
    Calls Try.prog 17 #[arr8 l] w fun e w' => e = .returned (.int .u64 (W l : Nat)) ∧ ∃ o, w' = w.alloc o := by
  match l, h8, h with
  | [b0, b1, b2, b3, b4, b5, b6, b7], _, h =>
    have i0 := h b0 (by simp)
    have i1 := h b1 (by simp)
    have i2 := h b2 (by simp)
    have i3 := h b3 (by simp)
    have i4 := h b4 (by simp)
    have i5 := h b5 (by simp)
    have i6 := h b6 (by simp)
    have i7 := h b7 (by simp)
    refine (word_calls0 b0 b1 b2 b3 b4 b5 b6 b7 w (by omega) (by omega) (by omega) (by omega) (by omega) (by omega) (by omega) (by omega)).mono ?_
    rintro e w' ⟨rfl, o, rfl⟩
    refine ⟨ret_int ?_, o, rfl⟩
    simp only [W]
    omega
theorem mulB_lt (b c : Nat) : mulB b c < 256 := Nat.mod_lt _ (by omega)
theorem list8 (l : List Nat) (h8 : l.length = 8) : ∃ b0 b1 b2 b3 b4 b5 b6 b7, l = [b0, b1, b2, b3, b4, b5, b6, b7] := by
  match l, h8 with
  | [b0, b1, b2, b3, b4, b5, b6, b7], _ => exact ⟨_, _, _, _, _, _, _, _, rfl⟩
set_option maxHeartbeats 8000000 in
set_option maxRecDepth 100000 in
theorem rtimes_calls0 (b0 b1 b2 b3 b4 b5 b6 b7 : Nat) (c : Nat) (w : World) (h : By [b0, b1, b2, b3, b4, b5, b6, b7]) (hc : c < 256) :
    Calls Try.prog 21 #[.int .u64 (W [b0, b1, b2, b3, b4, b5, b6, b7] : Nat), .int .u8 c] w fun e w' => e = .returned (.int .u64 (W [mulB b0 c, mulB b1 c, mulB b2 c, mulB b3 c, mulB b4 c, mulB b5 c, mulB b6 c, mulB b7 c] : Nat)) ∧ Below w.heap.size w w' := by
  have hb := bytes_calls [b0, b1, b2, b3, b4, b5, b6, b7] w h rfl
  simp only [arr8, List.getD_cons_zero, List.getD_cons_succ] at hb
  have i0 := h b0 (by simp)
  have i1 := h b1 (by simp)
  have i2 := h b2 (by simp)
  have i3 := h b3 (by simp)
  have i4 := h b4 (by simp)
  have i5 := h b5 (by simp)
  have i6 := h b6 (by simp)
  have i7 := h b7 (by simp)
  generalize hX : ((W [b0, b1, b2, b3, b4, b5, b6, b7] : Nat) : Int) = X at *
  clear hX
  go_enter Try.func21, Try.ntmps21
  go_wp2_with fail
  refine hb.mono ?_
  rintro e w' ⟨rfl, o, p, rfl⟩
  clear hb
  go_wp2_with fail
  refine wp_loop_rounds 9 ?_
  rw [rounds_succ]
  go_wp2_with fail
  refine (mul_calls b0 c _ i0 hc).mono ?_
  rintro e w' ⟨rfl, o0, rfl⟩
  go_wp2_with fail
  rw [rounds_succ]
  go_wp2_with fail
  refine (mul_calls b1 c _ i1 hc).mono ?_
  rintro e w' ⟨rfl, o1, rfl⟩
  go_wp2_with fail
  rw [rounds_succ]
  go_wp2_with fail
  refine (mul_calls b2 c _ i2 hc).mono ?_
  rintro e w' ⟨rfl, o2, rfl⟩
  go_wp2_with fail
  rw [rounds_succ]
  go_wp2_with fail
  refine (mul_calls b3 c _ i3 hc).mono ?_
  rintro e w' ⟨rfl, o3, rfl⟩
  go_wp2_with fail
  rw [rounds_succ]
  go_wp2_with fail
  refine (mul_calls b4 c _ i4 hc).mono ?_
  rintro e w' ⟨rfl, o4, rfl⟩
  go_wp2_with fail
  rw [rounds_succ]
  go_wp2_with fail
  refine (mul_calls b5 c _ i5 hc).mono ?_
  rintro e w' ⟨rfl, o5, rfl⟩
  go_wp2_with fail
  rw [rounds_succ]
  go_wp2_with fail
  refine (mul_calls b6 c _ i6 hc).mono ?_
  rintro e w' ⟨rfl, o6, rfl⟩
  go_wp2_with fail
  rw [rounds_succ]
  go_wp2_with fail
  refine (mul_calls b7 c _ i7 hc).mono ?_
  rintro e w' ⟨rfl, o7, rfl⟩
  go_wp2_with fail
  rw [rounds_succ]
  go_wp2_with fail
  refine (word_calls [mulB b0 c, mulB b1 c, mulB b2 c, mulB b3 c, mulB b4 c, mulB b5 c, mulB b6 c, mulB b7 c] _ (h.map (f := fun b => mulB b c) (fun b _ => mulB_lt b c)) rfl).mono ?_
  rintro e w' ⟨rfl, o8, rfl⟩
  go_wp2_with fail
  go_ret
  exact ⟨rfl, by go_grown⟩
theorem rtimes_calls (l : List Nat) (c : Nat) (w : World) (h : By l) (h8 : l.length = 8) (hc : c < 256) :
    Calls Try.prog 21 #[.int .u64 (W l : Nat), .int .u8 c] w fun e w' => e = .returned (.int .u64 (W (l.map fun b => mulB b c) : Nat)) ∧ Below w.heap.size w w' := by
  obtain ⟨b0, b1, b2, b3, b4, b5, b6, b7, rfl⟩ := list8 l h8
  exact rtimes_calls0 _ _ _ _ _ _ _ _ c w h hc
end Go.Proofs.Ytfahogbgkjockaa
