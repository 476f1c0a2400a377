/- Walks of the reference's High and Load. -/
import Derived.Test.YtfahogbgkjockaaWalkA
namespace Go.Proofs.Ytfahogbgkjockaa
open Go.RowKit Go.Proofs.YtfahogbgkjockaaW.PrintWords
def ldB (s : ByteArray) (a : Int) (i : Nat) : Nat := if 0 ≤ a + i ∧ a + i < s.size then (bt s (a + i)).toNat else 0
def ld8 (s : ByteArray) (a : Int) : List Nat := [ldB s a 0, ldB s a 1, ldB s a 2, ldB s a 3, ldB s a 4, ldB s a 5, ldB s a 6, ldB s a 7]
theorem ldB_lt (s : ByteArray) (a : Int) (i : Nat) : ldB s a i < 256 := by
  unfold ldB
  have := bt_range s (a + i)
  split <;> omega
theorem ld8_by (s : ByteArray) (a : Int) : By (ld8 s a) := by
  intro b hb
  simp only [ld8, List.mem_cons, List.not_mem_nil, or_false] at hb
  rcases hb with rfl | rfl | rfl | rfl | rfl | rfl | rfl | rfl <;> exact ldB_lt _ _ _

/-- Byte j behind i rounds of a loop. -/
def upto (f z : List Nat) (i j : Nat) : Int := if j < i then (f.getD j 0 : Int) else (z.getD j 0 : Int)
def cellsU (f z : List Nat) (i : Nat) : Array Value := #[.int .u8 (upto f z i 0), .int .u8 (upto f z i 1), .int .u8 (upto f z i 2), .int .u8 (upto f z i 3), .int .u8 (upto f z i 4), .int .u8 (upto f z i 5), .int .u8 (upto f z i 6), .int .u8 (upto f z i 7)]
theorem upto_done (f z : List Nat) (i j : Nat) (h : j < i) : upto f z i j = (f.getD j 0 : Int) := if_pos h
theorem upto_not (f z : List Nat) (i j : Nat) (h : ¬ j < i) : upto f z i j = (z.getD j 0 : Int) := if_neg h
def hi8 (b : Nat) : Nat := b / 128 * 255
set_option maxHeartbeats 8000000 in
set_option maxRecDepth 100000 in
theorem rhigh_calls0 (b0 b1 b2 b3 b4 b5 b6 b7 : Nat) (w : World) (h : By [b0, b1, b2, b3, b4, b5, b6, b7]) :
    Calls Try.prog 19 #[.int .u64 (W [b0, b1, b2, b3, b4, b5, b6, b7] : Nat)] w fun e w' => e = .returned (.int .u64 (W ([b0, b1, b2, b3, b4, b5, b6, b7].map hi8) : Nat)) ∧ Below w.heap.size w w' := by
  have hb := bytes_calls [b0, b1, b2, b3, b4, b5, b6, b7] w h rfl
  simp only [arr8, List.getD_cons_zero, List.getD_cons_succ] at hb
  have i0 := h b0 (by simp)
  have i1 := h b1 (by simp)
  have i2 := h b2 (by simp)
  have i3 := h b3 (by simp)
  have i4 := h b4 (by simp)
  have i5 := h b5 (by simp)
  have i6 := h b6 (by simp)
  have i7 := h b7 (by simp)
  have hwd := fun (w : World) => word_calls ([b0, b1, b2, b3, b4, b5, b6, b7].map hi8) w (h.map (fun b hb => by unfold hi8; omega)) rfl
  have Hwd := Lib.hid hwd
  clear hwd
  generalize hF : [b0, b1, b2, b3, b4, b5, b6, b7].map hi8 = F at Hwd ⊢
  have HF := Lib.hid hF
  clear hF
  generalize hX : ((W [b0, b1, b2, b3, b4, b5, b6, b7] : Nat) : Int) = X at *
  clear hX
  go_enter Try.func19, Try.ntmps19
  go_wp2_with fail
  refine hb.mono ?_
  rintro e w' ⟨rfl, o, p, rfl⟩
  clear hb
  go_wp2_with fail
  go_loopw [4] (fun v4 wr => ∃ (i : Nat), i ≤ 8 ∧ v4 = .int .i64 i ∧ Hid (wr = ((w.alloc o).alloc p).alloc (.cells (cellsU F [b0, b1, b2, b3, b4, b5, b6, b7] i) 29))) (fun v4 _ => 8 - (intOf v4).toNat)
  case atStart => exact ⟨0, by omega, rfl, Lib.hid rfl⟩
  case round =>
    obtain ⟨i, hi, rfl, hw⟩ := hrel
    have hw2 := hw.out
    clear hw
    by_cases hlt : i < 8
    · unfold cellsU at hw2
      rcases (by omega : i = 0 ∨ i = 1 ∨ i = 2 ∨ i = 3 ∨ i = 4 ∨ i = 5 ∨ i = 6 ∨ i = 7) with rfl | rfl | rfl | rfl | rfl | rfl | rfl | rfl
      · simp only [upto_not F [b0, b1, b2, b3, b4, b5, b6, b7] 0 0 (by omega), upto_not F [b0, b1, b2, b3, b4, b5, b6, b7] 0 1 (by omega), upto_not F [b0, b1, b2, b3, b4, b5, b6, b7] 0 2 (by omega), upto_not F [b0, b1, b2, b3, b4, b5, b6, b7] 0 3 (by omega), upto_not F [b0, b1, b2, b3, b4, b5, b6, b7] 0 4 (by omega), upto_not F [b0, b1, b2, b3, b4, b5, b6, b7] 0 5 (by omega), upto_not F [b0, b1, b2, b3, b4, b5, b6, b7] 0 6 (by omega), upto_not F [b0, b1, b2, b3, b4, b5, b6, b7] 0 7 (by omega), List.getD_cons_zero, List.getD_cons_succ] at hw2
        subst hw2
        by_cases hc : 128 ≤ b0
        · have Hq : Hid (b0 / 128 * 255 = 255) := Lib.hid (by omega)
          go_wp2
          go_roundw
          case rel => exact ⟨1, by omega, rfl, Lib.hid (by simp [cellsU, upto, ← HF.out, hi8, Hq.out])⟩
          case measure => simp [intOf]
        · have Hq : Hid (b0 / 128 * 255 = 0) := Lib.hid (by omega)
          go_wp2
          go_roundw
          case rel => exact ⟨1, by omega, rfl, Lib.hid (by simp [cellsU, upto, ← HF.out, hi8, Hq.out])⟩
          case measure => simp [intOf]
      · simp only [upto_done F [b0, b1, b2, b3, b4, b5, b6, b7] 1 0 (by omega), upto_not F [b0, b1, b2, b3, b4, b5, b6, b7] 1 1 (by omega), upto_not F [b0, b1, b2, b3, b4, b5, b6, b7] 1 2 (by omega), upto_not F [b0, b1, b2, b3, b4, b5, b6, b7] 1 3 (by omega), upto_not F [b0, b1, b2, b3, b4, b5, b6, b7] 1 4 (by omega), upto_not F [b0, b1, b2, b3, b4, b5, b6, b7] 1 5 (by omega), upto_not F [b0, b1, b2, b3, b4, b5, b6, b7] 1 6 (by omega), upto_not F [b0, b1, b2, b3, b4, b5, b6, b7] 1 7 (by omega), List.getD_cons_zero, List.getD_cons_succ] at hw2
        subst hw2
        by_cases hc : 128 ≤ b1
        · have Hq : Hid (b1 / 128 * 255 = 255) := Lib.hid (by omega)
          go_wp2
          go_roundw
          case rel => exact ⟨2, by omega, rfl, Lib.hid (by simp [cellsU, upto, ← HF.out, hi8, Hq.out])⟩
          case measure => simp [intOf]
        · have Hq : Hid (b1 / 128 * 255 = 0) := Lib.hid (by omega)
          go_wp2
          go_roundw
          case rel => exact ⟨2, by omega, rfl, Lib.hid (by simp [cellsU, upto, ← HF.out, hi8, Hq.out])⟩
          case measure => simp [intOf]
      · simp only [upto_done F [b0, b1, b2, b3, b4, b5, b6, b7] 2 0 (by omega), upto_done F [b0, b1, b2, b3, b4, b5, b6, b7] 2 1 (by omega), upto_not F [b0, b1, b2, b3, b4, b5, b6, b7] 2 2 (by omega), upto_not F [b0, b1, b2, b3, b4, b5, b6, b7] 2 3 (by omega), upto_not F [b0, b1, b2, b3, b4, b5, b6, b7] 2 4 (by omega), upto_not F [b0, b1, b2, b3, b4, b5, b6, b7] 2 5 (by omega), upto_not F [b0, b1, b2, b3, b4, b5, b6, b7] 2 6 (by omega), upto_not F [b0, b1, b2, b3, b4, b5, b6, b7] 2 7 (by omega), List.getD_cons_zero, List.getD_cons_succ] at hw2
        subst hw2
        by_cases hc : 128 ≤ b2
        · have Hq : Hid (b2 / 128 * 255 = 255) := Lib.hid (by omega)
          go_wp2
          go_roundw
          case rel => exact ⟨3, by omega, rfl, Lib.hid (by simp [cellsU, upto, ← HF.out, hi8, Hq.out])⟩
          case measure => simp [intOf]
        · have Hq : Hid (b2 / 128 * 255 = 0) := Lib.hid (by omega)
          go_wp2
          go_roundw
          case rel => exact ⟨3, by omega, rfl, Lib.hid (by simp [cellsU, upto, ← HF.out, hi8, Hq.out])⟩
          case measure => simp [intOf]
      · simp only [upto_done F [b0, b1, b2, b3, b4, b5, b6, b7] 3 0 (by omega), upto_done F [b0, b1, b2, b3, b4, b5, b6, b7] 3 1 (by omega), upto_done F [b0, b1, b2, b3, b4, b5, b6, b7] 3 2 (by omega), upto_not F [b0, b1, b2, b3, b4, b5, b6, b7] 3 3 (by omega), upto_not F [b0, b1, b2, b3, b4, b5, b6, b7] 3 4 (by omega), upto_not F [b0, b1, b2, b3, b4, b5, b6, b7] 3 5 (by omega), upto_not F [b0, b1, b2, b3, b4, b5, b6, b7] 3 6 (by omega), upto_not F [b0, b1, b2, b3, b4, b5, b6, b7] 3 7 (by omega), List.getD_cons_zero, List.getD_cons_succ] at hw2
        subst hw2
        by_cases hc : 128 ≤ b3
        · have Hq : Hid (b3 / 128 * 255 = 255) := Lib.hid (by omega)
          go_wp2
          go_roundw
          case rel => exact ⟨4, by omega, rfl, Lib.hid (by simp [cellsU, upto, ← HF.out, hi8, Hq.out])⟩
          case measure => simp [intOf]
        · have Hq : Hid (b3 / 128 * 255 = 0) := Lib.hid (by omega)
          go_wp2
          go_roundw
          case rel => exact ⟨4, by omega, rfl, Lib.hid (by simp [cellsU, upto, ← HF.out, hi8, Hq.out])⟩
          case measure => simp [intOf]
      · simp only [upto_done F [b0, b1, b2, b3, b4, b5, b6, b7] 4 0 (by omega), upto_done F [b0, b1, b2, b3, b4, b5, b6, b7] 4 1 (by omega), upto_done F [b0, b1, b2, b3, b4, b5, b6, b7] 4 2 (by omega), upto_done F [b0, b1, b2, b3, b4, b5, b6, b7] 4 3 (by omega), upto_not F [b0, b1, b2, b3, b4, b5, b6, b7] 4 4 (by omega), upto_not F [b0, b1, b2, b3, b4, b5, b6, b7] 4 5 (by omega), upto_not F [b0, b1, b2, b3, b4, b5, b6, b7] 4 6 (by omega), upto_not F [b0, b1, b2, b3, b4, b5, b6, b7] 4 7 (by omega), List.getD_cons_zero, List.getD_cons_succ] at hw2
        subst hw2
        by_cases hc : 128 ≤ b4
        · have Hq : Hid (b4 / 128 * 255 = 255) := Lib.hid (by omega)
          go_wp2
          go_roundw
          case rel => exact ⟨5, by omega, rfl, Lib.hid (by simp [cellsU, upto, ← HF.out, hi8, Hq.out])⟩
          case measure => simp [intOf]
        · have Hq : Hid (b4 / 128 * 255 = 0) := Lib.hid (by omega)
          go_wp2
          go_roundw
          case rel => exact ⟨5, by omega, rfl, Lib.hid (by simp [cellsU, upto, ← HF.out, hi8, Hq.out])⟩
          case measure => simp [intOf]
      · simp only [upto_done F [b0, b1, b2, b3, b4, b5, b6, b7] 5 0 (by omega), upto_done F [b0, b1, b2, b3, b4, b5, b6, b7] 5 1 (by omega), upto_done F [b0, b1, b2, b3, b4, b5, b6, b7] 5 2 (by omega), upto_done F [b0, b1, b2, b3, b4, b5, b6, b7] 5 3 (by omega), upto_done F [b0, b1, b2, b3, b4, b5, b6, b7] 5 4 (by omega), upto_not F [b0, b1, b2, b3, b4, b5, b6, b7] 5 5 (by omega), upto_not F [b0, b1, b2, b3, b4, b5, b6, b7] 5 6 (by omega), upto_not F [b0, b1, b2, b3, b4, b5, b6, b7] 5 7 (by omega), List.getD_cons_zero, List.getD_cons_succ] at hw2
        subst hw2
        by_cases hc : 128 ≤ b5
        · have Hq : Hid (b5 / 128 * 255 = 255) := Lib.hid (by omega)
          go_wp2
          go_roundw
          case rel => exact ⟨6, by omega, rfl, Lib.hid (by simp [cellsU, upto, ← HF.out, hi8, Hq.out])⟩
          case measure => simp [intOf]
        · have Hq : Hid (b5 / 128 * 255 = 0) := Lib.hid (by omega)
          go_wp2
          go_roundw
          case rel => exact ⟨6, by omega, rfl, Lib.hid (by simp [cellsU, upto, ← HF.out, hi8, Hq.out])⟩
          case measure => simp [intOf]
      · simp only [upto_done F [b0, b1, b2, b3, b4, b5, b6, b7] 6 0 (by omega), upto_done F [b0, b1, b2, b3, b4, b5, b6, b7] 6 1 (by omega), upto_done F [b0, b1, b2, b3, b4, b5, b6, b7] 6 2 (by omega), upto_done F [b0, b1, b2, b3, b4, b5, b6, b7] 6 3 (by omega), upto_done F [b0, b1, b2, b3, b4, b5, b6, b7] 6 4 (by omega), upto_done F [b0, b1, b2, b3, b4, b5, b6, b7] 6 5 (by omega), upto_not F [b0, b1, b2, b3, b4, b5, b6, b7] 6 6 (by omega), upto_not F [b0, b1, b2, b3, b4, b5, b6, b7] 6 7 (by omega), List.getD_cons_zero, List.getD_cons_succ] at hw2
        subst hw2
        by_cases hc : 128 ≤ b6
        · have Hq : Hid (b6 / 128 * 255 = 255) := Lib.hid (by omega)
          go_wp2
          go_roundw
          case rel => exact ⟨7, by omega, rfl, Lib.hid (by simp [cellsU, upto, ← HF.out, hi8, Hq.out])⟩
          case measure => simp [intOf]
        · have Hq : Hid (b6 / 128 * 255 = 0) := Lib.hid (by omega)
          go_wp2
          go_roundw
          case rel => exact ⟨7, by omega, rfl, Lib.hid (by simp [cellsU, upto, ← HF.out, hi8, Hq.out])⟩
          case measure => simp [intOf]
      · simp only [upto_done F [b0, b1, b2, b3, b4, b5, b6, b7] 7 0 (by omega), upto_done F [b0, b1, b2, b3, b4, b5, b6, b7] 7 1 (by omega), upto_done F [b0, b1, b2, b3, b4, b5, b6, b7] 7 2 (by omega), upto_done F [b0, b1, b2, b3, b4, b5, b6, b7] 7 3 (by omega), upto_done F [b0, b1, b2, b3, b4, b5, b6, b7] 7 4 (by omega), upto_done F [b0, b1, b2, b3, b4, b5, b6, b7] 7 5 (by omega), upto_done F [b0, b1, b2, b3, b4, b5, b6, b7] 7 6 (by omega), upto_not F [b0, b1, b2, b3, b4, b5, b6, b7] 7 7 (by omega), List.getD_cons_zero, List.getD_cons_succ] at hw2
        subst hw2
        by_cases hc : 128 ≤ b7
        · have Hq : Hid (b7 / 128 * 255 = 255) := Lib.hid (by omega)
          go_wp2
          go_roundw
          case rel => exact ⟨8, by omega, rfl, Lib.hid (by simp [cellsU, upto, ← HF.out, hi8, Hq.out])⟩
          case measure => simp [intOf]
        · have Hq : Hid (b7 / 128 * 255 = 0) := Lib.hid (by omega)
          go_wp2
          go_roundw
          case rel => exact ⟨8, by omega, rfl, Lib.hid (by simp [cellsU, upto, ← HF.out, hi8, Hq.out])⟩
          case measure => simp [intOf]
    · obtain rfl : i = 8 := by omega
      unfold cellsU at hw2
      simp only [upto_done F [b0, b1, b2, b3, b4, b5, b6, b7] 8 0 (by omega), upto_done F [b0, b1, b2, b3, b4, b5, b6, b7] 8 1 (by omega), upto_done F [b0, b1, b2, b3, b4, b5, b6, b7] 8 2 (by omega), upto_done F [b0, b1, b2, b3, b4, b5, b6, b7] 8 3 (by omega), upto_done F [b0, b1, b2, b3, b4, b5, b6, b7] 8 4 (by omega), upto_done F [b0, b1, b2, b3, b4, b5, b6, b7] 8 5 (by omega), upto_done F [b0, b1, b2, b3, b4, b5, b6, b7] 8 6 (by omega), upto_done F [b0, b1, b2, b3, b4, b5, b6, b7] 8 7 (by omega)] at hw2
      subst hw2
      go_wp2_with fail
      refine (Hwd.out _).mono ?_
      rintro e w' ⟨rfl, o8, rfl⟩
      go_wp2_with fail
      go_ret
      exact ⟨rfl, by go_grown⟩
end Go.Proofs.Ytfahogbgkjockaa
