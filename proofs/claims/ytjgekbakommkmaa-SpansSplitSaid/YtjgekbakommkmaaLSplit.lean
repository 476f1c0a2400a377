/- Spans: the walk of SpansSplit. -/
import Derived.Test.YtjgekbakommkmaaSame
import Derived.Test.YtjgekbakommkmaaSplW
set_option linter.unusedVariables false
set_option linter.unusedSimpArgs false
namespace Go.Proofs.Ytjgekbakommkmaa
open Go.RowKit Go.Proofs.YtjgekbakommkmaaW.PrintWords Go.Proofs.YtjgekbakommkmaaW.PrintMore
open PSpansChange Pl
theorem splV_len (s : Sp) (part : Int) : (splV s part).length ≤ 70000 := by
  unfold splV
  split
  · rename_i h
    rw [pieces_len]
    omega
  · simp
set_option maxHeartbeats 8000000 in
set_option maxRecDepth 100000 in
theorem lawSplit (s0 s1 part : Int) (hp : part ≤ 9223372036854775807) (w : World) :
    Calls Try.prog 8 #[.agg #[.int .i64 s0, .int .i64 s1], .int .i64 part] w fun e w' => e = .returned (.bool true) ∧ Bel w w' := by
  have K1 := Lib.hid splitB
  have K2 := Lib.hid refSplitB
  have K3 := Lib.hid sameB
  have K4 := Lib.hid wakesB
  go_enter Try.func8, Try.ntmps8
  go_wp2_with fail
  generalize bits BinOp.and IntKind.i64 s0 1023 = X
  generalize wrap64 (X + bits BinOp.and IntKind.i64 s1 255) = Y
  refine wp_gen (fun W => Bel w W ∧ W.heap[w.heap.size + 1]? = some (.cells #[.int .i64 s0, .int .i64 s1, .int .i64 X, .int .i64 Y] 24 (0, 0))) ⟨(Bel.alloc _ _).trans (Bel.alloc _ _), ?h1⟩ ?_
  case h1 => exact (show (w.alloc (.cells #[.int .i64 s0, .int .i64 s1] 24)).heap.size = w.heap.size + 1 by simp) ▸ heap_alloc_new (w.alloc (.cells #[.int .i64 s0, .int .i64 s1] 24)) (.cells #[.int .i64 s0, .int .i64 s1, .int .i64 X, .int .i64 Y] 24)
  rintro W1 ⟨hB1, hc1⟩
  have C1 := Lib.hid (fun wx (h : Bel W1 wx) => (⟨blk_cell (blk_below hc1 h) 0, blk_cell (blk_below hc1 h) 1, blk_cell (blk_below hc1 h) 2, blk_cell (blk_below hc1 h) 3⟩ : wx.cell? ⟨w.heap.size + 1, 0, none⟩ = some (.int .i64 s0) ∧ wx.cell? ⟨w.heap.size + 1, 1, none⟩ = some (.int .i64 s1) ∧ wx.cell? ⟨w.heap.size + 1, 2, none⟩ = some (.int .i64 X) ∧ wx.cell? ⟨w.heap.size + 1, 3, none⟩ = some (.int .i64 Y)))
  have HB1 := Lib.hid hB1
  clear hB1 hc1
  go_loopw [27] (fun v27 wr => (v27 = .int .i64 0 ∨ v27 = .int .i64 1 ∨ v27 = .int .i64 2) ∧ Hid (Bel W1 wr)) (fun v27 _ => (2 - intOf v27).toNat)
  case atStart => exact ⟨Or.inl rfl, Lib.hid (Bel.refl _)⟩
  case round =>
    obtain ⟨wo, rfl⟩ : ∃ wo : World, wo = wr := ⟨_, rfl⟩
    obtain ⟨hv, HI⟩ := hrel
    rcases hv with rfl | rfl | rfl
    · skip
      obtain ⟨q0, q1, q2, q3⟩ := C1.out wo HI.out
      go_wp2_with fail
      generalize hP2 : wrap64 (1 + bits BinOp.and IntKind.i64 part 31) = P2 at *
      have hp2 : P2 ≤ 9223372036854775807 := by rw [← hP2]; unfold wrap64; omega
      clear hP2 q0 q1 q2 q3
      refine wp_gen (fun W => Bel wo W ∧ W.heap[wo.heap.size]? = some (.cells #[.int .i64 s0, .int .i64 s1] 24 (0, 0)) ∧ W.heap[wo.heap.size + 1]? = some (.cells #[.int .i64 part, .int .i64 P2] 3 (0, 0))) ⟨(Bel.alloc _ _).trans (Bel.alloc _ _), ?h1, ?h2⟩ ?_
      case h1 => exact blk_below (heap_alloc_new _ _) (Bel.alloc _ _)
      case h2 => exact (show (wo.alloc (.cells #[.int .i64 s0, .int .i64 s1] 24)).heap.size = wo.heap.size + 1 by simp) ▸ heap_alloc_new (wo.alloc (.cells #[.int .i64 s0, .int .i64 s1] 24)) (.cells #[.int .i64 part, .int .i64 P2] 3)
      rintro W2 ⟨hB2, hc1, hc2⟩
      have C2 := Lib.hid (fun wx (h : Bel W2 wx) => (⟨blk_cell (blk_below hc1 h) 0, blk_cell (blk_below hc1 h) 1, blk_cell (blk_below hc2 h) 0, blk_cell (blk_below hc2 h) 1⟩ : wx.cell? ⟨wo.heap.size, 0, none⟩ = some (.int .i64 s0) ∧ wx.cell? ⟨wo.heap.size, 1, none⟩ = some (.int .i64 s1) ∧ wx.cell? ⟨wo.heap.size + 1, 0, none⟩ = some (.int .i64 part) ∧ wx.cell? ⟨wo.heap.size + 1, 1, none⟩ = some (.int .i64 P2)))
      have HB2 := Lib.hid (HI.out.trans hB2)
      clear hB2 hc1 hc2
      go_loopw [37] (fun v37 wr => (v37 = .int .i64 0 ∨ v37 = .int .i64 1 ∨ v37 = .int .i64 2) ∧ Hid (Bel W2 wr)) (fun v37 _ => (2 - intOf v37).toNat)
      case atStart => exact ⟨Or.inl rfl, Lib.hid (Bel.refl _)⟩
      case round =>
        obtain ⟨wi, rfl⟩ : ∃ wi : World, wi = wr := ⟨_, rfl⟩
        obtain ⟨hv2, HI2⟩ := hrel
        rcases hv2 with rfl | rfl | rfl
        · skip
          have T0 := C2.out wi HI2.out
          obtain ⟨t0, t1, p0, p1⟩ := T0
          go_wp2_with fail
          refine (K1.out (s0, s1) part _).mono ?_
          rintro e wa ⟨va, rfl, hra, hba⟩
          obtain ⟨a0, a1, a2, a3⟩ := C2.out wa (HI2.out.trans hba)
          clear t0 t1 p0 p1
          go_wp2_with fail
          refine (K2.out (s0, s1) part hp _).mono ?_
          rintro e wb ⟨vb, rfl, hrb, hbb⟩
          have hll := splV_len (s0, s1) part
          obtain ⟨Aa, ca, rfl, hca, hCa⟩ := Kd.R_reads (Kd.R_below hra hbb)
          obtain ⟨Ab, cb, rfl, hcb, hCb⟩ := Kd.R_reads hrb
          rw [m30_length] at hca hCa
          rw [m31_length] at hcb hCb
          rw [m30_length, m31_length]
          have HS := Lib.hid (K3.out Aa ca Ab cb (splV (s0, s1) part) (by omega) hca hcb wb hCa hCb)
          have Hs1 := Lib.hid ((HI2.out.trans hba).trans hbb)
          clear hCa hCb hra hrb hba hbb a0 a1 a2 a3 hca hcb
          generalize splE (s0, s1) part = E at *
          have hEE : (E != E) = false := by simp
          go_wp2_with fail
          refine HS.out.mono ?_
          rintro e wc ⟨rfl, hbc⟩
          have HFI := Lib.hid (Hs1.out.trans hbc)
          go_wp2_with fail
          exact ⟨⟨by simp, HFI⟩, by simp [intOf]⟩
        · skip
          have T0 := C2.out wi HI2.out
          obtain ⟨t0, t1, p0, p1⟩ := T0
          go_wp2_with fail
          refine (K1.out (s0, s1) P2 _).mono ?_
          rintro e wa ⟨va, rfl, hra, hba⟩
          obtain ⟨a0, a1, a2, a3⟩ := C2.out wa (HI2.out.trans hba)
          clear t0 t1 p0 p1
          go_wp2_with fail
          refine (K2.out (s0, s1) P2 hp2 _).mono ?_
          rintro e wb ⟨vb, rfl, hrb, hbb⟩
          have hll := splV_len (s0, s1) P2
          obtain ⟨Aa, ca, rfl, hca, hCa⟩ := Kd.R_reads (Kd.R_below hra hbb)
          obtain ⟨Ab, cb, rfl, hcb, hCb⟩ := Kd.R_reads hrb
          rw [m30_length] at hca hCa
          rw [m31_length] at hcb hCb
          rw [m30_length, m31_length]
          have HS := Lib.hid (K3.out Aa ca Ab cb (splV (s0, s1) P2) (by omega) hca hcb wb hCa hCb)
          have Hs1 := Lib.hid ((HI2.out.trans hba).trans hbb)
          clear hCa hCb hra hrb hba hbb a0 a1 a2 a3 hca hcb
          generalize splE (s0, s1) P2 = E at *
          have hEE : (E != E) = false := by simp
          go_wp2_with fail
          refine HS.out.mono ?_
          rintro e wc ⟨rfl, hbc⟩
          have HFI := Lib.hid (Hs1.out.trans hbc)
          go_wp2_with fail
          exact ⟨⟨by simp, HFI⟩, by simp [intOf]⟩
        · have hfo := Lib.hid (HB2.out.trans HI2.out)
          go_wp2_with fail
          exact ⟨⟨by simp, hfo⟩, by simp [intOf]⟩
    · skip
      obtain ⟨q0, q1, q2, q3⟩ := C1.out wo HI.out
      go_wp2_with fail
      generalize hP2 : wrap64 (1 + bits BinOp.and IntKind.i64 part 31) = P2 at *
      have hp2 : P2 ≤ 9223372036854775807 := by rw [← hP2]; unfold wrap64; omega
      clear hP2 q0 q1 q2 q3
      refine wp_gen (fun W => Bel wo W ∧ W.heap[wo.heap.size]? = some (.cells #[.int .i64 X, .int .i64 Y] 24 (0, 0)) ∧ W.heap[wo.heap.size + 1]? = some (.cells #[.int .i64 part, .int .i64 P2] 3 (0, 0))) ⟨(Bel.alloc _ _).trans (Bel.alloc _ _), ?h1, ?h2⟩ ?_
      case h1 => exact blk_below (heap_alloc_new _ _) (Bel.alloc _ _)
      case h2 => exact (show (wo.alloc (.cells #[.int .i64 X, .int .i64 Y] 24)).heap.size = wo.heap.size + 1 by simp) ▸ heap_alloc_new (wo.alloc (.cells #[.int .i64 X, .int .i64 Y] 24)) (.cells #[.int .i64 part, .int .i64 P2] 3)
      rintro W2 ⟨hB2, hc1, hc2⟩
      have C2 := Lib.hid (fun wx (h : Bel W2 wx) => (⟨blk_cell (blk_below hc1 h) 0, blk_cell (blk_below hc1 h) 1, blk_cell (blk_below hc2 h) 0, blk_cell (blk_below hc2 h) 1⟩ : wx.cell? ⟨wo.heap.size, 0, none⟩ = some (.int .i64 X) ∧ wx.cell? ⟨wo.heap.size, 1, none⟩ = some (.int .i64 Y) ∧ wx.cell? ⟨wo.heap.size + 1, 0, none⟩ = some (.int .i64 part) ∧ wx.cell? ⟨wo.heap.size + 1, 1, none⟩ = some (.int .i64 P2)))
      have HB2 := Lib.hid (HI.out.trans hB2)
      clear hB2 hc1 hc2
      go_loopw [37] (fun v37 wr => (v37 = .int .i64 0 ∨ v37 = .int .i64 1 ∨ v37 = .int .i64 2) ∧ Hid (Bel W2 wr)) (fun v37 _ => (2 - intOf v37).toNat)
      case atStart => exact ⟨Or.inl rfl, Lib.hid (Bel.refl _)⟩
      case round =>
        obtain ⟨wi, rfl⟩ : ∃ wi : World, wi = wr := ⟨_, rfl⟩
        obtain ⟨hv2, HI2⟩ := hrel
        rcases hv2 with rfl | rfl | rfl
        · skip
          have T0 := C2.out wi HI2.out
          obtain ⟨t0, t1, p0, p1⟩ := T0
          go_wp2_with fail
          refine (K1.out (X, Y) part _).mono ?_
          rintro e wa ⟨va, rfl, hra, hba⟩
          obtain ⟨a0, a1, a2, a3⟩ := C2.out wa (HI2.out.trans hba)
          clear t0 t1 p0 p1
          go_wp2_with fail
          refine (K2.out (X, Y) part hp _).mono ?_
          rintro e wb ⟨vb, rfl, hrb, hbb⟩
          have hll := splV_len (X, Y) part
          obtain ⟨Aa, ca, rfl, hca, hCa⟩ := Kd.R_reads (Kd.R_below hra hbb)
          obtain ⟨Ab, cb, rfl, hcb, hCb⟩ := Kd.R_reads hrb
          rw [m30_length] at hca hCa
          rw [m31_length] at hcb hCb
          rw [m30_length, m31_length]
          have HS := Lib.hid (K3.out Aa ca Ab cb (splV (X, Y) part) (by omega) hca hcb wb hCa hCb)
          have HY := Lib.hid ((HI2.out.trans hba).trans hbb)
          clear hCa hCb hra hrb hba hbb a0 a1 a2 a3 hca hcb
          generalize splE (X, Y) part = E at *
          have hEE : (E != E) = false := by simp
          go_wp2_with fail
          refine HS.out.mono ?_
          rintro e wc ⟨rfl, hbc⟩
          have HFI := Lib.hid (HY.out.trans hbc)
          go_wp2_with fail
          exact ⟨⟨by simp, HFI⟩, by simp [intOf]⟩
        · skip
          have T0 := C2.out wi HI2.out
          obtain ⟨t0, t1, p0, p1⟩ := T0
          go_wp2_with fail
          refine (K1.out (X, Y) P2 _).mono ?_
          rintro e wa ⟨va, rfl, hra, hba⟩
          obtain ⟨a0, a1, a2, a3⟩ := C2.out wa (HI2.out.trans hba)
          clear t0 t1 p0 p1
          go_wp2_with fail
          refine (K2.out (X, Y) P2 hp2 _).mono ?_
          rintro e wb ⟨vb, rfl, hrb, hbb⟩
          have hll := splV_len (X, Y) P2
          obtain ⟨Aa, ca, rfl, hca, hCa⟩ := Kd.R_reads (Kd.R_below hra hbb)
          obtain ⟨Ab, cb, rfl, hcb, hCb⟩ := Kd.R_reads hrb
          rw [m30_length] at hca hCa
          rw [m31_length] at hcb hCb
          rw [m30_length, m31_length]
          have HS := Lib.hid (K3.out Aa ca Ab cb (splV (X, Y) P2) (by omega) hca hcb wb hCa hCb)
          have HY := Lib.hid ((HI2.out.trans hba).trans hbb)
          clear hCa hCb hra hrb hba hbb a0 a1 a2 a3 hca hcb
          generalize splE (X, Y) P2 = E at *
          have hEE : (E != E) = false := by simp
          go_wp2_with fail
          refine HS.out.mono ?_
          rintro e wc ⟨rfl, hbc⟩
          have HFI := Lib.hid (HY.out.trans hbc)
          go_wp2_with fail
          exact ⟨⟨by simp, HFI⟩, by simp [intOf]⟩
        · have hfo := Lib.hid (HB2.out.trans HI2.out)
          go_wp2_with fail
          exact ⟨⟨by simp, hfo⟩, by simp [intOf]⟩
    · go_wp2_with fail
      refine (K4.out _).mono ?_
      rintro e wf ⟨rfl, hbf⟩
      go_wp2_with fail
      go_ret
      exact ⟨rfl, (HB1.out.trans HI.out).trans hbf⟩
theorem lawSplitW (s0 s1 part : Int) (h0 : IntKind.has .i64 s0) (h1 : IntKind.has .i64 s1) (hp : (Lit.int .i64 part).wf = true) (w : World) :
    Calls Try.prog 8 #[.agg #[.int .i64 s0, .int .i64 s1], .int .i64 part] w fun e w' => e = .returned (.bool true) ∧ Below w.heap.size w w' :=
  lawSplit s0 s1 part (by have := bounds_i64 hp; omega) w
end Go.Proofs.Ytjgekbakommkmaa
