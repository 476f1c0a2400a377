/- LanesTimes, the walk. -/
import Derived.Test.YtfahogbgkjockaaWakes
import Derived.OpenShut
namespace Go.Proofs.Ytfahogbgkjockaa
open Go.RowKit Go.Proofs.YtfahogbgkjockaaW.PrintWords
theorem map_of {l : List Nat} (h : By l) {f g : Nat → Nat} (e : ∀ b, b < 256 → f b = g b) : l.map f = l.map g := List.map_congr_left fun b hb => e b (h b hb)
set_option maxHeartbeats 8000000 in
set_option maxRecDepth 100000 in
theorem times_calls' (l : List Nat) (c : Nat) (w : World) (h : By l) (h8 : l.length = 8) (hc : c < 256) : Calls Try.prog 7 #[.int .u64 (W l : Nat), .int .u8 c] w fun e w' => e = .returned (.bool true) ∧ Bel w w' := by
  have h1 : ∀ w, Calls Try.prog 14 #[.int .u64 (W l : Nat)] w fun e w' => e = .returned (.int .u64 (W (l.map fun b => mulB b 2) : Nat)) ∧ Bel w w' := fun w => by
    rw [← map_of h tw_mul]; exact twiceB l w h h8
  have h2 : ∀ w, Calls Try.prog 13 #[.int .u64 (W l : Nat)] w fun e w' => e = .returned (.int .u64 (W (l.map fun b => mulB b 142) : Nat)) ∧ Bel w w' := fun w => by
    rw [← map_of h hf_mul]; exact halfB l w h h8
  have h3 : ∀ w, Calls Try.prog 20 #[.int .u64 (W l : Nat), .int .u8 c] w fun e w' => e = .returned (.int .u64 (W (l.map fun b => mulB b c) : Nat)) ∧ Bel w w' := fun w => by
    rw [← map_of h (fun b hb => tm_mul b c hb hc)]; exact timesB l c w h h8 hc
  have h4 : ∀ w, Calls Try.prog 21 #[.int .u64 (W l : Nat), .int .u8 c] w fun e w' => e = .returned (.int .u64 (W (l.map fun b => mulB b c) : Nat)) ∧ Bel w w' := fun w => rtimesB l c w h h8 hc
  have h5 : ∀ w, Calls Try.prog 21 #[.int .u64 (W l : Nat), .int .u8 2] w fun e w' => e = .returned (.int .u64 (W (l.map fun b => mulB b 2) : Nat)) ∧ Bel w w' := fun w => rtimesB l 2 w h h8 (by omega)
  have h6 : ∀ w, Calls Try.prog 21 #[.int .u64 (W l : Nat), .int .u8 142] w fun e w' => e = .returned (.int .u64 (W (l.map fun b => mulB b 142) : Nat)) ∧ Bel w w' := fun w => rtimesB l 142 w h h8 (by omega)
  generalize hX : ((W l : Nat) : Int) = X at *
  generalize ((W (l.map fun b => mulB b 2) : Nat) : Int) = A at *
  generalize ((W (l.map fun b => mulB b 142) : Nat) : Int) = B at *
  generalize ((W (l.map fun b => mulB b c) : Nat) : Int) = C at *
  have H1 := Lib.hid h1
  have H2 := Lib.hid h2
  have H3 := Lib.hid h3
  have H4 := Lib.hid h4
  have H5 := Lib.hid h5
  have H6 := Lib.hid h6
  clear hX h1 h2 h3 h4 h5 h6
  go_enter Try.func7, Try.ntmps7
  go_wp2_with fail
  refine (wakesB _).mono ?_
  rintro e w1 ⟨rfl, hb1⟩
  go_wp2_with fail
  refine (H1.out _).mono ?_
  rintro e w2 ⟨rfl, hb2⟩
  go_wp2_with fail
  refine (H5.out _).mono ?_
  rintro e w3 ⟨rfl, hb3⟩
  go_wp2_with fail
  refine (H2.out _).mono ?_
  rintro e w4 ⟨rfl, hb4⟩
  go_wp2_with fail
  refine (H6.out _).mono ?_
  rintro e w5 ⟨rfl, hb5⟩
  go_wp2_with fail
  refine (H3.out _).mono ?_
  rintro e w6 ⟨rfl, hb6⟩
  go_wp2_with fail
  refine (H4.out _).mono ?_
  rintro e w7 ⟨rfl, hb7⟩
  go_wp2_with fail
  go_ret
  exact ⟨rfl, (((((hb1.trans hb2).trans hb3).trans hb4).trans hb5).trans hb6).trans hb7⟩
theorem times_law (x c : Int) (hx : (Lit.int .u64 x).wf = true) (hc : (Lit.int .u8 c).wf = true) (w : World) : Calls Try.prog 7 #[.int .u64 x, .int .u8 c] w fun e w' => e = .returned (.bool true) ∧ Below w.heap.size w w' := by
  have h1 := bounds_u64 hx
  have h2 := bounds_u8 hc
  obtain ⟨l, h8, hl, e⟩ := of8 x.toNat (by omega)
  obtain ⟨c, rfl⟩ := Int.eq_ofNat_of_zero_le h2.1
  have hX : x = ((W l : Nat) : Int) := by omega
  rw [hX]
  exact times_calls' l c w hl h8 (by omega)
end Go.Proofs.Ytfahogbgkjockaa
