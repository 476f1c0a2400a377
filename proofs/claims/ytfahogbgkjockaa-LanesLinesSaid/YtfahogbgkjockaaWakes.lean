/- The law's own check of what the document fixes (wakes). -/
import Derived.Test.YtfahogbgkjockaaCalls
import Derived.Test.YtfahogbgkjockaaWalkC
import Derived.Outline
namespace Go.Proofs.Ytfahogbgkjockaa
open Go.RowKit Go.Proofs.YtfahogbgkjockaaW.PrintWords
/-- Behind a call that leaves what was as it was. -/
def Bel (w w' : World) : Prop := Below w.heap.size w w'
theorem Bel.refl (w : World) : Bel w w := Below.refl _ w
theorem Bel.trans {w w1 w2 : World} (h : Bel w w1) (k : Bel w1 w2) : Bel w w2 := below_then h h.size k
theorem Bel.below {w w' : World} (h : Bel w w') : Below w.heap.size w w' := h
theorem Bel.alloc (w : World) (o : Obj) : Bel w (w.alloc o) := (Below.refl _ w).alloc (Nat.le_refl _) o
theorem Bel.drewN (w : World) (n : Nat) : Bel w (w.drewN n) := pw_below_drewN (Below.refl _ w) n
theorem wk_load (w : World) : Calls Try.prog 10 #[.string ⟨#[97, 98, 99]⟩, .int .i64 1] w fun e w' => e = .returned (.int .u64 25442) ∧ Bel w w' :=
  (PLanesTimes.lanes_Load.calls 9 _ _ _ w (by decide +kernel)).mono fun _ _ h => ⟨h.1, h.2.below⟩
theorem wk_twice (w : World) : Calls Try.prog 14 #[.int .u64 32769] w fun e w' => e = .returned (.int .u64 7426) ∧ Bel w w' :=
  (PLanesTimes.lanes_Twice.calls _ _ w (by decide +kernel)).mono fun _ _ h => ⟨h.1, h.2.below⟩
theorem wk_store (w : World) : Calls Try.prog 12 #[.int .u64 25442] w fun e w' => e = .returned (.string ⟨#[98, 99, 0, 0, 0, 0, 0, 0]⟩) ∧ Bel w w' := by
  refine (store_calls0 _ w).mono ?_
  rintro e w' ⟨rfl, o, rfl⟩
  exact ⟨by congr 2, Bel.alloc w o⟩
set_option maxHeartbeats 8000000 in
set_option maxRecDepth 100000 in
theorem wakesB (w : World) : Calls Try.prog 9 #[] w fun e w' => e = .returned (.bool true) ∧ Bel w w' := by
  go_enter Try.func9, Try.ntmps9
  go_wp2_with fail
  refine (wk_load _).mono ?_
  rintro e w1 ⟨rfl, hb1⟩
  go_wp2_with fail
  refine (wk_twice _).mono ?_
  rintro e w2 ⟨rfl, hb2⟩
  go_wp2_with fail
  refine (wk_store _).mono ?_
  rintro e w3 ⟨rfl, hb3⟩
  go_wp2_with fail
  go_ret
  exact ⟨rfl, (hb1.trans hb2).trans hb3⟩
theorem loadB (s : ByteArray) (a : Int) (w : World) (hs : s.size ≤ 1000) (ha : -9223372036854775808 ≤ a) (ha2 : a < 9223372036854775808) : Calls Try.prog 10 #[.string s, .int .i64 a] w fun e w' => e = .returned (.int .u64 (W (ld8 s a) : Nat)) ∧ Bel w w' :=
  (load_calls s a w hs ha ha2).mono fun _ _ h => ⟨h.1, h.2.below⟩
theorem rloadB (s : ByteArray) (a : Int) (w : World) (hs : s.size ≤ 1000) : Calls Try.prog 11 #[.string s, .int .i64 a] w fun e w' => e = .returned (.int .u64 (W (ld8 s a) : Nat)) ∧ Bel w w' := rload_calls s a w hs
theorem twiceB (l : List Nat) (w : World) (h : By l) (h8 : l.length = 8) : Calls Try.prog 14 #[.int .u64 (W l : Nat)] w fun e w' => e = .returned (.int .u64 (W (l.map tw) : Nat)) ∧ Bel w w' :=
  (twice_calls l w h h8).mono fun _ _ h => ⟨h.1, h.2.below⟩
theorem halfB (l : List Nat) (w : World) (h : By l) (h8 : l.length = 8) : Calls Try.prog 13 #[.int .u64 (W l : Nat)] w fun e w' => e = .returned (.int .u64 (W (l.map hf) : Nat)) ∧ Bel w w' :=
  (half_calls l w h h8).mono fun _ _ h => ⟨h.1, h.2.below⟩
theorem timesB (l : List Nat) (c : Nat) (w : World) (h : By l) (h8 : l.length = 8) (hc : c < 256) : Calls Try.prog 20 #[.int .u64 (W l : Nat), .int .u8 c] w fun e w' => e = .returned (.int .u64 (W (l.map fun b => tmB 8 b c 0) : Nat)) ∧ Bel w w' :=
  (times_calls l c w h h8 hc).mono fun _ _ h => ⟨h.1, h.2.below⟩
theorem rtimesB (l : List Nat) (c : Nat) (w : World) (h : By l) (h8 : l.length = 8) (hc : c < 256) : Calls Try.prog 21 #[.int .u64 (W l : Nat), .int .u8 c] w fun e w' => e = .returned (.int .u64 (W (l.map fun b => mulB b c) : Nat)) ∧ Bel w w' := rtimes_calls l c w h h8 hc
theorem highB (l : List Nat) (w : World) (h : By l) (h8 : l.length = 8) : Calls Try.prog 18 #[.int .u64 (W l : Nat)] w fun e w' => e = .returned (.int .u64 (W (l.map hi8) : Nat)) ∧ Bel w w' :=
  (high_calls l w h h8).mono fun _ _ h => ⟨h.1, h.2.below⟩
theorem rhighB (l : List Nat) (w : World) (h : By l) (h8 : l.length = 8) : Calls Try.prog 19 #[.int .u64 (W l : Nat)] w fun e w' => e = .returned (.int .u64 (W (l.map hi8) : Nat)) ∧ Bel w w' := by
  obtain ⟨b0, b1, b2, b3, b4, b5, b6, b7, rfl⟩ := list8 l h8
  exact rhigh_calls0 _ _ _ _ _ _ _ _ w h
theorem spreadB (b : Nat) (w : World) (hb : b < 256) : Calls Try.prog 16 #[.int .u8 b] w fun e w' => e = .returned (.int .u64 (W [b, b, b, b, b, b, b, b] : Nat)) ∧ Bel w w' :=
  (spread_calls b w hb).mono fun _ _ h => ⟨h.1, h.2.below⟩
theorem storeB (l : List Nat) (w : World) (h : By l) (h8 : l.length = 8) : Calls Try.prog 12 #[.int .u64 (W l : Nat)] w fun e w' => e = .returned (.string (strOfNums (l.map fun b : Nat => (b : Int)))) ∧ Bel w w' :=
  (store_calls l w h h8).mono fun _ _ ⟨h, o, hw⟩ => ⟨h, hw ▸ Bel.alloc w o⟩
theorem bytesB (l : List Nat) (w : World) (h : By l) (h8 : l.length = 8) : Calls Try.prog 15 #[.int .u64 (W l : Nat)] w fun e w' => e = .returned (arr8 l) ∧ Bel w w' :=
  (bytes_calls l w h h8).mono fun _ _ ⟨h, o, p, hw⟩ => ⟨h, hw ▸ (Bel.alloc w o).trans (Bel.alloc _ p)⟩
theorem wordB (l : List Nat) (w : World) (h : By l) (h8 : l.length = 8) : Calls Try.prog 17 #[arr8 l] w fun e w' => e = .returned (.int .u64 (W l : Nat)) ∧ Bel w w' :=
  (word_calls l w h h8).mono fun _ _ ⟨h, o, hw⟩ => ⟨h, hw ▸ Bel.alloc w o⟩
end Go.Proofs.Ytfahogbgkjockaa
