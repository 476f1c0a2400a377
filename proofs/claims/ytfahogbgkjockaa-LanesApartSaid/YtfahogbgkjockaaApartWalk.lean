/- LanesApart, the walk. -/
import Derived.Test.YtfahogbgkjockaaWakes
import Derived.Test.YtfahogbgkjockaaApart
import Derived.OpenShut
import Derived.Deep.RegionHeld3
namespace Go.Proofs.Ytfahogbgkjockaa
open Go.RowKit Go.Proofs.YtfahogbgkjockaaW.PrintWords
theorem Bel.drewA (w : World) : Bel w w.drew := below_drew (Below.refl _ w)
theorem and7_u8 (a : Nat) (h : a < 256) : Go.bits .and .u8 (a : Int) 7 = ((a % 8 : Nat) : Int) := by
  have h1 : (BitVec.ofInt 8 (a : Int)).toNat = a := by
    rw [BitVec.ofInt_natCast, BitVec.toNat_ofNat]; exact Nat.mod_eq_of_lt (by omega)
  show IntKind.u8.wrap ((BitVec.ofInt 8 (a : Int) &&& BitVec.ofInt 8 (7 : Int)).toNat : Int) = _
  rw [BitVec.toNat_and, h1, show (BitVec.ofInt 8 (7 : Int)).toNat = 2 ^ 3 - 1 by decide, Nat.and_two_pow_sub_one_eq_mod, IntKind.wrap_u8]
  omega
set_option maxHeartbeats 4000000 in
set_option maxRecDepth 100000 in
theorem apart_calls (l m : List Nat) (z0 z1 : Nat) (w : World) (h : By l) (h8 : l.length = 8) (hm : By m) (m8 : m.length = 8) (hc : z0 < 256) (hd : z1 < 256) : Calls Try.prog 8 #[.int .u64 (W l : Nat), .int .u64 (W m : Nat), .agg #[.int .u8 z0, .int .u8 z1]] w fun e w' => e = .returned (.bool true) ∧ Bel w w' := by
  have h7 := and7_u8 z0 hc
  obtain ⟨j, hj⟩ : ∃ j, j = z0 % 8 := ⟨_, rfl⟩
  have hj8 : j < 8 := by omega
  rw [← hj] at h7
  have sb := set_by l m j hj8 h h8 hm
  have s8 : (m.set j (l.getD j 0)).length = 8 := by simpa using m8
  have tl : ∀ c b, b < 256 → tmB 8 b c 0 < 256 := fun c b hb => tmB_lt 8 b c 0 hb (by omega)
  have hi : ∀ b, b < 256 → hi8 b < 256 := fun b hb => by unfold hi8; omega
  have emix := mix l m j hj8 h h8 hm m8
  have e1 := apart (fun b => tmB 8 b z1 0) (tl z1) l m j hj8 h h8 hm m8
  have e2 := apart tw (fun _ hb => tw_lt hb) l m j hj8 h h8 hm m8
  have e3 := apart hi8 hi l m j hj8 h h8 hm m8
  have e4 := apart hf (fun _ hb => hf_lt hb) l m j hj8 h h8 hm m8
  have k1 := fun w => timesB _ z1 w sb s8 hd
  have k2 := fun w => timesB _ z1 w h h8 hd
  have k3 := fun w => twiceB _ w sb s8
  have k4 := fun w => twiceB _ w h h8
  have k5 := fun w => highB _ w sb s8
  have k6 := fun w => highB _ w h h8
  have k7 := fun w => halfB _ w sb s8
  have k8 := fun w => halfB _ w h h8
  have eM : IntKind.u64.wrap (255 * 2 ^ (j * 8)) = ((M8 j : Nat) : Int) := by
    have := M8_pow j hj8
    have hl := M8_lt j hj8
    rw [show (255 * 2 ^ (j * 8) : Int) = ((255 * 2 ^ (j * 8) : Nat) : Int) by rw [Int.natCast_mul, Int.natCast_pow]; rfl, ← this, IntKind.wrap_u64]
    omega
  generalize ((M8 j : Nat) : Int) = M at *
  generalize ((W l : Nat) : Int) = X at *
  generalize ((W m : Nat) : Int) = Y at *
  generalize ((W (m.set j (l.getD j 0)) : Nat) : Int) = V at *
  generalize ((W ((m.set j (l.getD j 0)).map fun b => tmB 8 b z1 0) : Nat) : Int) = T1 at *
  generalize ((W (l.map fun b => tmB 8 b z1 0) : Nat) : Int) = T2 at *
  generalize ((W ((m.set j (l.getD j 0)).map tw) : Nat) : Int) = T3 at *
  generalize ((W (l.map tw) : Nat) : Int) = T4 at *
  generalize ((W ((m.set j (l.getD j 0)).map hi8) : Nat) : Int) = T5 at *
  generalize ((W (l.map hi8) : Nat) : Int) = T6 at *
  generalize ((W ((m.set j (l.getD j 0)).map hf) : Nat) : Int) = T7 at *
  generalize ((W (l.map hf) : Nat) : Int) = T8 at *
  generalize ((z1 : Nat) : Int) = C at *
  generalize ((z0 : Nat) : Int) = Z at *
  have K1 := Lib.hid k1
  have K2 := Lib.hid k2
  have K3 := Lib.hid k3
  have K4 := Lib.hid k4
  have K5 := Lib.hid k5
  have K6 := Lib.hid k6
  have K7 := Lib.hid k7
  have K8 := Lib.hid k8
  clear k1 k2 k3 k4 k5 k6 k7 k8 hj tl hi sb s8
  have hcell : ∀ wx, Bel (w.alloc (.cells #[.int .u8 Z, .int .u8 C] 35)) wx → wx.cell? ⟨w.heap.size, 0, none⟩ = some (.int .u8 Z) ∧ wx.cell? ⟨w.heap.size, 1, none⟩ = some (.int .u8 C) := fun wx hx => by
    rw [hx.cell (by simp), hx.cell (by simp)]
    simp [go_sem]
  have Hcell := Lib.hid hcell
  clear hcell
  go_enter Try.func8, Try.ntmps8
  go_wp2_with fail
  rw [eM]
  clear eM emix h7
  have hc0 := fun wx hx => (Hcell.out wx hx).1
  have hc1 := fun wx hx => (Hcell.out wx hx).2
  have hW := Bel.alloc w (.cells #[.int .u8 Z, .int .u8 C] 35)
  generalize w.alloc (.cells #[.int .u8 Z, .int .u8 C] 35) = W0 at hc0 hc1 hW ⊢
  go_region_held3 (fun w' => Bel W0 w') (first | exact Bel.drewA _ | exact Bel.trans (by assumption) (by assumption)) ((first | (go_at_call 9; refine (wakesB _).mono ?_; rintro e wa ⟨rfl, hba⟩) | (go_at_call 20; first | ((with_reducible refine (K1.out _).mono ?_); rintro e wk1 ⟨rfl, hbk1⟩) | ((with_reducible refine (K2.out _).mono ?_); rintro e wk2 ⟨rfl, hbk2⟩)) | (go_at_call 14; first | ((with_reducible refine (K3.out _).mono ?_); rintro e wk3 ⟨rfl, hbk3⟩) | ((with_reducible refine (K4.out _).mono ?_); rintro e wk4 ⟨rfl, hbk4⟩)) | (go_at_call 18; first | ((with_reducible refine (K5.out _).mono ?_); rintro e wk5 ⟨rfl, hbk5⟩) | ((with_reducible refine (K6.out _).mono ?_); rintro e wk6 ⟨rfl, hbk6⟩)) | (go_at_call 13; first | ((with_reducible refine (K7.out _).mono ?_); rintro e wk7 ⟨rfl, hbk7⟩) | ((with_reducible refine (K8.out _).mono ?_); rintro e wk8 ⟨rfl, hbk8⟩)) ))
  go_wp2_with fail
  go_ret
  exact ⟨rfl, ((((((((((hW.trans (Bel.drewA W0)).trans hba).trans hbk1).trans hbk2).trans hbk3).trans hbk4).trans hbk5).trans hbk6).trans hbk7).trans hbk8)⟩

theorem agg_law_apart (x y : Int) (z0 z1 : Int) (hx : (Lit.int .u64 x).wf = true) (hy : (Lit.int .u64 y).wf = true) (h0 : IntKind.has .u8 z0) (h1 : IntKind.has .u8 z1) (w : World) : Calls Try.prog 8 #[.int .u64 x, .int .u64 y, .agg #[.int .u8 z0, .int .u8 z1]] w fun e w' => e = .returned (.bool true) ∧ Below w.heap.size w w' := by
  have g1 := bounds_u64 hx
  have g2 := bounds_u64 hy
  have g3 : 0 ≤ z0 ∧ z0 ≤ 255 := h0
  have g4 : 0 ≤ z1 ∧ z1 ≤ 255 := h1
  obtain ⟨l, l8, hl, el⟩ := of8 x.toNat (by omega)
  obtain ⟨m, m8, hm, em⟩ := of8 y.toNat (by omega)
  obtain ⟨c, rfl⟩ := Int.eq_ofNat_of_zero_le g3.1
  obtain ⟨d, rfl⟩ := Int.eq_ofNat_of_zero_le g4.1
  have hX : x = ((W l : Nat) : Int) := by omega
  have hY : y = ((W m : Nat) : Int) := by omega
  rw [hX, hY]
  exact apart_calls l m c d w hl l8 hm m8 (by omega) (by omega)
end Go.Proofs.Ytfahogbgkjockaa
