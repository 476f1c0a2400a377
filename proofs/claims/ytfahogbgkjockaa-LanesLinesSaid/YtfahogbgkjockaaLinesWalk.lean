/- LanesLines, the walk. -/
import Derived.Test.YtfahogbgkjockaaWakes
import Derived.OpenShut
import Derived.Test.YtfahogbgkjockaaQuietC
namespace Go.Proofs.Ytfahogbgkjockaa
open Go.RowKit Go.Proofs.YtfahogbgkjockaaW.PrintWords
theorem bits_xor_u8_nat (a b : Nat) (ha : a < 256) (hb : b < 256) : Go.bits .xor .u8 (a : Int) (b : Int) = ((a ^^^ b : Nat) : Int) := by
  have hx : a ^^^ b < 256 := xor_lt8 ha hb
  have h1 : (BitVec.ofInt 8 (a : Int)).toNat = a := by
    rw [BitVec.ofInt_natCast, BitVec.toNat_ofNat]; exact Nat.mod_eq_of_lt (by omega)
  have h2 : (BitVec.ofInt 8 (b : Int)).toNat = b := by
    rw [BitVec.ofInt_natCast, BitVec.toNat_ofNat]; exact Nat.mod_eq_of_lt (by omega)
  show IntKind.u8.wrap ((BitVec.ofInt 8 (a : Int) ^^^ BitVec.ofInt 8 (b : Int)).toNat : Int) = _
  rw [BitVec.toNat_xor, h1, h2, IntKind.wrap_u8]
  omega
theorem Bel.drew (w : World) : Bel w w.drew := below_drew (Below.refl _ w)
theorem zip_map {f g : Nat → Nat} (l : List Nat) : List.zipWith (· ^^^ ·) (l.map f) (l.map g) = l.map fun b => f b ^^^ g b := by
  induction l with
  | nil => rfl
  | cons b l ih => simp [ih]
theorem W_xor_map (l : List Nat) (h : By l) (h8 : l.length = 8) {f g : Nat → Nat} (hf : ∀ b, b < 256 → f b < 256) (hg : ∀ b, b < 256 → g b < 256) : Go.bits .xor .u64 (W (l.map f) : Nat) (W (l.map g) : Nat) = ((W (l.map fun b => f b ^^^ g b) : Nat) : Int) := by
  rw [bits_xor_u64_nat _ _ (W8_lt (h.map hf) (by simpa using h8)) (W8_lt (h.map hg) (by simpa using h8)), W_xor _ _ (by simp) (h.map hf) (h.map hg), zip_map]
theorem zip_lin {f : Nat → Nat} (hf : Lin f) : ∀ (l m : List Nat), By l → By m → l.length = m.length → (List.zipWith (· ^^^ ·) l m).map f = List.zipWith (· ^^^ ·) (l.map f) (m.map f) := by
  intro l
  induction l with
  | nil => intro m _ _ _; rfl
  | cons b l ih =>
    intro m hl hm e
    cases m with
    | nil => simp at e
    | cons c m =>
      simp only [List.zipWith_cons_cons, List.map_cons]
      rw [hf b c hl.head hm.head, ih m hl.tail hm.tail (by simpa using e)]
theorem zip_by : ∀ (l m : List Nat), By l → By m → By (List.zipWith (· ^^^ ·) l m) := by
  intro l m hl hm b hb
  obtain ⟨i, hi, rfl⟩ := List.mem_iff_getElem.1 hb
  rw [List.getElem_zipWith]
  exact xor_lt8 (hl _ (List.getElem_mem _)) (hm _ (List.getElem_mem _))
theorem W_xor_lin {f : Nat → Nat} (hf : Lin f) (hl : ∀ b, b < 256 → f b < 256) (l m : List Nat) (h : By l) (h8 : l.length = 8) (hm : By m) (m8 : m.length = 8) : Go.bits .xor .u64 (W (l.map f) : Nat) (W (m.map f) : Nat) = ((W ((List.zipWith (· ^^^ ·) l m).map f) : Nat) : Int) := by
  rw [bits_xor_u64_nat _ _ (W8_lt (h.map hl) (by simpa using h8)) (W8_lt (hm.map hl) (by simpa using m8)), W_xor _ _ (by simp; omega) (h.map hl) (hm.map hl), zip_lin hf l m h hm (by omega)]
theorem toC {CC : World → Prop} {f : FuncId} {args : Array Value} {v : Value} (h : ∀ w, Calls Try.prog f args w fun e w' => e = .returned v ∧ Bel w w') (tr : Hid (∀ {wx wy : World}, CC wx → Bel wx wy → CC wy)) : ∀ w, CC w → Calls Try.prog f args w fun e w' => e = .returned v ∧ CC w' :=
  fun w hw => (h w).mono fun _ _ k => ⟨k.1, tr.out hw k.2⟩
set_option maxHeartbeats 20000000 in
set_option maxRecDepth 100000 in
theorem lines_calls (l m : List Nat) (c d : Nat) (w : World) (h : By l) (h8 : l.length = 8) (hm : By m) (m8 : m.length = 8) (hc : c < 256) (hd : d < 256) : Calls Try.prog 6 #[.int .u64 (W l : Nat), .int .u64 (W m : Nat), .agg #[.int .u8 c, .int .u8 d]] w fun e w' => e = .returned (.bool true) ∧ Bel w w' := by
  have hz8 : (List.zipWith (· ^^^ ·) l m).length = 8 := by simp; omega
  have hzb := zip_by l m h hm
  have tl : ∀ c b, b < 256 → tmB 8 b c 0 < 256 := fun c b hb => tmB_lt 8 b c 0 hb (by omega)
  have exy : Go.bits .xor .u64 (W l : Nat) (W m : Nat) = ((W (List.zipWith (· ^^^ ·) l m) : Nat) : Int) := by
    have := W_xor_lin lin_id (fun _ hb => hb) l m h h8 hm m8
    simpa using this
  have k1 := fun w => timesB (List.zipWith (· ^^^ ·) l m) c w hzb hz8 hc
  have k2 := fun w => timesB l c w h h8 hc
  have k3 := fun w => timesB m c w hm m8 hc
  have e1 := W_xor_lin (tm_lin c) (tl c) l m h h8 hm m8
  have k4 := fun w => timesB l (c ^^^ d) w h h8 (xor_lt8 hc hd)
  have k5 := fun w => timesB l d w h h8 hd
  have e2 := W_xor_map l h h8 (tl c) (tl d)
  rw [show (fun b => tmB 8 b c 0 ^^^ tmB 8 b d 0) = fun b => tmB 8 b (c ^^^ d) 0 from funext fun b => (tmB_sum 8 b c d 0 0).symm] at e2
  have k6 := fun w => timesB (l.map fun b => tmB 8 b c 0) d w (h.map (tl c)) (by simpa using h8) hd
  have k7 := fun w => timesB (l.map fun b => tmB 8 b d 0) c w (h.map (tl d)) (by simpa using h8) hc
  have e3 : ((l.map fun b => tmB 8 b d 0).map fun b => tmB 8 b c 0) = (l.map fun b => tmB 8 b c 0).map fun b => tmB 8 b d 0 := by
    rw [List.map_map, List.map_map]
    exact List.map_congr_left fun b hb => tm_comm b d c (h b hb)
  rw [e3] at k7
  clear e3
  have k8 := fun w => twiceB (List.zipWith (· ^^^ ·) l m) w hzb hz8
  have k9 := fun w => twiceB l w h h8
  have k10 := fun w => twiceB m w hm m8
  have e4 := W_xor_lin tw_lin (fun _ hb => tw_lt hb) l m h h8 hm m8
  have k11 : ∀ w, Calls Try.prog 20 #[.int .u64 (W l : Nat), .int .u8 1] w fun e w' => e = .returned (.int .u64 (W (l.map fun b => tmB 8 b 1 0) : Nat)) ∧ Bel w w' := fun w => timesB l 1 w h h8 (by omega)
  rw [show (l.map fun b => tmB 8 b 1 0) = l by simp only [tm_one]; exact List.map_id l] at k11
  have k12 : ∀ w, Calls Try.prog 20 #[.int .u64 (W l : Nat), .int .u8 0] w fun e w' => e = .returned (.int .u64 (W (l.map fun b => tmB 8 b 0 0) : Nat)) ∧ Bel w w' := fun w => timesB l 0 w h h8 (by omega)
  rw [show ((W (l.map fun b => tmB 8 b 0 0) : Nat) : Int) = 0 by
    simp only [tm_zero]
    have := rep8 0 l h8
    unfold rep at this
    omega] at k12
  have ecd := bits_xor_u8_nat c d hc hd
  generalize ((W l : Nat) : Int) = X at *
  generalize ((W m : Nat) : Int) = Y at *
  generalize ((W (List.zipWith (· ^^^ ·) l m) : Nat) : Int) = XY at *
  generalize ((W ((List.zipWith (· ^^^ ·) l m).map fun b => tmB 8 b c 0) : Nat) : Int) = T1 at *
  generalize ((W ((l.map fun b => tmB 8 b c 0).map fun b => tmB 8 b d 0) : Nat) : Int) = F at *
  generalize ((W (l.map fun b => tmB 8 b c 0) : Nat) : Int) = A at *
  generalize ((W (m.map fun b => tmB 8 b c 0) : Nat) : Int) = B at *
  generalize ((W (l.map fun b => tmB 8 b (c ^^^ d) 0) : Nat) : Int) = D at *
  generalize ((W (l.map fun b => tmB 8 b d 0) : Nat) : Int) = E at *
  generalize ((W ((List.zipWith (· ^^^ ·) l m).map tw) : Nat) : Int) = G at *
  generalize ((W (l.map tw) : Nat) : Int) = P at *
  generalize ((W (m.map tw) : Nat) : Int) = Q at *
  generalize ((c ^^^ d : Nat) : Int) = CD at *
  generalize ((c : Nat) : Int) = C at *
  generalize ((d : Nat) : Int) = DD at *
  have K1 := Lib.hid k1
  have K2 := Lib.hid k2
  have K3 := Lib.hid k3
  have K4 := Lib.hid k4
  have K5 := Lib.hid k5
  have K6 := Lib.hid k6
  have K7 := Lib.hid k7
  have K8 := Lib.hid k8
  have K9 := Lib.hid k9
  have K10 := Lib.hid k10
  have K11 := Lib.hid k11
  have K12 := Lib.hid k12
  clear k1 k2 k3 k4 k5 k6 k7 k8 k9 k10 k11 k12 hz8 hzb tl
  have hcell : ∀ wx, Bel (w.alloc (.cells #[.int .u8 C, .int .u8 DD] 35)) wx → wx.cell? ⟨w.heap.size, 0, none⟩ = some (.int .u8 C) ∧ wx.cell? ⟨w.heap.size, 1, none⟩ = some (.int .u8 DD) := fun wx hx => by
    rw [hx.cell (by simp), hx.cell (by simp)]
    simp [go_sem]
  have Hcell := Lib.hid hcell
  clear hcell
  go_enter Try.func6, Try.ntmps6
  go_wp2_with fail
  obtain ⟨CC, hCC⟩ : ∃ CC : World → Prop, CC = fun w' => Bel (w.alloc (.cells #[.int .u8 C, .int .u8 DD] 35)) w' := ⟨_, rfl⟩
  have hc0 : ∀ wx, CC wx → wx.cell? ⟨w.heap.size, 0, none⟩ = some (.int .u8 C) := fun wx hx => by rw [hCC] at hx; exact (Hcell.out wx hx).1
  have hc1 : ∀ wx, CC wx → wx.cell? ⟨w.heap.size, 1, none⟩ = some (.int .u8 DD) := fun wx hx => by rw [hCC] at hx; exact (Hcell.out wx hx).2
  have tr : ∀ {wx wy : World}, CC wx → Bel wx wy → CC wy := fun hx hy => by rw [hCC] at hx ⊢; exact Bel.trans hx hy
  have hdr : CC { (w.alloc (.cells #[.int .u8 C, .int .u8 DD] 35)) with drawn := (w.alloc (.cells #[.int .u8 C, .int .u8 DD] 35)).drawn + 1 } := by rw [hCC]; exact Bel.drew _
  have fin : ∀ wy, CC wy → Bel w wy := fun wy hy => by rw [hCC] at hy; exact (Bel.alloc w _).trans hy
  have Htr : Hid (∀ {wx wy : World}, CC wx → Bel wx wy → CC wy) := Lib.hid tr
  have Hfin := Lib.hid fin
  have Hdr := Lib.hid hdr
  clear hCC tr fin hdr
  have J1 := Lib.hid (toC K1.out Htr)
  have J2 := Lib.hid (toC K2.out Htr)
  have J3 := Lib.hid (toC K3.out Htr)
  have J4 := Lib.hid (toC K4.out Htr)
  have J5 := Lib.hid (toC K5.out Htr)
  have J6 := Lib.hid (toC K6.out Htr)
  have J7 := Lib.hid (toC K7.out Htr)
  have J8 := Lib.hid (toC K8.out Htr)
  have J9 := Lib.hid (toC K9.out Htr)
  have J10 := Lib.hid (toC K10.out Htr)
  have J11 := Lib.hid (toC K11.out Htr)
  have J12 := Lib.hid (toC K12.out Htr)
  have J0 := Lib.hid (toC wakesB Htr)
  clear K1 K2 K3 K4 K5 K6 K7 K8 K9 K10 K11 K12
  refine wp_region_quiet (C := CC) (by kernel_rfl) (by kernel_rfl) Hdr.out ?_
  dsimp only [List.append]
  repeat
    (refine QuietC.step (fun K hK => ?_)
     first
       | (apply QuietC.val
          case hw => go_simp
          case hrun =>
            intro wx hw
            have hc0w := hc0 wx hw
            have hc1w := hc1 wx hw
            go_simp
            try rfl
          go_simp
          refine hK _ ?_
          clear hK K)
       | (apply QuietC.call
          case hw => go_simp
          case hrun =>
            intro wx hw
            go_simp
            try exact ⟨rfl, rfl⟩
          case hc => first | (with_reducible exact J0.out) | (with_reducible exact J1.out) | (with_reducible exact J2.out) | (with_reducible exact J3.out) | (with_reducible exact J4.out) | (with_reducible exact J5.out) | (with_reducible exact J6.out) | (with_reducible exact J7.out) | (with_reducible exact J8.out) | (with_reducible exact J9.out) | (with_reducible exact J10.out) | (with_reducible exact J11.out) | (with_reducible exact J12.out)
          go_simp
          refine hK _ ?_
          clear hK K))
  refine wpQuiet_nil ?_
  intro wz hz
  have hz2 := Hfin.out wz hz
  clear Htr Hfin Hdr J0 J1 J2 J3 J4 J5 J6 J7 J8 J9 J10 J11 J12 hc0 hc1 Hcell
  go_wp2_with fail
  go_ret
  exact ⟨rfl, hz2⟩
theorem agg_law_lines (x y : Int) (z0 z1 : Int) (hx : (Lit.int .u64 x).wf = true) (hy : (Lit.int .u64 y).wf = true) (h0 : IntKind.has .u8 z0) (h1 : IntKind.has .u8 z1) (w : World) : Calls Try.prog 6 #[.int .u64 x, .int .u64 y, .agg #[.int .u8 z0, .int .u8 z1]] w fun e w' => e = .returned (.bool true) ∧ Below w.heap.size w w' := by
  have g1 := bounds_u64 hx
  have g2 := bounds_u64 hy
  have g3 : 0 ≤ z0 ∧ z0 ≤ 255 := h0
  have g4 : 0 ≤ z1 ∧ z1 ≤ 255 := h1
  obtain ⟨l, l8, hl, el⟩ := of8 x.toNat (by omega)
  obtain ⟨m, m8, hm, em⟩ := of8 y.toNat (by omega)
  obtain ⟨c, rfl⟩ := Int.eq_ofNat_of_zero_le g3.1
  obtain ⟨d, rfl⟩ := Int.eq_ofNat_of_zero_le g4.1
  have hX : x = ((W l : Nat) : Int) := by omega
  have hY : y = ((W m : Nat) : Int) := by omega
  rw [hX, hY]
  exact lines_calls l m c d w hl l8 hm m8 (by omega) (by omega)
end Go.Proofs.Ytfahogbgkjockaa
