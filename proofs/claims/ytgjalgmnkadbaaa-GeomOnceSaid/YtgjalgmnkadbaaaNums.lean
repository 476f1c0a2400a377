/- Geometry: the walks of the program's functions of numbers. -/
import Derived.Test.YtgjalgmnkadbaaaWithin
import Derived.Test.YtgjalgmnkadbaaaPGeomFindsx1
import Derived.Deep.RegionHeld3
set_option linter.unusedVariables false
set_option linter.unusedSimpArgs false
namespace Go.Proofs.Ytgjalgmnkadbaaa
open Go.RowKit Go.Proofs.YtgjalgmnkadbaaaW.PrintWords Go.Proofs.YtgjalgmnkadbaaaW.PrintMore
def dat (m s : Int) : Int := if gd m s = true then m - 2 else 0
def blk (m s : Int) : Int := if gd m s = true then (m - 2) * s else 0
theorem gd_iff (m s : Int) : gd m s = true ↔ 4 ≤ m ∧ m ≤ 32 ∧ 1 ≤ s ∧ s ≤ 64 := by
  unfold gd
  simp only [Bool.and_eq_true, decide_eq_true_eq]
  omega
theorem gd_f (m s : Int) : PGeomFinds.geom_Geometry_Good.f m s = some (gd m s) := by
  unfold PGeomFinds.geom_Geometry_Good.f gd
  by_cases h1 : 4 ≤ m <;> by_cases h2 : m ≤ 32 <;> by_cases h3 : 1 ≤ s <;> simp [h1, h2, h3]
theorem dataB (m s : Int) (w : World) : Calls Try.prog 12 #[.agg #[.int .i64 m, .int .i64 s]] w fun e w' => e = .returned (.int .i64 (dat m s)) ∧ Bel w w' := by
  refine PGeomFinds.geom_Geometry_Data.calls m s _ w ?_
  have h := gd_iff m s
  unfold PGeomFinds.geom_Geometry_Data.f dat
  rw [gd_f]
  by_cases hg : gd m s = true
  · have := h.1 hg
    simp [hg]
    unfold wrap64
    omega
  · simp [hg]
theorem blocksB (m s : Int) (w : World) : Calls Try.prog 15 #[.agg #[.int .i64 m, .int .i64 s]] w fun e w' => e = .returned (.int .i64 (blk m s)) ∧ Bel w w' := by
  refine PGeomFinds.geom_Geometry_Blocks.calls m s _ w ?_
  have h := gd_iff m s
  unfold PGeomFinds.geom_Geometry_Blocks.f PGeomFinds.geom_Geometry_Data.f blk
  rw [gd_f]
  by_cases hg : gd m s = true
  · have h := h.1 hg
    have e1 : wrap64 (m - 2) = m - 2 := by unfold wrap64; omega
    have e2 : mx 0 (mn s 64) = s := by unfold mx mn; rw [if_neg (show ¬ 64 < s by omega), if_pos (by omega)]
    have hle : (m - 2) * s ≤ 30 * 64 := Int.mul_le_mul (by omega) (by omega) (by omega) (by omega)
    have h0 : 0 ≤ (m - 2) * s := Int.mul_nonneg (by omega) (by omega)
    simp only [hg, Option.bind_some, if_true, e1, e2]
    congr 1
    unfold wrap64
    omega
  · simp only [hg, Option.bind_some]
    simp
    unfold wrap64
    omega
def pP (m t : Int) : Int := m - 1 - t % m
theorem pB (m s t : Int) (w : World) (hg : gd m s = true) (h0 : 0 ≤ t) (h1 : t < s) : Calls Try.prog 32 #[.agg #[.int .i64 m, .int .i64 s], .int .i64 t] w fun e w' => e = .returned (.int .i64 (pP m t)) ∧ Bel w w' := by
  refine PGeomRows.geom_Geometry_p.calls m s t _ w ?_
  have h := (gd_iff m s).1 hg
  have e1 := Int.emod_nonneg t (show m ≠ 0 by omega)
  have e2 := Int.emod_lt_of_pos t (show 0 < m by omega)
  unfold PGeomRows.geom_Geometry_p.f pP
  rw [if_neg (by omega), Int.tmod_eq_emod_of_nonneg h0]
  congr 1
  unfold wrap64
  omega
def tuR (m c : Int) : Int := (c + 2) % m
theorem turnB (m s c : Int) (w : World) (hg : gd m s = true) (h0 : 0 ≤ c) (h1 : c < m) : Calls Try.prog 33 #[.agg #[.int .i64 m, .int .i64 s], .int .i64 c] w fun e w' => e = .returned (.int .i64 (tuR m c)) ∧ Bel w w' := by
  refine PGeomRows.geom_Geometry_turn.calls m s c _ w ?_
  have h := (gd_iff m s).1 hg
  unfold PGeomRows.geom_Geometry_turn.f tuR
  rw [if_neg (by omega), show wrap64 (c + 2) = c + 2 by unfold wrap64; omega, Int.tmod_eq_emod_of_nonneg (by omega)]
set_option maxHeartbeats 2000000 in
theorem find_err (m s b : Int) (w : World) (E : Int) (hE : wit1 m s b (blk m s) = E) (hne : E ≠ 0) : Calls Try.prog 25 #[.agg #[.int .i64 m, .int .i64 s], .int .i64 b] w fun e w' => e = .returned (.tuple #[.int .i64 0, .int .i64 0, .int .i64 E]) ∧ Bel w w' := by
  have hbl := blocksB m s
  have hda := dataB m s
  have hwi := within1 m s b (blk m s)
  rw [hE] at hwi
  clear hE
  have hne1 : (E != 0) = true := bne_iff_ne.mpr hne
  have hne2 : (E == 0) = false := beq_eq_false_iff_ne.mpr hne
  generalize blk m s = BL at *
  generalize dat m s = D at *
  have Hbl := Lib.hid hbl
  have Hda := Lib.hid hda
  have Hwi := Lib.hid hwi
  clear hbl hda hwi
  go_enter Try.func25, Try.ntmps25
  go_wp2_with fail
  have hg0 : ∀ wx, Bel (w.alloc (Obj.cells #[Value.int IntKind.i64 m, Value.int IntKind.i64 s] 24)) wx → wx.cell? ⟨w.heap.size, 0, none⟩ = some (.int .i64 m) := fun wx hx => cellB hx (by simp [go_sem])
  have hg1 : ∀ wx, Bel (w.alloc (Obj.cells #[Value.int IntKind.i64 m, Value.int IntKind.i64 s] 24)) wx → wx.cell? ⟨w.heap.size, 1, none⟩ = some (.int .i64 s) := fun wx hx => cellB hx (by simp [go_sem])
  have hW := Bel.alloc w (Obj.cells #[Value.int IntKind.i64 m, Value.int IntKind.i64 s] 24)
  have HS : Hid ((w.alloc (Obj.cells #[Value.int IntKind.i64 m, Value.int IntKind.i64 s] 24)).heap.size = w.heap.size + 1) := Lib.hid (by simp)
  generalize w.alloc (Obj.cells #[Value.int IntKind.i64 m, Value.int IntKind.i64 s] 24) = W0 at hg0 hg1 hW HS ⊢
  go_region_held3 (fun w' => Bel W0 w') (first | assumption | exact Bel.drew _ | exact Bel.trans (by assumption) (Bel.drew _) | exact Bel.trans (by assumption) (by assumption) | exact Bel.trans (by assumption) (Bel.alloc _ _)) ((first | (go_at_call 15; refine (Hbl.out _).mono ?_; rintro e wa15 ⟨rfl, hba15⟩) | (go_at_call 31; refine (Hwi.out _ _ (by simp [go_sem]) (by simp [go_sem])).mono ?_; rintro e wb ⟨rfl, hbb⟩)))
  go_wp2_with fail
  have hW2 : Bel W0 wb := by assumption
  go_ret3
  exact ⟨rfl, hW.trans hW2⟩
set_option maxHeartbeats 2000000 in
theorem find_ok (m s b : Int) (w : World) (hg : gd m s = true) (h0 : 0 ≤ b) (h1 : b < blk m s) : Calls Try.prog 25 #[.agg #[.int .i64 m, .int .i64 s], .int .i64 b] w fun e w' => e = .returned (.tuple #[.int .i64 (b / dat m s), .int .i64 (b % dat m s), .int .i64 0]) ∧ Bel w w' := by
  have hgi := (gd_iff m s).1 hg
  have hbl := blocksB m s
  have hda := dataB m s
  have hwi := within1 m s b (blk m s)
  rw [show wit1 m s b (blk m s) = 0 by unfold wit1; rw [if_pos hg, if_pos (by omega)]] at hwi
  have hD : 2 ≤ dat m s := by unfold dat; rw [if_pos hg]; omega
  have hbm : b < 2000 := by
    have hle : (m - 2) * s ≤ 30 * 64 := Int.mul_le_mul (by omega) (by omega) (by omega) (by omega)
    unfold blk at h1
    rw [if_pos hg] at h1
    omega
  generalize blk m s = BL at *
  generalize dat m s = D at *
  have hq := Int.tdiv_eq_ediv_of_nonneg (b := D) h0
  have hr := Int.tmod_eq_emod_of_nonneg (b := D) h0
  have hq0 : 0 ≤ b / D := Int.ediv_nonneg h0 (by omega)
  have hq1 : b / D ≤ b := Int.ediv_le_self _ h0
  have hDz : (D = 0) = False := eq_false (by omega)
  have hwq : IntKind.i64.wrap (b / D) = b / D := IntWalk.i64_in _ (by omega)
  generalize b / D = Q at *
  generalize b % D = R at *
  have Hbl := Lib.hid hbl
  have Hda := Lib.hid hda
  have Hwi := Lib.hid hwi
  clear hbl hda hwi
  clear hg hgi
  go_enter Try.func25, Try.ntmps25
  go_wp2_with fail
  have hg0 : ∀ wx, Bel (w.alloc (Obj.cells #[Value.int IntKind.i64 m, Value.int IntKind.i64 s] 24)) wx → wx.cell? ⟨w.heap.size, 0, none⟩ = some (.int .i64 m) := fun wx hx => cellB hx (by simp [go_sem])
  have hg1 : ∀ wx, Bel (w.alloc (Obj.cells #[Value.int IntKind.i64 m, Value.int IntKind.i64 s] 24)) wx → wx.cell? ⟨w.heap.size, 1, none⟩ = some (.int .i64 s) := fun wx hx => cellB hx (by simp [go_sem])
  have hW := Bel.alloc w (Obj.cells #[Value.int IntKind.i64 m, Value.int IntKind.i64 s] 24)
  have HS : Hid ((w.alloc (Obj.cells #[Value.int IntKind.i64 m, Value.int IntKind.i64 s] 24)).heap.size = w.heap.size + 1) := Lib.hid (by simp)
  generalize w.alloc (Obj.cells #[Value.int IntKind.i64 m, Value.int IntKind.i64 s] 24) = W0 at hg0 hg1 hW HS ⊢
  go_region_held3 (fun w' => Bel W0 w') (first | assumption | exact Bel.drew _ | exact Bel.trans (by assumption) (Bel.drew _) | exact Bel.trans (by assumption) (by assumption) | exact Bel.trans (by assumption) (Bel.alloc _ _)) ((first | (go_at_call 15; refine (Hbl.out _).mono ?_; rintro e wa15 ⟨rfl, hba15⟩) | (go_at_call 31; refine (Hwi.out _ _ (by simp [go_sem]) (by simp [go_sem])).mono ?_; rintro e wb ⟨rfl, hbb⟩)))
  go_wp2_with fail
  have hW2 : Bel W0 wb := by assumption
  go_region_held3 (fun w' => Bel W0 w') (first | assumption | exact Bel.drew _ | exact Bel.trans (by assumption) (Bel.drew _) | exact Bel.trans (by assumption) (by assumption) | exact Bel.trans (by assumption) (Bel.alloc _ _)) ((first | (go_at_call 12; refine (Hda.out _).mono ?_; rintro e wc12 ⟨rfl, hbc12⟩)))
  go_wp2_with fail
  go_ret3
  exact ⟨rfl, hW.trans (by assumption)⟩
set_option maxHeartbeats 2000000 in
theorem block_err (m s t c : Int) (w : World) (E : Int) (hE : wit2 m s t s c (dat m s) = E) (hne : E ≠ 0) : Calls Try.prog 27 #[.agg #[.int .i64 m, .int .i64 s], .int .i64 t, .int .i64 c] w fun e w' => e = .returned (.tuple #[.int .i64 0, .int .i64 E]) ∧ Bel w w' := by
  have hbl := blocksB m s
  have hda := dataB m s
  have hwi := within2 m s t s c (dat m s)
  rw [hE] at hwi
  clear hE
  have hne1 : (E != 0) = true := bne_iff_ne.mpr hne
  have hne2 : (E == 0) = false := beq_eq_false_iff_ne.mpr hne
  generalize blk m s = BL at *
  generalize dat m s = D at *
  have Hbl := Lib.hid hbl
  have Hda := Lib.hid hda
  have Hwi := Lib.hid hwi
  clear hbl hda hwi
  go_enter Try.func27, Try.ntmps27
  go_wp2_with fail
  have hg0 : ∀ wx, Bel (w.alloc (Obj.cells #[Value.int IntKind.i64 m, Value.int IntKind.i64 s] 24)) wx → wx.cell? ⟨w.heap.size, 0, none⟩ = some (.int .i64 m) := fun wx hx => cellB hx (by simp [go_sem])
  have hg1 : ∀ wx, Bel (w.alloc (Obj.cells #[Value.int IntKind.i64 m, Value.int IntKind.i64 s] 24)) wx → wx.cell? ⟨w.heap.size, 1, none⟩ = some (.int .i64 s) := fun wx hx => cellB hx (by simp [go_sem])
  have hW := Bel.alloc w (Obj.cells #[Value.int IntKind.i64 m, Value.int IntKind.i64 s] 24)
  have HS : Hid ((w.alloc (Obj.cells #[Value.int IntKind.i64 m, Value.int IntKind.i64 s] 24)).heap.size = w.heap.size + 1) := Lib.hid (by simp)
  generalize w.alloc (Obj.cells #[Value.int IntKind.i64 m, Value.int IntKind.i64 s] 24) = W0 at hg0 hg1 hW HS ⊢
  go_region_held3 (fun w' => Bel W0 w') (first | assumption | exact Bel.drew _ | exact Bel.trans (by assumption) (Bel.drew _) | exact Bel.trans (by assumption) (by assumption) | exact Bel.trans (by assumption) (Bel.alloc _ _)) ((first | (go_at_call 12; refine (Hda.out _).mono ?_; rintro e wa12 ⟨rfl, hba12⟩) | (go_at_call 31; refine (Hwi.out _ _ (by simp [go_sem]) (by simp [go_sem]) (by simp [go_sem]) (by simp [go_sem])).mono ?_; rintro e wb ⟨rfl, hbb⟩)))
  go_wp2_with fail
  have hW2 : Bel W0 wb := by assumption
  go_ret2
  exact ⟨rfl, hW.trans hW2⟩
set_option maxHeartbeats 2000000 in
theorem block_ok (m s t c : Int) (w : World) (hg : gd m s = true) (h0 : 0 ≤ t) (h1 : t < s) (h2 : 0 ≤ c) (h3 : c < dat m s) : Calls Try.prog 27 #[.agg #[.int .i64 m, .int .i64 s], .int .i64 t, .int .i64 c] w fun e w' => e = .returned (.tuple #[.int .i64 (t * dat m s + c), .int .i64 0]) ∧ Bel w w' := by
  have hgi := (gd_iff m s).1 hg
  have hbl := blocksB m s
  have hda := dataB m s
  have hwi := within2 m s t s c (dat m s)
  rw [show wit2 m s t s c (dat m s) = 0 by unfold wit2; rw [if_pos hg, if_pos (by omega)]] at hwi
  have hD : 2 ≤ dat m s ∧ dat m s ≤ 30 := by unfold dat; rw [if_pos hg]; omega
  generalize dat m s = D at *
  have hle : t * D ≤ 64 * 30 := Int.mul_le_mul (by omega) (by omega) (by omega) (by omega)
  have hge : 0 ≤ t * D := Int.mul_nonneg (by omega) (by omega)
  have hwq : IntKind.i64.wrap (t * D) = t * D := IntWalk.i64_in _ (by omega)
  have hwr : IntKind.i64.wrap (t * D + c) = t * D + c := IntWalk.i64_in _ (by omega)
  have Hbl := Lib.hid hbl
  have Hda := Lib.hid hda
  have Hwi := Lib.hid hwi
  clear hbl hda hwi
  clear hg hgi
  go_enter Try.func27, Try.ntmps27
  go_wp2_with fail
  have hg0 : ∀ wx, Bel (w.alloc (Obj.cells #[Value.int IntKind.i64 m, Value.int IntKind.i64 s] 24)) wx → wx.cell? ⟨w.heap.size, 0, none⟩ = some (.int .i64 m) := fun wx hx => cellB hx (by simp [go_sem])
  have hg1 : ∀ wx, Bel (w.alloc (Obj.cells #[Value.int IntKind.i64 m, Value.int IntKind.i64 s] 24)) wx → wx.cell? ⟨w.heap.size, 1, none⟩ = some (.int .i64 s) := fun wx hx => cellB hx (by simp [go_sem])
  have hW := Bel.alloc w (Obj.cells #[Value.int IntKind.i64 m, Value.int IntKind.i64 s] 24)
  have HS : Hid ((w.alloc (Obj.cells #[Value.int IntKind.i64 m, Value.int IntKind.i64 s] 24)).heap.size = w.heap.size + 1) := Lib.hid (by simp)
  generalize w.alloc (Obj.cells #[Value.int IntKind.i64 m, Value.int IntKind.i64 s] 24) = W0 at hg0 hg1 hW HS ⊢
  go_region_held3 (fun w' => Bel W0 w') (first | assumption | exact Bel.drew _ | exact Bel.trans (by assumption) (Bel.drew _) | exact Bel.trans (by assumption) (by assumption) | exact Bel.trans (by assumption) (Bel.alloc _ _)) ((first | (go_at_call 12; refine (Hda.out _).mono ?_; rintro e wa12 ⟨rfl, hba12⟩) | (go_at_call 31; refine (Hwi.out _ _ (by simp [go_sem]) (by simp [go_sem]) (by simp [go_sem]) (by simp [go_sem])).mono ?_; rintro e wb ⟨rfl, hbb⟩)))
  go_wp2_with fail
  have hW2 : Bel W0 wb := by assumption
  refine (Hda.out _).mono ?_
  rintro e wc12 ⟨rfl, hbc12⟩
  go_wp2_with fail
  have hW3 : Bel W0 wc12 := hW2.trans hbc12
  go_ret2
  exact ⟨rfl, hW.trans (by assumption)⟩
set_option maxHeartbeats 2000000 in
theorem member_err (m s t c : Int) (w : World) (E : Int) (hE : wit2 m s t s c m = E) (hne : E ≠ 0) : Calls Try.prog 11 #[.agg #[.int .i64 m, .int .i64 s], .int .i64 t, .int .i64 c] w fun e w' => e = .returned (.tuple #[.int .i64 0, .int .i64 E]) ∧ Bel w w' := by
  have hbl := blocksB m s
  have hda := dataB m s
  have hwi := within2 m s t s c m
  rw [hE] at hwi
  clear hE
  have hne1 : (E != 0) = true := bne_iff_ne.mpr hne
  have hne2 : (E == 0) = false := beq_eq_false_iff_ne.mpr hne
  generalize blk m s = BL at *
  generalize dat m s = D at *
  have Hbl := Lib.hid hbl
  have Hda := Lib.hid hda
  have Hwi := Lib.hid hwi
  clear hbl hda hwi
  go_enter Try.func11, Try.ntmps11
  go_wp2_with fail
  have hg0 : ∀ wx, Bel (w.alloc (Obj.cells #[Value.int IntKind.i64 m, Value.int IntKind.i64 s] 24)) wx → wx.cell? ⟨w.heap.size, 0, none⟩ = some (.int .i64 m) := fun wx hx => cellB hx (by simp [go_sem])
  have hg1 : ∀ wx, Bel (w.alloc (Obj.cells #[Value.int IntKind.i64 m, Value.int IntKind.i64 s] 24)) wx → wx.cell? ⟨w.heap.size, 1, none⟩ = some (.int .i64 s) := fun wx hx => cellB hx (by simp [go_sem])
  have hW := Bel.alloc w (Obj.cells #[Value.int IntKind.i64 m, Value.int IntKind.i64 s] 24)
  have HS : Hid ((w.alloc (Obj.cells #[Value.int IntKind.i64 m, Value.int IntKind.i64 s] 24)).heap.size = w.heap.size + 1) := Lib.hid (by simp)
  generalize w.alloc (Obj.cells #[Value.int IntKind.i64 m, Value.int IntKind.i64 s] 24) = W0 at hg0 hg1 hW HS ⊢
  refine (Hwi.out _ _ (by rw [← HS.out]; simp [go_sem]) (by rw [← HS.out]; simp [go_sem]) (by rw [← HS.out]; simp [go_sem]) (by rw [← HS.out]; simp [go_sem])).mono ?_
  rintro e wb ⟨rfl, hbb⟩
  go_wp2_with fail
  have hW2 : Bel W0 wb := (Bel.alloc W0 _).trans hbb
  go_ret2
  exact ⟨rfl, hW.trans hW2⟩
set_option maxHeartbeats 2000000 in
theorem member_ok (m s t c : Int) (w : World) (hg : gd m s = true) (h0 : 0 ≤ t) (h1 : t < s) (h2 : 0 ≤ c) (h3 : c < m) : Calls Try.prog 11 #[.agg #[.int .i64 m, .int .i64 s], .int .i64 t, .int .i64 c] w fun e w' => e = .returned (.tuple #[.int .i64 ((pP m t + tuR m c) % m), .int .i64 0]) ∧ Bel w w' := by
  have hgi := (gd_iff m s).1 hg
  have hbl := blocksB m s
  have hda := dataB m s
  have hwi := within2 m s t s c m
  rw [show wit2 m s t s c m = 0 by unfold wit2; rw [if_pos hg, if_pos (by omega)]] at hwi
  have hp := fun w => pB m s t w hg h0 h1
  have hp0 : 0 ≤ pP m t ∧ pP m t < m := by
    have e1 := Int.emod_nonneg t (show m ≠ 0 by omega)
    have e2 := Int.emod_lt_of_pos t (show 0 < m by omega)
    unfold pP
    omega
  have htn := fun w => turnB m s c w hg h2 h3
  have ht0 : 0 ≤ tuR m c ∧ tuR m c < m := ⟨Int.emod_nonneg _ (by omega), Int.emod_lt_of_pos _ (by omega)⟩
  have hr := Int.tmod_eq_emod_of_nonneg (a := pP m t + tuR m c) (b := m) (by omega)
  have hDz : (m = 0) = False := eq_false (by omega)
  have hwq : IntKind.i64.wrap (pP m t + tuR m c) = pP m t + tuR m c := IntWalk.i64_in _ (by omega)
  generalize (pP m t + tuR m c) % m = R at *
  generalize pP m t = PP at *
  generalize tuR m c = TT at *
  have Hbl := Lib.hid hbl
  have Hda := Lib.hid hda
  have Hwi := Lib.hid hwi
  clear hbl hda hwi
  have Hp := Lib.hid hp
  have Htn := Lib.hid htn
  clear hg hgi hp htn
  go_enter Try.func11, Try.ntmps11
  go_wp2_with fail
  have hg0 : ∀ wx, Bel (w.alloc (Obj.cells #[Value.int IntKind.i64 m, Value.int IntKind.i64 s] 24)) wx → wx.cell? ⟨w.heap.size, 0, none⟩ = some (.int .i64 m) := fun wx hx => cellB hx (by simp [go_sem])
  have hg1 : ∀ wx, Bel (w.alloc (Obj.cells #[Value.int IntKind.i64 m, Value.int IntKind.i64 s] 24)) wx → wx.cell? ⟨w.heap.size, 1, none⟩ = some (.int .i64 s) := fun wx hx => cellB hx (by simp [go_sem])
  have hW := Bel.alloc w (Obj.cells #[Value.int IntKind.i64 m, Value.int IntKind.i64 s] 24)
  have HS : Hid ((w.alloc (Obj.cells #[Value.int IntKind.i64 m, Value.int IntKind.i64 s] 24)).heap.size = w.heap.size + 1) := Lib.hid (by simp)
  generalize w.alloc (Obj.cells #[Value.int IntKind.i64 m, Value.int IntKind.i64 s] 24) = W0 at hg0 hg1 hW HS ⊢
  refine (Hwi.out _ _ (by rw [← HS.out]; simp [go_sem]) (by rw [← HS.out]; simp [go_sem]) (by rw [← HS.out]; simp [go_sem]) (by rw [← HS.out]; simp [go_sem])).mono ?_
  rintro e wb ⟨rfl, hbb⟩
  go_wp2_with fail
  have hW2 : Bel W0 wb := (Bel.alloc W0 _).trans hbb
  go_region_held3 (fun w' => Bel W0 w') (first | assumption | exact Bel.drew _ | exact Bel.trans (by assumption) (Bel.drew _) | exact Bel.trans (by assumption) (by assumption) | exact Bel.trans (by assumption) (Bel.alloc _ _)) ((first | (go_at_call 32; refine (Hp.out _).mono ?_; rintro e wc32 ⟨rfl, hbc32⟩) | (go_at_call 33; refine (Htn.out _).mono ?_; rintro e wc33 ⟨rfl, hbc33⟩)))
  go_wp2_with fail
  go_ret2
  exact ⟨rfl, hW.trans (by assumption)⟩
set_option maxHeartbeats 2000000 in
theorem sector_err (m s t : Int) (w : World) (E : Int) (hE : wit1 m s t s = E) (hne : E ≠ 0) : Calls Try.prog 23 #[.agg #[.int .i64 m, .int .i64 s], .int .i64 t] w fun e w' => e = .returned (.tuple #[.int .i64 0, .int .i64 E]) ∧ Bel w w' := by
  have hbl := blocksB m s
  have hda := dataB m s
  have hwi := within1 m s t s
  rw [hE] at hwi
  clear hE
  have hne1 : (E != 0) = true := bne_iff_ne.mpr hne
  have hne2 : (E == 0) = false := beq_eq_false_iff_ne.mpr hne
  generalize blk m s = BL at *
  generalize dat m s = D at *
  have Hbl := Lib.hid hbl
  have Hda := Lib.hid hda
  have Hwi := Lib.hid hwi
  clear hbl hda hwi
  go_enter Try.func23, Try.ntmps23
  go_wp2_with fail
  have hg0 : ∀ wx, Bel (w.alloc (Obj.cells #[Value.int IntKind.i64 m, Value.int IntKind.i64 s] 24)) wx → wx.cell? ⟨w.heap.size, 0, none⟩ = some (.int .i64 m) := fun wx hx => cellB hx (by simp [go_sem])
  have hg1 : ∀ wx, Bel (w.alloc (Obj.cells #[Value.int IntKind.i64 m, Value.int IntKind.i64 s] 24)) wx → wx.cell? ⟨w.heap.size, 1, none⟩ = some (.int .i64 s) := fun wx hx => cellB hx (by simp [go_sem])
  have hW := Bel.alloc w (Obj.cells #[Value.int IntKind.i64 m, Value.int IntKind.i64 s] 24)
  have HS : Hid ((w.alloc (Obj.cells #[Value.int IntKind.i64 m, Value.int IntKind.i64 s] 24)).heap.size = w.heap.size + 1) := Lib.hid (by simp)
  generalize w.alloc (Obj.cells #[Value.int IntKind.i64 m, Value.int IntKind.i64 s] 24) = W0 at hg0 hg1 hW HS ⊢
  refine (Hwi.out _ _ (by rw [← HS.out]; simp [go_sem]) (by rw [← HS.out]; simp [go_sem])).mono ?_
  rintro e wb ⟨rfl, hbb⟩
  go_wp2_with fail
  have hW2 : Bel W0 wb := (Bel.alloc W0 _).trans hbb
  go_ret2
  exact ⟨rfl, hW.trans hW2⟩
set_option maxHeartbeats 2000000 in
theorem sector_ok (m s t : Int) (w : World) (hg : gd m s = true) (h0 : 0 ≤ t) (h1 : t < s) : Calls Try.prog 23 #[.agg #[.int .i64 m, .int .i64 s], .int .i64 t] w fun e w' => e = .returned (.tuple #[.int .i64 (100 + t), .int .i64 0]) ∧ Bel w w' := by
  have hgi := (gd_iff m s).1 hg
  have hbl := blocksB m s
  have hda := dataB m s
  have hwi := within1 m s t s
  rw [show wit1 m s t s = 0 by unfold wit1; rw [if_pos hg, if_pos (by omega)]] at hwi
  have Hbl := Lib.hid hbl
  have Hda := Lib.hid hda
  have Hwi := Lib.hid hwi
  clear hbl hda hwi
  clear hg
  go_enter Try.func23, Try.ntmps23
  go_wp2_with fail
  have hg0 : ∀ wx, Bel (w.alloc (Obj.cells #[Value.int IntKind.i64 m, Value.int IntKind.i64 s] 24)) wx → wx.cell? ⟨w.heap.size, 0, none⟩ = some (.int .i64 m) := fun wx hx => cellB hx (by simp [go_sem])
  have hg1 : ∀ wx, Bel (w.alloc (Obj.cells #[Value.int IntKind.i64 m, Value.int IntKind.i64 s] 24)) wx → wx.cell? ⟨w.heap.size, 1, none⟩ = some (.int .i64 s) := fun wx hx => cellB hx (by simp [go_sem])
  have hW := Bel.alloc w (Obj.cells #[Value.int IntKind.i64 m, Value.int IntKind.i64 s] 24)
  have HS : Hid ((w.alloc (Obj.cells #[Value.int IntKind.i64 m, Value.int IntKind.i64 s] 24)).heap.size = w.heap.size + 1) := Lib.hid (by simp)
  generalize w.alloc (Obj.cells #[Value.int IntKind.i64 m, Value.int IntKind.i64 s] 24) = W0 at hg0 hg1 hW HS ⊢
  refine (Hwi.out _ _ (by rw [← HS.out]; simp [go_sem]) (by rw [← HS.out]; simp [go_sem])).mono ?_
  rintro e wb ⟨rfl, hbb⟩
  go_wp2_with fail
  have hW2 : Bel W0 wb := (Bel.alloc W0 _).trans hbb

  go_ret2
  exact ⟨rfl, hW.trans (by assumption)⟩
set_option maxHeartbeats 2000000 in
theorem column_err (m s t c : Int) (w : World) (E : Int) (hE : wit2 m s t s c m = E) (hne : E ≠ 0) : Calls Try.prog 19 #[.agg #[.int .i64 m, .int .i64 s], .int .i64 t, .int .i64 c] w fun e w' => e = .returned (.tuple #[.int .i64 0, .int .i64 E]) ∧ Bel w w' := by
  have hbl := blocksB m s
  have hda := dataB m s
  have hwi := within2 m s t s c m
  rw [hE] at hwi
  clear hE
  have hne1 : (E != 0) = true := bne_iff_ne.mpr hne
  have hne2 : (E == 0) = false := beq_eq_false_iff_ne.mpr hne
  generalize blk m s = BL at *
  generalize dat m s = D at *
  have Hbl := Lib.hid hbl
  have Hda := Lib.hid hda
  have Hwi := Lib.hid hwi
  clear hbl hda hwi
  go_enter Try.func19, Try.ntmps19
  go_wp2_with fail
  have hg0 : ∀ wx, Bel (w.alloc (Obj.cells #[Value.int IntKind.i64 m, Value.int IntKind.i64 s] 24)) wx → wx.cell? ⟨w.heap.size, 0, none⟩ = some (.int .i64 m) := fun wx hx => cellB hx (by simp [go_sem])
  have hg1 : ∀ wx, Bel (w.alloc (Obj.cells #[Value.int IntKind.i64 m, Value.int IntKind.i64 s] 24)) wx → wx.cell? ⟨w.heap.size, 1, none⟩ = some (.int .i64 s) := fun wx hx => cellB hx (by simp [go_sem])
  have hW := Bel.alloc w (Obj.cells #[Value.int IntKind.i64 m, Value.int IntKind.i64 s] 24)
  have HS : Hid ((w.alloc (Obj.cells #[Value.int IntKind.i64 m, Value.int IntKind.i64 s] 24)).heap.size = w.heap.size + 1) := Lib.hid (by simp)
  generalize w.alloc (Obj.cells #[Value.int IntKind.i64 m, Value.int IntKind.i64 s] 24) = W0 at hg0 hg1 hW HS ⊢
  refine (Hwi.out _ _ (by rw [← HS.out]; simp [go_sem]) (by rw [← HS.out]; simp [go_sem]) (by rw [← HS.out]; simp [go_sem]) (by rw [← HS.out]; simp [go_sem])).mono ?_
  rintro e wb ⟨rfl, hbb⟩
  go_wp2_with fail
  have hW2 : Bel W0 wb := (Bel.alloc W0 _).trans hbb
  go_ret2
  exact ⟨rfl, hW.trans hW2⟩
set_option maxHeartbeats 2000000 in
theorem column_ok (m s t c : Int) (w : World) (hg : gd m s = true) (h0 : 0 ≤ t) (h1 : t < s) (h2 : 0 ≤ c) (h3 : c < m) : Calls Try.prog 19 #[.agg #[.int .i64 m, .int .i64 s], .int .i64 t, .int .i64 c] w fun e w' => e = .returned (.tuple #[.int .i64 (((c - pP m t + m) % m + m - 2) % m), .int .i64 0]) ∧ Bel w w' := by
  have hgi := (gd_iff m s).1 hg
  have hbl := blocksB m s
  have hda := dataB m s
  have hwi := within2 m s t s c m
  rw [show wit2 m s t s c m = 0 by unfold wit2; rw [if_pos hg, if_pos (by omega)]] at hwi
  have hp := fun w => pB m s t w hg h0 h1
  have hp0 : 0 ≤ pP m t ∧ pP m t < m := by
    have e1 := Int.emod_nonneg t (show m ≠ 0 by omega)
    have e2 := Int.emod_lt_of_pos t (show 0 < m by omega)
    unfold pP
    omega
  have hr := Int.tmod_eq_emod_of_nonneg (a := c - pP m t + m) (b := m) (by omega)
  have hf0 : 0 ≤ (c - pP m t + m) % m ∧ (c - pP m t + m) % m < m := ⟨Int.emod_nonneg _ (by omega), Int.emod_lt_of_pos _ (by omega)⟩
  have hr2 := Int.tmod_eq_emod_of_nonneg (a := (c - pP m t + m) % m + m - 2) (b := m) (by omega)
  have hDz : (m = 0) = False := eq_false (by omega)
  have hwq : IntKind.i64.wrap (c - pP m t) = c - pP m t := IntWalk.i64_in _ (by omega)
  have hwr : IntKind.i64.wrap (c - pP m t + m) = c - pP m t + m := IntWalk.i64_in _ (by omega)
  have hws : IntKind.i64.wrap ((c - pP m t + m) % m + m) = (c - pP m t + m) % m + m := IntWalk.i64_in _ (by omega)
  have hwt : IntKind.i64.wrap ((c - pP m t + m) % m + m - 2) = (c - pP m t + m) % m + m - 2 := IntWalk.i64_in _ (by omega)
  generalize ((c - pP m t + m) % m + m - 2) % m = R at *
  generalize (c - pP m t + m) % m = F at *
  generalize pP m t = PP at *
  have Hbl := Lib.hid hbl
  have Hda := Lib.hid hda
  have Hwi := Lib.hid hwi
  clear hbl hda hwi
  have Hp := Lib.hid hp
  clear hg hgi hp
  go_enter Try.func19, Try.ntmps19
  go_wp2_with fail
  have hg0 : ∀ wx, Bel (w.alloc (Obj.cells #[Value.int IntKind.i64 m, Value.int IntKind.i64 s] 24)) wx → wx.cell? ⟨w.heap.size, 0, none⟩ = some (.int .i64 m) := fun wx hx => cellB hx (by simp [go_sem])
  have hg1 : ∀ wx, Bel (w.alloc (Obj.cells #[Value.int IntKind.i64 m, Value.int IntKind.i64 s] 24)) wx → wx.cell? ⟨w.heap.size, 1, none⟩ = some (.int .i64 s) := fun wx hx => cellB hx (by simp [go_sem])
  have hW := Bel.alloc w (Obj.cells #[Value.int IntKind.i64 m, Value.int IntKind.i64 s] 24)
  have HS : Hid ((w.alloc (Obj.cells #[Value.int IntKind.i64 m, Value.int IntKind.i64 s] 24)).heap.size = w.heap.size + 1) := Lib.hid (by simp)
  generalize w.alloc (Obj.cells #[Value.int IntKind.i64 m, Value.int IntKind.i64 s] 24) = W0 at hg0 hg1 hW HS ⊢
  refine (Hwi.out _ _ (by rw [← HS.out]; simp [go_sem]) (by rw [← HS.out]; simp [go_sem]) (by rw [← HS.out]; simp [go_sem]) (by rw [← HS.out]; simp [go_sem])).mono ?_
  rintro e wb ⟨rfl, hbb⟩
  go_wp2_with fail
  have hW2 : Bel W0 wb := (Bel.alloc W0 _).trans hbb
  go_region_held3 (fun w' => Bel W0 w') (first | assumption | exact Bel.drew _ | exact Bel.trans (by assumption) (Bel.drew _) | exact Bel.trans (by assumption) (by assumption) | exact Bel.trans (by assumption) (Bel.alloc _ _)) ((first | (go_at_call 32; refine (Hp.out _).mono ?_; rintro e wc ⟨rfl, hbc⟩)))
  go_wp2_with fail
  go_ret2
  exact ⟨rfl, hW.trans (by assumption)⟩
end Go.Proofs.Ytgjalgmnkadbaaa
