/- Geometry: the walk of Row. -/
import Derived.Test.YtgjalgmnkadbaaaNums
set_option linter.unusedVariables false
set_option linter.unusedSimpArgs false
namespace Go.Proofs.Ytgjalgmnkadbaaa
open Go.RowKit Go.Proofs.YtgjalgmnkadbaaaW.PrintWords Go.Proofs.YtgjalgmnkadbaaaW.PrintMore
def mem1 (m t c : Int) : Int := (pP m t + tuR m c) % m
def rowL (m t : Int) (k : Nat) : List Int := (List.range k).map fun (c : Nat) => mem1 m t c
set_option maxHeartbeats 2000000 in
theorem row_ok (m s t : Int) (w : World) (hg : gd m s = true) (h0 : 0 ≤ t) (h1 : t < s) : Calls Try.prog 21 #[.agg #[.int .i64 m, .int .i64 s], .int .i64 t] w fun e w' => ∃ v : Value, e = .returned (.tuple #[v, .int .i64 0]) ∧ Kd.R (Kd.int .i64) 3 w' w.heap.size (fun _ => True) v (rowL m t m.toNat) ∧ Bel w w' := by
  have hgi := (gd_iff m s).1 hg
  have hwi := within1 m s t s
  rw [show wit1 m s t s = 0 by unfold wit1; rw [if_pos hg, if_pos (by omega)]] at hwi
  have Hwi := Lib.hid hwi
  clear hwi
  go_enter Try.func21, Try.ntmps21
  go_wp2_with fail
  have hg0 : ∀ wx, Bel (w.alloc (Obj.cells #[Value.int IntKind.i64 m, Value.int IntKind.i64 s] 24)) wx → wx.cell? ⟨w.heap.size, 0, none⟩ = some (.int .i64 m) := fun wx hx => cellB hx (by simp [go_sem])
  have hg1 : ∀ wx, Bel (w.alloc (Obj.cells #[Value.int IntKind.i64 m, Value.int IntKind.i64 s] 24)) wx → wx.cell? ⟨w.heap.size, 1, none⟩ = some (.int .i64 s) := fun wx hx => cellB hx (by simp [go_sem])
  have hW := Bel.alloc w (Obj.cells #[Value.int IntKind.i64 m, Value.int IntKind.i64 s] 24)
  have HS : Hid ((w.alloc (Obj.cells #[Value.int IntKind.i64 m, Value.int IntKind.i64 s] 24)).heap.size = w.heap.size + 1) := Lib.hid (by simp)
  generalize w.alloc (Obj.cells #[Value.int IntKind.i64 m, Value.int IntKind.i64 s] 24) = W0 at hg0 hg1 hW HS ⊢
  refine (Hwi.out _ _ (by rw [← HS.out]; simp [go_sem]) (by rw [← HS.out]; simp [go_sem])).mono ?_
  rintro e wb ⟨rfl, hbb⟩
  have hW2 : Bel W0 wb := (Bel.alloc W0 _).trans hbb
  go_wp2_with fail
  go_loopw [7, 23] (fun v7 v23 wr => ∃ (k : Nat), (k : Int) ≤ m ∧ v23 = .int .i64 k ∧ Hid (Bel W0 wr) ∧ Hid (Kd.R (Kd.int .i64) 3 wr W0.heap.size (fun _ => True) v7 (rowL m t k))) (fun _ v23 _ => m.toNat - (intOf v23).toNat)
  case atStart => exact ⟨0, by omega, rfl, Lib.hid hW2, Lib.hid (Kd.R_nil _ _ _ _ _)⟩
  case round =>
    obtain ⟨k, hk, rfl, hB, hR⟩ := hrel
    by_cases hlt : (k : Int) < m
    · have Hm := Lib.hid (fun w => member_ok m s t k w hg h0 h1 (by omega) hlt)
      have hBr := hB.out
      have hsz := hBr.size
      clear hg
      go_wp2_with fail
      refine (Hm.out _).mono ?_
      rintro e w1 ⟨rfl, hb1⟩
      have hB1 : Bel W0 w1 := hBr.trans hb1
      have hR1 := Lib.hid (Kd.R_below hR.out hb1)
      clear hR hB
      have hsz1 := hB1.size
      have hl : (rowL m t k).length = k := by simp [rowL]
      have Hl := Lib.hid hl
      have he : rowL m t k ++ [mem1 m t k] = rowL m t (k + 1) := by simp [rowL, List.range_succ]
      have He := Lib.hid he
      clear hl he
      rw [show (pP m t + tuR m (k : Int)) % m = mem1 m t k from rfl]
      generalize mem1 m t (k : Int) = p at *
      go_wp2_with (at_builtin; refine Kd.R_append (Kd.int .i64) (w0 := W0) W0.heap.size rfl _ _ 42 3 (.int .i64 0) 8 rfl Try.underlying42 PGeomRows.info3 rfl (by decide) (by omega) u7 (rowL m t k) p [.int .i64 p] (fun _ => True) (fun _ => False) rfl rfl ?aP (fun _ hk => hk.elim) ?aF ?aO ?aB ?aS ?aL ?_; (case aP => exact rfl); (case aF => exact (fun _ _ => trivial)); (case aO => exact hR1.out); (case aB => exact hB1.below); (case aS => exact hsz1); (case aL => rw [Hl.out]; omega); intro v1 w2 ho hb hg hat; rw [He.out] at ho; have HO := Lib.hid ho; have HB := Lib.hid hb; clear ho hb hg hat)
      exact ⟨⟨k + 1, by omega, by go_num, HB, HO⟩, by simp [intOf]; omega⟩
    · have hkm : k = m.toNat := by omega
      have Hk := Lib.hid hkm
      clear hkm
      have hBr := hB.out
      go_wp2_with fail
      refine bodyPost_ret (v := .tuple #[u7, .int .i64 0]) (by simp [results, Try.results21, go_sem]) rfl ⟨u7, rfl, ?_, hW.trans hBr⟩
      rw [← Hk.out]
      exact Kd.R_lower hR.out (by have := HS.out; omega)
set_option maxHeartbeats 2000000 in
theorem row_err (m s t : Int) (w : World) (E : Int) (hE : wit1 m s t s = E) (hne : E ≠ 0) : Calls Try.prog 21 #[.agg #[.int .i64 m, .int .i64 s], .int .i64 t] w fun e w' => e = .returned (.tuple #[.slice none 0 0, .int .i64 E]) ∧ Bel w w' := by
  have hwi := within1 m s t s
  rw [hE] at hwi
  clear hE
  have hne1 : (E != 0) = true := bne_iff_ne.mpr hne
  have hne2 : (E == 0) = false := beq_eq_false_iff_ne.mpr hne
  have Hwi := Lib.hid hwi
  clear hwi
  go_enter Try.func21, Try.ntmps21
  go_wp2_with fail
  have hg0 : ∀ wx, Bel (w.alloc (Obj.cells #[Value.int IntKind.i64 m, Value.int IntKind.i64 s] 24)) wx → wx.cell? ⟨w.heap.size, 0, none⟩ = some (.int .i64 m) := fun wx hx => cellB hx (by simp [go_sem])
  have hg1 : ∀ wx, Bel (w.alloc (Obj.cells #[Value.int IntKind.i64 m, Value.int IntKind.i64 s] 24)) wx → wx.cell? ⟨w.heap.size, 1, none⟩ = some (.int .i64 s) := fun wx hx => cellB hx (by simp [go_sem])
  have hW := Bel.alloc w (Obj.cells #[Value.int IntKind.i64 m, Value.int IntKind.i64 s] 24)
  have HS : Hid ((w.alloc (Obj.cells #[Value.int IntKind.i64 m, Value.int IntKind.i64 s] 24)).heap.size = w.heap.size + 1) := Lib.hid (by simp)
  generalize w.alloc (Obj.cells #[Value.int IntKind.i64 m, Value.int IntKind.i64 s] 24) = W0 at hg0 hg1 hW HS ⊢
  refine (Hwi.out _ _ (by rw [← HS.out]; simp [go_sem]) (by rw [← HS.out]; simp [go_sem])).mono ?_
  rintro e wb ⟨rfl, hbb⟩
  have hW2 : Bel W0 wb := (Bel.alloc W0 _).trans hbb
  go_wp2_with fail
  go_ret2
  exact ⟨rfl, hW.trans hW2⟩
end Go.Proofs.Ytgjalgmnkadbaaa
