/- GeomGood, the walk. -/
import Derived.Test.YtgjalgmnkadbaaaWakes
import Derived.Test.YtgjalgmnkadbaaaPGeomGoodx1
import Derived.OpenShut
import Derived.Test.YtgjalgmnkadbaaaQuietC
set_option linter.unusedVariables false
set_option linter.unusedSimpArgs false
namespace Go.Proofs.Ytgjalgmnkadbaaa
open Go.RowKit Go.Proofs.YtgjalgmnkadbaaaW.PrintWords Go.Proofs.YtgjalgmnkadbaaaW.PrintMore
theorem rgoodB (m s : Int) (w : World) : Calls Try.prog 13 #[.agg #[.int .i64 m, .int .i64 s]] w fun e w' => e = .returned (.bool (gd m s)) ∧ Bel w w' := by
  refine PGeomRows.trunnionref09_Good.calls m s _ w ?_
  unfold PGeomRows.trunnionref09_Good.f gd
  by_cases h1 : 4 ≤ m <;> by_cases h2 : m ≤ 32 <;> by_cases h3 : 1 ≤ s <;> simp [h1, h2, h3]
theorem rblocksB (m s : Int) (w : World) : Calls Try.prog 16 #[.agg #[.int .i64 m, .int .i64 s]] w fun e w' => e = .returned (.int .i64 (blk m s)) ∧ Bel w w' := by
  refine PGeomGood.trunnionref09_Blocks.calls m s _ w ?_
  have hgf : PGeomGood.trunnionref09_Good.f m s = some (gd m s) := gd_f m s
  have h := gd_iff m s
  unfold PGeomGood.trunnionref09_Blocks.f blk
  rw [hgf]
  by_cases hg : gd m s = true
  · have h := h.1 hg
    have e1 : wrap64 (m - 2) = m - 2 := by unfold wrap64; omega
    have hle : (m - 2) * s ≤ 30 * 64 := Int.mul_le_mul (by omega) (by omega) (by omega) (by omega)
    have h0 : 0 ≤ (m - 2) * s := Int.mul_nonneg (by omega) (by omega)
    simp only [hg, Option.bind_some, if_true, e1]
    congr 1
    unfold wrap64
    omega
  · simp [hg]
def sec (m s : Int) : Int := if gd m s = true then 100 + s else 0
theorem sectorsB (m s : Int) (w : World) : Calls Try.prog 17 #[.agg #[.int .i64 m, .int .i64 s]] w fun e w' => e = .returned (.int .i64 (sec m s)) ∧ Bel w w' := by
  refine PGeomGood.geom_Geometry_Sectors.calls m s _ w ?_
  have hgf : PGeomGood.geom_Geometry_Good.f m s = some (gd m s) := gd_f m s
  have h := gd_iff m s
  unfold PGeomGood.geom_Geometry_Sectors.f sec
  rw [hgf]
  by_cases hg : gd m s = true
  · have h := h.1 hg
    simp [hg]
    unfold wrap64
    omega
  · simp [hg]
theorem toC {CC : World → Prop} {f : FuncId} {args : Array Value} {v : Value} (h : ∀ w, Calls Try.prog f args w fun e w' => e = .returned v ∧ Bel w w') (tr : Hid (∀ {wx wy : World}, CC wx → Bel wx wy → CC wy)) : ∀ w, CC w → Calls Try.prog f args w fun e w' => e = .returned v ∧ CC w' :=
  fun w hw => (h w).mono fun _ _ k => ⟨k.1, tr.out hw k.2⟩
set_option maxHeartbeats 2000000 in
theorem good_calls (m s : Int) (w : World) : Calls Try.prog 4 #[.agg #[.int .i64 m, .int .i64 s]] w fun e w' => e = .returned (.bool true) ∧ Bel w w' := by
  have k1 := goodB m s
  have k2 := rgoodB m s
  have k3 := blocksB m s
  have k4 := rblocksB m s
  have k5 := sectorsB m s
  have k6 := dataB m s
  by_cases hg : gd m s = true
  · rw [hg] at k1 k2
    have hgi := (gd_iff m s).1 hg
    rw [show sec m s = 100 + s by unfold sec; rw [if_pos hg]] at k5
    rw [show dat m s = m - 2 by unfold dat; rw [if_pos hg]] at k6
    have hw1 : IntKind.i64.wrap (m - 2) = m - 2 := IntWalk.i64_in _ (by omega)
    have hw2 : IntKind.i64.wrap (100 + s) = 100 + s := IntWalk.i64_in _ (by omega)
    generalize blk m s = BL at *
    have K1 := Lib.hid k1
    have K2 := Lib.hid k2
    have K3 := Lib.hid k3
    have K4 := Lib.hid k4
    have K5 := Lib.hid k5
    have K6 := Lib.hid k6
    clear k1 k2 k3 k4 k5 k6 hg
    go_enter Try.func4, Try.ntmps4
    go_wp2_with fail
    go_region
    all_goals go_wp2_with fail
    · have fa0 : ∀ wx, Bel ((((w.alloc (Obj.cells #[Value.int IntKind.i64 m, Value.int IntKind.i64 s] 23)).alloc (Obj.cells #[Value.int IntKind.i64 m, Value.int IntKind.i64 s] 24)).alloc (Obj.cells #[Value.int IntKind.i64 m, Value.int IntKind.i64 s] 33)).drew) wx → wx.cell? ⟨w.heap.size + 1, 0, none⟩ = some (.int .i64 m) := fun wx hx => cellB hx (by simp [go_sem])
      have fa1 : ∀ wx, Bel ((((w.alloc (Obj.cells #[Value.int IntKind.i64 m, Value.int IntKind.i64 s] 23)).alloc (Obj.cells #[Value.int IntKind.i64 m, Value.int IntKind.i64 s] 24)).alloc (Obj.cells #[Value.int IntKind.i64 m, Value.int IntKind.i64 s] 33)).drew) wx → wx.cell? ⟨w.heap.size + 1, 1, none⟩ = some (.int .i64 s) := fun wx hx => cellB hx (by simp [go_sem])
      have fb0 : ∀ wx, Bel ((((w.alloc (Obj.cells #[Value.int IntKind.i64 m, Value.int IntKind.i64 s] 23)).alloc (Obj.cells #[Value.int IntKind.i64 m, Value.int IntKind.i64 s] 24)).alloc (Obj.cells #[Value.int IntKind.i64 m, Value.int IntKind.i64 s] 33)).drew) wx → wx.cell? ⟨w.heap.size + 1 + 1, 0, none⟩ = some (.int .i64 m) := fun wx hx => cellB hx (by simp [go_sem])
      have fb1 : ∀ wx, Bel ((((w.alloc (Obj.cells #[Value.int IntKind.i64 m, Value.int IntKind.i64 s] 23)).alloc (Obj.cells #[Value.int IntKind.i64 m, Value.int IntKind.i64 s] 24)).alloc (Obj.cells #[Value.int IntKind.i64 m, Value.int IntKind.i64 s] 33)).drew) wx → wx.cell? ⟨w.heap.size + 1 + 1, 1, none⟩ = some (.int .i64 s) := fun wx hx => cellB hx (by simp [go_sem])
      have hW : Bel w ((((w.alloc (Obj.cells #[Value.int IntKind.i64 m, Value.int IntKind.i64 s] 23)).alloc (Obj.cells #[Value.int IntKind.i64 m, Value.int IntKind.i64 s] 24)).alloc (Obj.cells #[Value.int IntKind.i64 m, Value.int IntKind.i64 s] 33)).drew) := (((Bel.alloc _ _).trans (Bel.alloc _ _)).trans (Bel.alloc _ _)).trans (Bel.drew _)
      generalize (((w.alloc (Obj.cells #[Value.int IntKind.i64 m, Value.int IntKind.i64 s] 23)).alloc (Obj.cells #[Value.int IntKind.i64 m, Value.int IntKind.i64 s] 24)).alloc (Obj.cells #[Value.int IntKind.i64 m, Value.int IntKind.i64 s] 33)).drew = W0 at fa0 fa1 fb0 fb1 hW ⊢
      refine (K2.out _).mono ?_
      rintro e w1 ⟨rfl, hb1⟩
      have fa0w := fa0 _ hb1
      have fa1w := fa1 _ hb1
      have fb0w := fb0 _ hb1
      have fb1w := fb1 _ hb1
      go_wp2_with fail
      obtain ⟨CC, hCC⟩ : ∃ CC : World → Prop, CC = fun w' => Bel W0 w' := ⟨_, rfl⟩
      have hc : ∀ wx, CC wx → wx.cell? ⟨w.heap.size + 1, 0, none⟩ = some (.int .i64 m) ∧ wx.cell? ⟨w.heap.size + 1, 1, none⟩ = some (.int .i64 s) ∧ wx.cell? ⟨w.heap.size + 1 + 1, 0, none⟩ = some (.int .i64 m) ∧ wx.cell? ⟨w.heap.size + 1 + 1, 1, none⟩ = some (.int .i64 s) := fun wx hx => by rw [hCC] at hx; exact ⟨fa0 _ hx, fa1 _ hx, fb0 _ hx, fb1 _ hx⟩
      have Htr : Hid (∀ {wx wy : World}, CC wx → Bel wx wy → CC wy) := Lib.hid (fun hx hy => by rw [hCC] at hx ⊢; exact Bel.trans hx hy)
      have Hdr : Hid (CC w1.drew) := Lib.hid (by rw [hCC]; exact hb1.trans (Bel.drew _))
      have Hfin : Hid (∀ wy, CC wy → Bel w wy) := Lib.hid (fun wy hy => by rw [hCC] at hy; exact hW.trans hy)
      have Hc := Lib.hid hc
      clear hCC hc fa0 fa1 fb0 fb1 fa0w fa1w fb0w fb1w
      have J0 := Lib.hid (toC wakesB Htr)
      have J1 := Lib.hid (toC K1.out Htr)
      have J2 := Lib.hid (toC K3.out Htr)
      have J3 := Lib.hid (toC K4.out Htr)
      have J4 := Lib.hid (toC K5.out Htr)
      have J5 := Lib.hid (toC K6.out Htr)
      refine QuietC.region CC (by kernel_rfl) (by kernel_rfl) Hdr.out ?_
      repeat
        (refine QuietC.step (fun K hK => ?_)
         first
           | (apply QuietC.val
              case hw => go_simp
              case hrun =>
                intro wx hw
                obtain ⟨q0, q1, q2, q3⟩ := Hc.out wx hw
                go_simp
                try rfl
              go_simp
              refine hK _ ?_
              clear hK K)
           | (apply QuietC.call
              case hw => go_simp
              case hrun =>
                intro wx hw
                go_simp
                try exact ⟨rfl, rfl⟩
              case hc => first | (with_reducible exact J0.out) | (with_reducible exact J1.out) | (with_reducible exact J2.out) | (with_reducible exact J3.out) | (with_reducible exact J4.out) | (with_reducible exact J5.out)
              go_simp
              refine hK _ ?_
              clear hK K))
      refine wpQuiet_nil ?_
      intro wy hy
      have Hdr2 : Hid (CC wy.drew) := Lib.hid (Htr.out hy (Bel.drew _))
      clear hy
      go_wp2_with fail
      refine QuietC.region CC (by kernel_rfl) (by kernel_rfl) Hdr2.out ?_
      repeat
        (refine QuietC.step (fun K hK => ?_)
         first
           | (apply QuietC.val
              case hw => go_simp
              case hrun =>
                intro wx hw
                obtain ⟨q0, q1, q2, q3⟩ := Hc.out wx hw
                go_simp
                try rfl
              go_simp
              refine hK _ ?_
              clear hK K)
           | (apply QuietC.call
              case hw => go_simp
              case hrun =>
                intro wx hw
                go_simp
                try exact ⟨rfl, rfl⟩
              case hc => first | (with_reducible exact J0.out) | (with_reducible exact J1.out) | (with_reducible exact J2.out) | (with_reducible exact J3.out) | (with_reducible exact J4.out) | (with_reducible exact J5.out)
              go_simp
              refine hK _ ?_
              clear hK K))
      refine wpQuiet_nil ?_
      intro wz hz
      have hz2 := Hfin.out wz hz
      clear Htr Hfin Hdr J0 J1 J2 J3 J4 J5 Hc
      go_wp2_with fail
      go_ret
      exact ⟨rfl, hz2⟩
    · have fa0 : ∀ wx, Bel ((((w.alloc (Obj.cells #[Value.int IntKind.i64 m, Value.int IntKind.i64 s] 23)).alloc (Obj.cells #[Value.int IntKind.i64 m, Value.int IntKind.i64 s] 33)).alloc (Obj.cells #[Value.int IntKind.i64 m, Value.int IntKind.i64 s] 24)).drew) wx → wx.cell? ⟨w.heap.size + 1 + 1, 0, none⟩ = some (.int .i64 m) := fun wx hx => cellB hx (by simp [go_sem])
      have fa1 : ∀ wx, Bel ((((w.alloc (Obj.cells #[Value.int IntKind.i64 m, Value.int IntKind.i64 s] 23)).alloc (Obj.cells #[Value.int IntKind.i64 m, Value.int IntKind.i64 s] 33)).alloc (Obj.cells #[Value.int IntKind.i64 m, Value.int IntKind.i64 s] 24)).drew) wx → wx.cell? ⟨w.heap.size + 1 + 1, 1, none⟩ = some (.int .i64 s) := fun wx hx => cellB hx (by simp [go_sem])
      have fb0 : ∀ wx, Bel ((((w.alloc (Obj.cells #[Value.int IntKind.i64 m, Value.int IntKind.i64 s] 23)).alloc (Obj.cells #[Value.int IntKind.i64 m, Value.int IntKind.i64 s] 33)).alloc (Obj.cells #[Value.int IntKind.i64 m, Value.int IntKind.i64 s] 24)).drew) wx → wx.cell? ⟨w.heap.size + 1, 0, none⟩ = some (.int .i64 m) := fun wx hx => cellB hx (by simp [go_sem])
      have fb1 : ∀ wx, Bel ((((w.alloc (Obj.cells #[Value.int IntKind.i64 m, Value.int IntKind.i64 s] 23)).alloc (Obj.cells #[Value.int IntKind.i64 m, Value.int IntKind.i64 s] 33)).alloc (Obj.cells #[Value.int IntKind.i64 m, Value.int IntKind.i64 s] 24)).drew) wx → wx.cell? ⟨w.heap.size + 1, 1, none⟩ = some (.int .i64 s) := fun wx hx => cellB hx (by simp [go_sem])
      have hW : Bel w ((((w.alloc (Obj.cells #[Value.int IntKind.i64 m, Value.int IntKind.i64 s] 23)).alloc (Obj.cells #[Value.int IntKind.i64 m, Value.int IntKind.i64 s] 33)).alloc (Obj.cells #[Value.int IntKind.i64 m, Value.int IntKind.i64 s] 24)).drew) := (((Bel.alloc _ _).trans (Bel.alloc _ _)).trans (Bel.alloc _ _)).trans (Bel.drew _)
      generalize (((w.alloc (Obj.cells #[Value.int IntKind.i64 m, Value.int IntKind.i64 s] 23)).alloc (Obj.cells #[Value.int IntKind.i64 m, Value.int IntKind.i64 s] 33)).alloc (Obj.cells #[Value.int IntKind.i64 m, Value.int IntKind.i64 s] 24)).drew = W0 at fa0 fa1 fb0 fb1 hW ⊢
      refine (K2.out _).mono ?_
      rintro e w1 ⟨rfl, hb1⟩
      have fa0w := fa0 _ hb1
      have fa1w := fa1 _ hb1
      have fb0w := fb0 _ hb1
      have fb1w := fb1 _ hb1
      go_wp2_with fail
      obtain ⟨CC, hCC⟩ : ∃ CC : World → Prop, CC = fun w' => Bel W0 w' := ⟨_, rfl⟩
      have hc : ∀ wx, CC wx → wx.cell? ⟨w.heap.size + 1 + 1, 0, none⟩ = some (.int .i64 m) ∧ wx.cell? ⟨w.heap.size + 1 + 1, 1, none⟩ = some (.int .i64 s) ∧ wx.cell? ⟨w.heap.size + 1, 0, none⟩ = some (.int .i64 m) ∧ wx.cell? ⟨w.heap.size + 1, 1, none⟩ = some (.int .i64 s) := fun wx hx => by rw [hCC] at hx; exact ⟨fa0 _ hx, fa1 _ hx, fb0 _ hx, fb1 _ hx⟩
      have Htr : Hid (∀ {wx wy : World}, CC wx → Bel wx wy → CC wy) := Lib.hid (fun hx hy => by rw [hCC] at hx ⊢; exact Bel.trans hx hy)
      have Hdr : Hid (CC w1.drew) := Lib.hid (by rw [hCC]; exact hb1.trans (Bel.drew _))
      have Hfin : Hid (∀ wy, CC wy → Bel w wy) := Lib.hid (fun wy hy => by rw [hCC] at hy; exact hW.trans hy)
      have Hc := Lib.hid hc
      clear hCC hc fa0 fa1 fb0 fb1 fa0w fa1w fb0w fb1w
      have J0 := Lib.hid (toC wakesB Htr)
      have J1 := Lib.hid (toC K1.out Htr)
      have J2 := Lib.hid (toC K3.out Htr)
      have J3 := Lib.hid (toC K4.out Htr)
      have J4 := Lib.hid (toC K5.out Htr)
      have J5 := Lib.hid (toC K6.out Htr)
      refine QuietC.region CC (by kernel_rfl) (by kernel_rfl) Hdr.out ?_
      repeat
        (refine QuietC.step (fun K hK => ?_)
         first
           | (apply QuietC.val
              case hw => go_simp
              case hrun =>
                intro wx hw
                obtain ⟨q0, q1, q2, q3⟩ := Hc.out wx hw
                go_simp
                try rfl
              go_simp
              refine hK _ ?_
              clear hK K)
           | (apply QuietC.call
              case hw => go_simp
              case hrun =>
                intro wx hw
                go_simp
                try exact ⟨rfl, rfl⟩
              case hc => first | (with_reducible exact J0.out) | (with_reducible exact J1.out) | (with_reducible exact J2.out) | (with_reducible exact J3.out) | (with_reducible exact J4.out) | (with_reducible exact J5.out)
              go_simp
              refine hK _ ?_
              clear hK K))
      refine wpQuiet_nil ?_
      intro wy hy
      have Hdr2 : Hid (CC wy.drew) := Lib.hid (Htr.out hy (Bel.drew _))
      clear hy
      go_wp2_with fail
      refine QuietC.region CC (by kernel_rfl) (by kernel_rfl) Hdr2.out ?_
      repeat
        (refine QuietC.step (fun K hK => ?_)
         first
           | (apply QuietC.val
              case hw => go_simp
              case hrun =>
                intro wx hw
                obtain ⟨q0, q1, q2, q3⟩ := Hc.out wx hw
                go_simp
                try rfl
              go_simp
              refine hK _ ?_
              clear hK K)
           | (apply QuietC.call
              case hw => go_simp
              case hrun =>
                intro wx hw
                go_simp
                try exact ⟨rfl, rfl⟩
              case hc => first | (with_reducible exact J0.out) | (with_reducible exact J1.out) | (with_reducible exact J2.out) | (with_reducible exact J3.out) | (with_reducible exact J4.out) | (with_reducible exact J5.out)
              go_simp
              refine hK _ ?_
              clear hK K))
      refine wpQuiet_nil ?_
      intro wz hz
      have hz2 := Hfin.out wz hz
      clear Htr Hfin Hdr J0 J1 J2 J3 J4 J5 Hc
      go_wp2_with fail
      go_ret
      exact ⟨rfl, hz2⟩
  · have hgf : gd m s = false := by simpa using hg
    rw [hgf] at k1 k2
    rw [show sec m s = 0 by unfold sec; rw [if_neg hg]] at k5
    rw [show dat m s = 0 by unfold dat; rw [if_neg hg]] at k6
    clear hgf
    generalize blk m s = BL at *
    have K1 := Lib.hid k1
    have K2 := Lib.hid k2
    have K3 := Lib.hid k3
    have K4 := Lib.hid k4
    have K5 := Lib.hid k5
    have K6 := Lib.hid k6
    clear k1 k2 k3 k4 k5 k6 hg
    go_enter Try.func4, Try.ntmps4
    go_wp2_with fail
    go_region
    all_goals go_wp2_with fail
    · have fa0 : ∀ wx, Bel ((((w.alloc (Obj.cells #[Value.int IntKind.i64 m, Value.int IntKind.i64 s] 23)).alloc (Obj.cells #[Value.int IntKind.i64 m, Value.int IntKind.i64 s] 24)).alloc (Obj.cells #[Value.int IntKind.i64 m, Value.int IntKind.i64 s] 33)).drew) wx → wx.cell? ⟨w.heap.size + 1, 0, none⟩ = some (.int .i64 m) := fun wx hx => cellB hx (by simp [go_sem])
      have fa1 : ∀ wx, Bel ((((w.alloc (Obj.cells #[Value.int IntKind.i64 m, Value.int IntKind.i64 s] 23)).alloc (Obj.cells #[Value.int IntKind.i64 m, Value.int IntKind.i64 s] 24)).alloc (Obj.cells #[Value.int IntKind.i64 m, Value.int IntKind.i64 s] 33)).drew) wx → wx.cell? ⟨w.heap.size + 1, 1, none⟩ = some (.int .i64 s) := fun wx hx => cellB hx (by simp [go_sem])
      have fb0 : ∀ wx, Bel ((((w.alloc (Obj.cells #[Value.int IntKind.i64 m, Value.int IntKind.i64 s] 23)).alloc (Obj.cells #[Value.int IntKind.i64 m, Value.int IntKind.i64 s] 24)).alloc (Obj.cells #[Value.int IntKind.i64 m, Value.int IntKind.i64 s] 33)).drew) wx → wx.cell? ⟨w.heap.size + 1 + 1, 0, none⟩ = some (.int .i64 m) := fun wx hx => cellB hx (by simp [go_sem])
      have fb1 : ∀ wx, Bel ((((w.alloc (Obj.cells #[Value.int IntKind.i64 m, Value.int IntKind.i64 s] 23)).alloc (Obj.cells #[Value.int IntKind.i64 m, Value.int IntKind.i64 s] 24)).alloc (Obj.cells #[Value.int IntKind.i64 m, Value.int IntKind.i64 s] 33)).drew) wx → wx.cell? ⟨w.heap.size + 1 + 1, 1, none⟩ = some (.int .i64 s) := fun wx hx => cellB hx (by simp [go_sem])
      have hW : Bel w ((((w.alloc (Obj.cells #[Value.int IntKind.i64 m, Value.int IntKind.i64 s] 23)).alloc (Obj.cells #[Value.int IntKind.i64 m, Value.int IntKind.i64 s] 24)).alloc (Obj.cells #[Value.int IntKind.i64 m, Value.int IntKind.i64 s] 33)).drew) := (((Bel.alloc _ _).trans (Bel.alloc _ _)).trans (Bel.alloc _ _)).trans (Bel.drew _)
      generalize (((w.alloc (Obj.cells #[Value.int IntKind.i64 m, Value.int IntKind.i64 s] 23)).alloc (Obj.cells #[Value.int IntKind.i64 m, Value.int IntKind.i64 s] 24)).alloc (Obj.cells #[Value.int IntKind.i64 m, Value.int IntKind.i64 s] 33)).drew = W0 at fa0 fa1 fb0 fb1 hW ⊢
      refine (K2.out _).mono ?_
      rintro e w1 ⟨rfl, hb1⟩
      have fa0w := fa0 _ hb1
      have fa1w := fa1 _ hb1
      have fb0w := fb0 _ hb1
      have fb1w := fb1 _ hb1
      go_wp2_with fail
      obtain ⟨CC, hCC⟩ : ∃ CC : World → Prop, CC = fun w' => Bel W0 w' := ⟨_, rfl⟩
      have hc : ∀ wx, CC wx → wx.cell? ⟨w.heap.size + 1, 0, none⟩ = some (.int .i64 m) ∧ wx.cell? ⟨w.heap.size + 1, 1, none⟩ = some (.int .i64 s) ∧ wx.cell? ⟨w.heap.size + 1 + 1, 0, none⟩ = some (.int .i64 m) ∧ wx.cell? ⟨w.heap.size + 1 + 1, 1, none⟩ = some (.int .i64 s) := fun wx hx => by rw [hCC] at hx; exact ⟨fa0 _ hx, fa1 _ hx, fb0 _ hx, fb1 _ hx⟩
      have Htr : Hid (∀ {wx wy : World}, CC wx → Bel wx wy → CC wy) := Lib.hid (fun hx hy => by rw [hCC] at hx ⊢; exact Bel.trans hx hy)
      have Hdr : Hid (CC w1.drew) := Lib.hid (by rw [hCC]; exact hb1.trans (Bel.drew _))
      have Hfin : Hid (∀ wy, CC wy → Bel w wy) := Lib.hid (fun wy hy => by rw [hCC] at hy; exact hW.trans hy)
      have Hc := Lib.hid hc
      clear hCC hc fa0 fa1 fb0 fb1 fa0w fa1w fb0w fb1w
      have J0 := Lib.hid (toC wakesB Htr)
      have J1 := Lib.hid (toC K1.out Htr)
      have J2 := Lib.hid (toC K3.out Htr)
      have J3 := Lib.hid (toC K4.out Htr)
      have J4 := Lib.hid (toC K5.out Htr)
      have J5 := Lib.hid (toC K6.out Htr)
      refine QuietC.region CC (by kernel_rfl) (by kernel_rfl) Hdr.out ?_
      repeat
        (refine QuietC.step (fun K hK => ?_)
         first
           | (apply QuietC.val
              case hw => go_simp
              case hrun =>
                intro wx hw
                obtain ⟨q0, q1, q2, q3⟩ := Hc.out wx hw
                go_simp
                try rfl
              go_simp
              refine hK _ ?_
              clear hK K)
           | (apply QuietC.call
              case hw => go_simp
              case hrun =>
                intro wx hw
                go_simp
                try exact ⟨rfl, rfl⟩
              case hc => first | (with_reducible exact J0.out) | (with_reducible exact J1.out) | (with_reducible exact J2.out) | (with_reducible exact J3.out) | (with_reducible exact J4.out) | (with_reducible exact J5.out)
              go_simp
              refine hK _ ?_
              clear hK K))
      refine wpQuiet_nil ?_
      intro wz hz
      have hz2 := Hfin.out wz hz
      clear Htr Hfin Hdr J0 J1 J2 J3 J4 J5 Hc
      go_wp2_with fail
      go_ret
      exact ⟨rfl, hz2⟩
    · have fa0 : ∀ wx, Bel ((((w.alloc (Obj.cells #[Value.int IntKind.i64 m, Value.int IntKind.i64 s] 23)).alloc (Obj.cells #[Value.int IntKind.i64 m, Value.int IntKind.i64 s] 33)).alloc (Obj.cells #[Value.int IntKind.i64 m, Value.int IntKind.i64 s] 24)).drew) wx → wx.cell? ⟨w.heap.size + 1 + 1, 0, none⟩ = some (.int .i64 m) := fun wx hx => cellB hx (by simp [go_sem])
      have fa1 : ∀ wx, Bel ((((w.alloc (Obj.cells #[Value.int IntKind.i64 m, Value.int IntKind.i64 s] 23)).alloc (Obj.cells #[Value.int IntKind.i64 m, Value.int IntKind.i64 s] 33)).alloc (Obj.cells #[Value.int IntKind.i64 m, Value.int IntKind.i64 s] 24)).drew) wx → wx.cell? ⟨w.heap.size + 1 + 1, 1, none⟩ = some (.int .i64 s) := fun wx hx => cellB hx (by simp [go_sem])
      have fb0 : ∀ wx, Bel ((((w.alloc (Obj.cells #[Value.int IntKind.i64 m, Value.int IntKind.i64 s] 23)).alloc (Obj.cells #[Value.int IntKind.i64 m, Value.int IntKind.i64 s] 33)).alloc (Obj.cells #[Value.int IntKind.i64 m, Value.int IntKind.i64 s] 24)).drew) wx → wx.cell? ⟨w.heap.size + 1, 0, none⟩ = some (.int .i64 m) := fun wx hx => cellB hx (by simp [go_sem])
      have fb1 : ∀ wx, Bel ((((w.alloc (Obj.cells #[Value.int IntKind.i64 m, Value.int IntKind.i64 s] 23)).alloc (Obj.cells #[Value.int IntKind.i64 m, Value.int IntKind.i64 s] 33)).alloc (Obj.cells #[Value.int IntKind.i64 m, Value.int IntKind.i64 s] 24)).drew) wx → wx.cell? ⟨w.heap.size + 1, 1, none⟩ = some (.int .i64 s) := fun wx hx => cellB hx (by simp [go_sem])
      have hW : Bel w ((((w.alloc (Obj.cells #[Value.int IntKind.i64 m, Value.int IntKind.i64 s] 23)).alloc (Obj.cells #[Value.int IntKind.i64 m, Value.int IntKind.i64 s] 33)).alloc (Obj.cells #[Value.int IntKind.i64 m, Value.int IntKind.i64 s] 24)).drew) := (((Bel.alloc _ _).trans (Bel.alloc _ _)).trans (Bel.alloc _ _)).trans (Bel.drew _)
      generalize (((w.alloc (Obj.cells #[Value.int IntKind.i64 m, Value.int IntKind.i64 s] 23)).alloc (Obj.cells #[Value.int IntKind.i64 m, Value.int IntKind.i64 s] 33)).alloc (Obj.cells #[Value.int IntKind.i64 m, Value.int IntKind.i64 s] 24)).drew = W0 at fa0 fa1 fb0 fb1 hW ⊢
      refine (K2.out _).mono ?_
      rintro e w1 ⟨rfl, hb1⟩
      have fa0w := fa0 _ hb1
      have fa1w := fa1 _ hb1
      have fb0w := fb0 _ hb1
      have fb1w := fb1 _ hb1
      go_wp2_with fail
      obtain ⟨CC, hCC⟩ : ∃ CC : World → Prop, CC = fun w' => Bel W0 w' := ⟨_, rfl⟩
      have hc : ∀ wx, CC wx → wx.cell? ⟨w.heap.size + 1 + 1, 0, none⟩ = some (.int .i64 m) ∧ wx.cell? ⟨w.heap.size + 1 + 1, 1, none⟩ = some (.int .i64 s) ∧ wx.cell? ⟨w.heap.size + 1, 0, none⟩ = some (.int .i64 m) ∧ wx.cell? ⟨w.heap.size + 1, 1, none⟩ = some (.int .i64 s) := fun wx hx => by rw [hCC] at hx; exact ⟨fa0 _ hx, fa1 _ hx, fb0 _ hx, fb1 _ hx⟩
      have Htr : Hid (∀ {wx wy : World}, CC wx → Bel wx wy → CC wy) := Lib.hid (fun hx hy => by rw [hCC] at hx ⊢; exact Bel.trans hx hy)
      have Hdr : Hid (CC w1.drew) := Lib.hid (by rw [hCC]; exact hb1.trans (Bel.drew _))
      have Hfin : Hid (∀ wy, CC wy → Bel w wy) := Lib.hid (fun wy hy => by rw [hCC] at hy; exact hW.trans hy)
      have Hc := Lib.hid hc
      clear hCC hc fa0 fa1 fb0 fb1 fa0w fa1w fb0w fb1w
      have J0 := Lib.hid (toC wakesB Htr)
      have J1 := Lib.hid (toC K1.out Htr)
      have J2 := Lib.hid (toC K3.out Htr)
      have J3 := Lib.hid (toC K4.out Htr)
      have J4 := Lib.hid (toC K5.out Htr)
      have J5 := Lib.hid (toC K6.out Htr)
      refine QuietC.region CC (by kernel_rfl) (by kernel_rfl) Hdr.out ?_
      repeat
        (refine QuietC.step (fun K hK => ?_)
         first
           | (apply QuietC.val
              case hw => go_simp
              case hrun =>
                intro wx hw
                obtain ⟨q0, q1, q2, q3⟩ := Hc.out wx hw
                go_simp
                try rfl
              go_simp
              refine hK _ ?_
              clear hK K)
           | (apply QuietC.call
              case hw => go_simp
              case hrun =>
                intro wx hw
                go_simp
                try exact ⟨rfl, rfl⟩
              case hc => first | (with_reducible exact J0.out) | (with_reducible exact J1.out) | (with_reducible exact J2.out) | (with_reducible exact J3.out) | (with_reducible exact J4.out) | (with_reducible exact J5.out)
              go_simp
              refine hK _ ?_
              clear hK K))
      refine wpQuiet_nil ?_
      intro wz hz
      have hz2 := Hfin.out wz hz
      clear Htr Hfin Hdr J0 J1 J2 J3 J4 J5 Hc
      go_wp2_with fail
      go_ret
      exact ⟨rfl, hz2⟩
theorem good_law (m s : Int) (hm : IntKind.has .i64 m) (hs : IntKind.has .i64 s) (w : World) : Calls Try.prog 4 #[.agg #[.int .i64 m, .int .i64 s]] w fun e w' => e = .returned (.bool true) ∧ Below w.heap.size w w' := good_calls m s w
end Go.Proofs.Ytgjalgmnkadbaaa
