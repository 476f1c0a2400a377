/- Lift: a key is picked. -/
import Derived.Test.YthhigmkheccfpaaLiftC
set_option linter.unusedVariables false
set_option linter.unusedSimpArgs false
namespace Go.Proofs.Ythhigmkheccfpaa
open Go.RowKit
def incK (l : List El) (k : Nat) : List El := (l.take k).map inc ++ l.drop k
theorem incK_len (l : List El) (k : Nat) : (incK l k).length = l.length := by unfold incK; simp; omega
theorem incK_zero (l : List El) : incK l 0 = l := by simp [incK]
theorem incK_all (l : List El) : incK l l.length = l.map inc := by simp [incK]
theorem incK_nth (l : List El) (k : Nat) (h : k < l.length) : nth (incK l k) k = nth l k := by
  unfold nth incK
  rw [List.getD_eq_getElem?_getD, List.getD_eq_getElem?_getD, List.getElem?_append_right (by simp; omega), List.getElem?_drop]
  congr 2
  simp; omega
theorem incK_step (l : List El) (k : Nat) (h : k < l.length) : (incK l k).set k ⟨(nth (incK l k) k).f0, (nth l k).f1 + 1, (nth (incK l k) k).f2⟩ = incK l (k + 1) := by
  rw [incK_nth l k h]
  have e : incK l k = (l.take k).map inc ++ nth l k :: l.drop (k + 1) := by unfold incK; rw [drop_nth h]
  have e2 : incK l (k + 1) = (l.take k).map inc ++ inc (nth l k) :: l.drop (k + 1) := by
    unfold incK
    rw [List.take_add_one, nth_get h]
    simp
  rw [e, e2, List.set_append_right _ _ (by simp; omega)]
  have : k - ((l.take k).map inc).length = 0 := by simp; omega
  rw [this]
  rfl
def pickK (s : LS) : Int := if 0 < s.rs.length then (nth s.rs (chooseP s)).f0 else 0
def pickB (s : LS) : Bool := decide (0 < s.rs.length)
def pickS (s : LS) : LS := if 0 < s.rs.length then { s with rs := (cut s.rs (chooseP s)).map inc, head := pickK s + 1 } else s
set_option maxHeartbeats 8000000 in
set_option maxRecDepth 100000 in
theorem pickL (w : World) (base g : Nat) (v : Value) (s : LS) (hok : Ok s) (hsm : ∀ x ∈ s.rs, x.f1 ≤ 1000000) (h : IsL w base g v s) :
    Calls Try.prog 9 #[PT g] w fun e w' => ∃ v', e = .returned (.tuple #[.int .i64 (pickK s), .bool (pickB s)]) ∧ IsL w' base g v' (pickS s) ∧ Kp base g w w' := by
  have KN := Lib.hid (lenL w base g v s h)
  have KC := Lib.hid (fun w1 h => chooseL w1 base g v s hok.up hok.len h)
  have hlen := hok.len
  obtain ⟨A, c, rfl⟩ := h.row.len
  have H := Lib.hid h
  by_cases h0 : 0 < s.rs.length
  · have hi := chooseP_lt hok.up h0
    have hkk := hok.key _ (nth_mem hi)
    have hcl := cut_len hi
    have hK : pickK s = (nth s.rs (chooseP s)).f0 := by unfold pickK; rw [if_pos h0]
    have hB : pickB s = true := by unfold pickB; simp; omega
    have hS : pickS s = { s with rs := (cut s.rs (chooseP s)).map inc, head := (nth s.rs (chooseP s)).f0 + 1 } := by unfold pickS; rw [if_pos h0, hK]
    have hwt : ∀ x ∈ cut s.rs (chooseP s), 0 ≤ x.f1 ∧ x.f1 ≤ 1000000 := fun x hx => by
      have hm : x ∈ s.rs := by
        unfold cut at hx
        rcases List.mem_append.1 hx with hx | hx
        · exact List.mem_of_mem_take hx
        · exact List.mem_of_mem_drop hx
      exact ⟨hok.wt x hm, hsm x hm⟩
    rw [hK, hB, hS]
    clear hK hB hS hok hsm h
    have HD := Lib.hid (fun w1 (hr : Row w1 base (.slice A s.rs.length c) s.rs) => delRow w1 base (chooseP s) _ s.rs hr hi)
    have HDc : Hid (cut s.rs (chooseP s) = s.rs.take (chooseP s) ++ s.rs.drop (chooseP s + 1)) := Lib.hid rfl
    have HRC := Lib.hid (fun w1 (hr : IsL w1 base g (.slice A s.rs.length c) s) => show ∃ ad, A = some ad ∧ w1.cell? (ad.add (chooseP s * 3)) = some (.int .i64 (nth s.rs (chooseP s)).f0) from by
      obtain ⟨A', c', e, _, hR⟩ := hr.row.reads
      simp only [Value.slice.injEq] at e
      obtain ⟨ad, h1, h2, _⟩ := hR (chooseP s) hi
      exact ⟨ad, by rw [e.1]; exact h1, h2⟩)
    rw [← HDc.out] at HD
    clear HDc
    generalize cut s.rs (chooseP s) = l2 at *
    generalize (nth s.rs (chooseP s)).f0 = key at *
    generalize chooseP s = i at *
    generalize hrs : s.rs.length = n at *
    have hw1 : IntKind.i64.wrap ((i : Int) + 1) = (i : Int) + 1 := w64i (by omega) (by omega)
    have hwk : IntKind.i64.wrap (key + 1) = key + 1 := w64i (by omega) (by omega)
    have hne : ((n : Int) == 0) = false := by simp; omega
    have hne2 : decide ((n : Int) = 0) = false := by simp; omega
    go_enter Try.func9, Try.ntmps9
    go_wp2_with fail
    refine KN.out.mono ?_
    rintro e w1 ⟨rfl, hb1⟩
    have H1 := Lib.hid (H.out.bel hb1)
    have HB1 := Lib.hid hb1
    clear hb1 KN H
    go_wp2_with fail
    refine (KC.out _ H1.out).mono ?_
    rintro e w2 ⟨rfl, hb2⟩
    have H2 := Lib.hid (H1.out.bel hb2)
    have HB2 := Lib.hid (HB1.out.trans hb2)
    clear hb2 KC H1 HB1
    have c2 := blk_cell H2.out.blk 2
    obtain ⟨ad, rfl, y0⟩ := HRC.out _ H2.out
    clear HRC
    go_wp2_with fail
    refine (HD.out _ H2.out.row).mono ?_
    rintro e w3 ⟨v3, rfl, hr3, hg3⟩
    obtain ⟨A3, c3, rfl⟩ : ∃ A' c', v3 = .slice A' (n - 1) c' := by
      obtain ⟨A', c', h⟩ := hr3.len
      exact ⟨A', c', by rw [h]; congr 1⟩
    have hb3 := grown_blk hg3 H2.out.row H2.out.blk
    have c5 := blk_cell hb3 2
    have f5 := blk_frozen hb3 2
    have HB3 := Lib.hid hb3
    have HR3 := Lib.hid hr3
    have HK3 := Lib.hid ((Kp.of_bel HB2.out).trans (Kp.of_grown hg3 H2.out.row) : Kp base g w w3)
    clear hb3 hr3 hg3 H2 HB2 c2 y0 HD
    go_wp2_with fail
    clear c5 f5
    refine wp_gen (fun W => W.heap[g]? = some (.cells #[.int .i64 s.age, .int .i64 s.head, .slice A3 (n - 1) c3, .int .i64 s.added] 49 (0, 0)) ∧ Row W base (.slice A3 (n - 1) c3) l2 ∧ Kp base g w W) ⟨set2 HB3.out _, HR3.out.setG HB3.out ⟨g, 2, none⟩ rfl _, HK3.out.trans (Kp.of_set ⟨g, 2, none⟩ rfl _)⟩ ?_
    rintro W4 ⟨h4, hr4, hk4⟩
    have H4 := Lib.hid (And.intro h4 (And.intro hr4 hk4))
    have c2 := blk_cell h4 2
    clear h4 hr4 hk4 HB3 HR3 HK3
    have hm256 : n - 1 ≤ 256 := by omega
    generalize n - 1 = m at *
    have HIS := Lib.hid (fun k h => incK_step l2 k h)
    have HIN := Lib.hid (fun k h => incK_nth l2 k h)
    have HIL := Lib.hid (fun k => incK_len l2 k)
    have HIA : Hid (incK l2 m = l2.map inc) := Lib.hid (by rw [← hcl]; exact incK_all l2)
    go_wp2_with fail
    go_loopw [36] (fun v36 wr => ∃ (k : Nat), v36 = .int .i64 k ∧ k ≤ m ∧ Hid (wr.heap[g]? = some (.cells #[.int .i64 s.age, .int .i64 s.head, .slice A3 m c3, .int .i64 s.added] 49 (0, 0)) ∧ Row wr base (.slice A3 m c3) (incK l2 k) ∧ Kp base g w wr)) (fun v36 _ => m - (intOf v36).toNat)
    case atStart => exact ⟨0, rfl, by omega, Lib.hid ⟨H4.out.1, by rw [incK_zero]; exact H4.out.2.1, H4.out.2.2⟩⟩
    case round =>
      obtain ⟨wo, rfl⟩ : ∃ wo : World, wo = wr := ⟨_, rfl⟩
      obtain ⟨k, rfl, hk, HI⟩ := hrel
      by_cases hlt : k < m
      · have hk2 : k < l2.length := by omega
        have hki : k < (incK l2 k).length := by rw [HIL.out]; exact hk2
        obtain ⟨A', c', e, _, hR⟩ := HI.out.2.1.reads
        obtain ⟨ad, hA', z0, z1, z2⟩ := hR k hki
        simp only [Value.slice.injEq] at e
        obtain ⟨rfl, _, rfl⟩ := e
        subst hA'
        rw [HIN.out k hk2] at z1
        obtain ⟨g', c'', e2, hfz, hrw, hgr⟩ := HI.out.2.1.setW hki ((nth l2 k).f1 + 1)
        rw [HIS.out k hk2] at hrw
        have hbn := hwt _ (nth_mem hk2)
        have hww : IntKind.i64.wrap ((nth l2 k).f1 + 1) = (nth l2 k).f1 + 1 := w64i (by omega) (by omega)
        simp only [Value.slice.injEq, Option.some.injEq] at e2
        have hp : (⟨(ad.add (k * 3)).block, (ad.add (k * 3)).off + 1, none⟩ : Addr) = ⟨g', k * 3 + 1, none⟩ := by rw [e2.1, cells_add]; simp
        rw [← hp] at hfz hrw hgr
        have cb := blk_cell HI.out.1 2
        have hfin : Hid ((wo.setCell ⟨(ad.add (k * 3)).block, (ad.add (k * 3)).off + 1, none⟩ (.int .i64 ((nth l2 k).f1 + 1))).heap[g]? = some (.cells #[.int .i64 s.age, .int .i64 s.head, .slice (some ad) m c3, .int .i64 s.added] 49 (0, 0)) ∧ Row (wo.setCell ⟨(ad.add (k * 3)).block, (ad.add (k * 3)).off + 1, none⟩ (.int .i64 ((nth l2 k).f1 + 1))) base (.slice (some ad) m c3) (incK l2 (k + 1)) ∧ Kp base g w (wo.setCell ⟨(ad.add (k * 3)).block, (ad.add (k * 3)).off + 1, none⟩ (.int .i64 ((nth l2 k).f1 + 1)))) :=
          Lib.hid ⟨grown_blk hgr HI.out.2.1 HI.out.1, hrw, HI.out.2.2.trans (Kp.of_grown hgr HI.out.2.1)⟩
        clear hrw hgr hp e2 hR z0 z2 HI hbn
        generalize (nth l2 k).f1 = q1 at *
        go_wp2_with fail
        exact ⟨⟨k + 1, by congr 1, by omega, hfin⟩, by simp [intOf]; omega⟩
      · have hkm : k = m := by omega
        subst hkm
        have hb4 := HI.out.1
        have hr5 := HI.out.2.1
        rw [HIA.out] at hr5
        have c1 := blk_cell hb4 1
        have f1 := blk_frozen hb4 1
        have HB5 := Lib.hid hb4
        have HR5 := Lib.hid hr5
        have HK5 := Lib.hid HI.out.2.2
        clear HI hb4 hr5 HIS HIN HIL HIA H4
        go_wp2_with fail
        go_ret2
        have hfin : IsL (wo.setCell ⟨g, 1, none⟩ (.int .i64 (key + 1))) base g (.slice A3 k c3) { s with rs := l2.map inc, head := key + 1 } := ⟨set1 HB5.out _, HR5.out.setG HB5.out ⟨g, 1, none⟩ rfl _⟩
        have hk := HK5.out.trans (Kp.of_set ⟨g, 1, none⟩ rfl (.int .i64 (key + 1)) : Kp base g wo _)
        first | exact ⟨_, rfl, hfin, hk⟩ | exact ⟨rfl, ⟨_, hfin⟩, hk⟩
  · have hl0 : s.rs.length = 0 := by omega
    have hK : pickK s = 0 := by unfold pickK; rw [if_neg h0]
    have hB : pickB s = false := by unfold pickB; simp [hl0]
    have hS : pickS s = s := by unfold pickS; rw [if_neg h0]
    rw [hK, hB, hS]
    rw [hl0] at KN H
    clear hK hB hS hok hsm h KC h0
    go_enter Try.func9, Try.ntmps9
    go_wp2_with fail
    refine KN.out.mono ?_
    rintro e w1 ⟨rfl, hb1⟩
    have HF := Lib.hid (And.intro (H.out.bel hb1) hb1)
    clear hb1 H
    go_wp2_with fail
    go_ret2
    first | exact ⟨_, rfl, HF.out.1, Kp.of_bel HF.out.2⟩ | exact ⟨rfl, ⟨_, HF.out.1⟩, Kp.of_bel HF.out.2⟩
theorem pickN (w : World) : Calls Try.prog 9 #[.pointer none] w fun e w' => e = .returned (.tuple #[.int .i64 0, .bool false]) ∧ Bel w w' := by
  have K := Lib.hid lenN
  go_enter Try.func9, Try.ntmps9
  go_wp2_with fail
  refine (K.out _).mono ?_
  rintro e w1 ⟨rfl, hb1⟩
  go_wp2_with fail
  go_ret2
  exact ⟨rfl, hb1⟩
end Go.Proofs.Ythhigmkheccfpaa
