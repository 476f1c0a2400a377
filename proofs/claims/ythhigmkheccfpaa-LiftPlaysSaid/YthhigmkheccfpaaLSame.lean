/- The lift and the reference's lift: the walk of same. -/
import Derived.Test.YthhigmkheccfpaaLRel
import Derived.Deep.RegionHeld3
set_option linter.unusedVariables false
set_option linter.unusedSimpArgs false
namespace Go.Proofs.Ythhigmkheccfpaa
open Go.RowKit
theorem at_key {s r : LS} (h : Rel s r) {i : Nat} (hi : i < s.rs.length) : has s (nth s.rs i).f0 = true ∧ nth s.rs (pos s.rs (nth s.rs i).f0) = nth s.rs i ∧ rpos r.rs (nth s.rs i).f0 < r.rs.length ∧ nth r.rs (rpos r.rs (nth s.rs i).f0) = nth s.rs i := by
  have hh : has s (nth s.rs i).f0 = true := (has_iff h.ok.up _).2 ⟨_, nth_mem hi, rfl⟩
  obtain ⟨h1, h2⟩ := has_at hh
  have e := key_unique h.ok.up (nth_mem h1) (nth_mem hi) h2
  exact ⟨hh, e, rhas_lt (by rw [h.rh, hh]), by rw [h.at hh, e]⟩
set_option maxHeartbeats 8000000 in
set_option maxRecDepth 100000 in
theorem sameL (w : World) (base g base2 g2 : Nat) (v vk vw : Value) (s r : LS) (hr : Rel s r) (h : IsL w base g v s) (h2 : IsR w base2 g2 vk vw r) :
    Calls Try.prog 19 #[PT g, PT g2] w fun e w' => e = .returned (.bool true) ∧ Bel w w' := by
  have hlen := hr.ok.len
  have KK := Lib.hid (keysL w base g v s hlen h)
  have KL := Lib.hid (fun wx (hb : Bel w wx) => lenL wx base g v s (h.bel hb))
  have KH := Lib.hid (fun wx (hb : Bel w wx) => headL wx base g v s (h.bel hb))
  have KW := Lib.hid (fun wx (hb : Bel w wx) key => waitedL wx base g v s key hr.ok.up (by omega) (h.bel hb))
  have KF := Lib.hid (fun wx (hb : Bel w wx) key => findR wx base2 g2 vk vw r key (by rw [hr.len]; omega) (h2.bel hb))
  have hblk := h2.blk
  obtain ⟨A, c, rfl, hc, _⟩ := readsZ h2.keys
  obtain ⟨A2, c2, rfl, hc2, hR2⟩ := readsZ h2.wait
  rw [List.length_map, List.length_map] at hblk
  rw [List.length_map] at hc hc2 hR2
  rw [hr.head] at hblk
  have HREL := Lib.hid hr
  have HBLK := Lib.hid hblk
  have HR2 := Lib.hid hR2
  have hlr := hr.len
  rw [hlr] at HBLK HR2 hc hc2
  have HLR := Lib.hid hlr
  clear h h2 hr hblk hR2 hlr
  generalize hn : s.rs.length = n at *
  have HN := Lib.hid hn
  clear hn
  generalize hhd : s.head = hd at *
  clear hhd
  go_enter Try.func19, Try.ntmps19
  go_wp2_with fail
  refine KK.out.mono ?_
  rintro e w1 ⟨v1, rfl, hr1, hb1⟩
  obtain ⟨A1, c1, rfl, hc1, hR1⟩ := readsZ hr1
  rw [List.length_map, HN.out] at hc1 hR1
  rw [List.length_map, HN.out]
  have HR1 := Lib.hid hR1
  have HB1 := Lib.hid hb1
  clear hr1 hR1 hb1 KK
  go_wp2_with fail
  have ck : ∀ wx, Bel w1 wx → wx.cell? ⟨g2, 2, none⟩ = some (.slice A n c) := fun wx hb => blk_cell (blk_below HBLK.out (HB1.out.trans hb)) 2
  have ch : ∀ wx, Bel w1 wx → wx.cell? ⟨g2, 1, none⟩ = some (.int .i64 hd) := fun wx hb => blk_cell (blk_below HBLK.out (HB1.out.trans hb)) 1
  have KLx := Lib.hid (fun wx (hb : Bel w1 wx) => KL.out wx (HB1.out.trans hb))
  have KHx := Lib.hid (fun wx (hb : Bel w1 wx) => KH.out wx (HB1.out.trans hb))
  go_region_held3 (fun w' => Bel w1 w') (first | assumption | exact Bel.refl _ | exact Bel.drew _ | exact Bel.trans (by assumption) (Bel.drew _) | exact Bel.trans (by assumption) (by assumption)) ((first | (go_at_call 10; refine (KLx.out _ (by assumption)).mono ?_; rintro e wx1 ⟨rfl, hbx1⟩) | (go_at_call 21; refine (KHx.out _ (by assumption)).mono ?_; rintro e wx2 ⟨rfl, hbx2⟩)))
  have HB2 : Hid (Bel w1 wx2) := Lib.hid (by assumption)
  clear ck ch KLx KHx KL KH hbx1 hbx2
  go_wp2_with fail
  go_loopw [6, 7, 8, 9, 10, 42] (fun v6 v7 v8 v9 v10 v42 wr => ∃ (k : Nat), v42 = .int .i64 k ∧ k ≤ n ∧ Hid (Bel w1 wr)) (fun _ _ _ _ _ v42 _ => n - (intOf v42).toNat)
  case atStart => exact ⟨0, rfl, by omega, HB2⟩
  case round =>
    obtain ⟨wo, rfl⟩ : ∃ wo : World, wo = wr := ⟨_, rfl⟩
    obtain ⟨k, rfl, hk, HI⟩ := hrel
    by_cases hlt : k < n
    · have hlt' : decide ((k : Int) < (n : Int)) = true := by simp; omega
      have hks : k < s.rs.length := by rw [HN.out]; exact hlt
      obtain ⟨m1, m2, m3, m4⟩ := at_key HREL.out hks
      obtain ⟨g1, rfl, _, _, _, hc1x⟩ := HR1.out (by omega)
      obtain ⟨gw, rfl, _, _, _, hcwx⟩ := HR2.out (by omega)
      have x0 := (hc1x k hlt).1
      rw [gi_map El.f0 _ hks] at x0
      have x0 := cellB HI.out x0
      rw [HLR.out] at m3
      have y0 := (hcwx _ m3).1
      rw [gi_map El.f1 _ (by rw [HLR.out]; exact m3), m4] at y0
      have KFx := Lib.hid (fun wx (hb : Bel w1 wx) => KF.out wx (HB1.out.trans hb) (nth s.rs k).f0)
      have KWx := Lib.hid (fun wx (hb : Bel w1 wx) => KW.out wx (HB1.out.trans hb) (nth s.rs k).f0)
      have hrf : rfind r (nth s.rs k).f0 = (rpos r.rs (nth s.rs k).f0 : Int) := by unfold rfind; rw [if_pos (by rw [HLR.out]; exact m3)]
      rw [hrf] at KFx
      simp only [m1, m2, if_true] at KWx
      have hprev : 0 < k → wo.cell? ⟨g1, k - 1, none⟩ = some (.int .i64 (nth s.rs (k - 1)).f0) ∧ (nth s.rs (k - 1)).f0 < (nth s.rs k).f0 := fun h0 => by
        have p0 := (hc1x (k - 1) (by omega)).1
        rw [gi_map El.f0 _ (by omega)] at p0
        exact ⟨cellB HI.out p0, HREL.out.ok.up (k - 1) k (by omega) hks⟩
      have HPR := Lib.hid hprev
      clear m1 m2 m4 hrf hprev hc1x hcwx hks
      generalize rpos r.rs (nth s.rs k).f0 = p at *
      have HY : Hid (∀ wx, Bel w1 wx → wx.cell? ⟨g2, 3, none⟩ = some (.slice (some ⟨gw, 0, none⟩) n c2) ∧ wx.cell? ⟨gw, p, none⟩ = some (.int .i64 (nth s.rs k).f1)) := Lib.hid (fun wx hb => ⟨blk_cell (blk_below HBLK.out (HB1.out.trans hb)) 3, cellB (HB1.out.trans hb) y0⟩)
      generalize nth s.rs k = z at *
      obtain ⟨z0, z1, z2⟩ := z
      simp only [] at x0 y0 KFx KWx HY HPR
      clear y0
      have e1 : decide ((p : Int) < 0) = false := decide_eq_false (by omega)
      go_wp2_with fail
      refine (KFx.out _ HI.out).mono ?_
      rintro e w3 ⟨rfl, rfl⟩
      go_wp2_with fail
      refine (KWx.out _ HI.out).mono ?_
      rintro e w4 ⟨rfl, hb4⟩
      have HB4 := Lib.hid (HI.out.trans hb4)
      have hb4' := hb4
      obtain ⟨q1, q2⟩ := HY.out w4 (HI.out.trans hb4)
      by_cases hk0 : 0 < k
      · obtain ⟨p1, p2⟩ := HPR.out hk0
        have p1 := cellB hb4 p1
        have d1 : decide ((k : Int) > 0) = true := decide_eq_true (by omega)
        have d2 : decide (0 < k) = true := decide_eq_true hk0
        have hw : IntKind.i64.wrap ((k : Int) - 1) = ((k - 1 : Nat) : Int) := by rw [IntKind.wrap_i64]; omega
        have hpk : k - 1 < n := by omega
        generalize k - 1 = kp at *
        generalize (nth s.rs kp).f0 = u at *
        have d3 : decide (u ≥ z0) = false := decide_eq_false (by omega)
        have d4 : decide (z0 ≤ u) = false := decide_eq_false (by omega)
        clear hb4 hb4' p2 HPR
        go_wp2_with fail
        exact ⟨⟨k + 1, by congr 1, by omega, HB4⟩, by simp [intOf]; omega⟩
      · have d1 : decide ((k : Int) > 0) = false := decide_eq_false (by omega)
        have d2 : decide (0 < k) = false := decide_eq_false hk0
        clear hb4 hb4' HPR
        go_wp2_with fail
        exact ⟨⟨k + 1, by congr 1, by omega, HB4⟩, by simp [intOf]; omega⟩
    · have hlt' : decide ((k : Int) < (n : Int)) = false := by simp; omega
      have hfin := HB1.out.trans HI.out
      clear HI
      go_wp2_with fail
      go_ret
      exact ⟨rfl, hfin⟩
end Go.Proofs.Ythhigmkheccfpaa
