/- The reference's lift: a key is out; Drop. -/
import Derived.Test.YthhigmkheccfpaaRef
set_option linter.unusedVariables false
set_option linter.unusedSimpArgs false
namespace Go.Proofs.Ythhigmkheccfpaa
open Go.RowKit
theorem take_succ_nth {rs : List El} {n : Nat} (h : n < rs.length) : rs.take (n + 1) = rs.take n ++ [nth rs n] := by
  rw [List.take_succ_eq_append_getElem h, nth_el h]
/-- The first k but for i. -/
def skip (l : List El) (i k : Nat) : List El := if k ≤ i then l.take k else l.take i ++ (l.drop (i + 1)).take (k - i - 1)
theorem skip_end {l : List El} {i : Nat} (h : i < l.length) : skip l i l.length = cut l i := by
  unfold skip cut
  rw [if_neg (by omega), List.take_of_length_le (l := l.drop (i + 1)) (by simp; omega)]
theorem skip_at (l : List El) (i : Nat) : skip l i (i + 1) = skip l i i := by
  unfold skip; rw [if_neg (by omega), if_pos (Nat.le_refl _)]; simp
theorem skip_on {l : List El} {i k : Nat} (hk : k < l.length) (hne : k ≠ i) : skip l i (k + 1) = skip l i k ++ [nth l k] := by
  unfold skip
  by_cases h : k < i
  · rw [if_pos (by omega), if_pos (by omega), take_succ_nth hk]
  · rw [if_neg (by omega)]
    by_cases h2 : k ≤ i
    · omega
    · rw [if_neg h2, show k + 1 - i - 1 = (k - i - 1) + 1 by omega, List.take_succ_eq_append_getElem (by simp; omega), List.append_assoc]
      congr 2
      rw [List.getElem_drop, nth_el hk]
      congr 2; omega
theorem skip_len (l : List El) (i k : Nat) : (skip l i k).length ≤ k := by
  unfold skip
  split
  · simp; omega
  · simp; omega
/-- Two rows of the call's own, apart. -/
structure Two (w : World) (base : Nat) (v4 v5 : Value) (l : List El) : Prop where
  r4 : KZ.Row w base v4 (l.map El.f0)
  r5 : KZ.Row w base v5 (l.map El.f1)
  apart : ∀ k, v4.ownBlock = some k → v5.ownBlock ≠ some k
theorem Enc.Row.own_lt {α : Type} {K : Enc α} {w : World} {b : Nat} {v : Value} {l : List α} (h : K.Row w b v l) {k : Nat} (hk : v.ownBlock = some k) : k < w.heap.size := by
  obtain ⟨_, cs, h2⟩ := h.blk hk
  exact blk_lt h2
theorem Enc.Row.grown_off {α : Type} {K : Enc α} {w w' : World} {b : Nat} {v u : Value} {l : List α} (h : K.Row w b v l) (hg : w.grownBy w' u.ownBlock) (hne : ∀ k, u.ownBlock = some k → v.ownBlock ≠ some k) : K.Row w' b v l :=
  owns_blk h (fun k hk => hg.block k (h.own_lt hk) (fun e => hne k e.symm hk))
/-- The first row is grown. -/
theorem apart1 {w : World} {b : Nat} {v4 v4' v5 : Value} {l : List Int} (h5 : KZ.Row w b v5 l) (ha : ∀ k, v4.ownBlock = some k → v5.ownBlock ≠ some k) (hw : v4'.ownBlock = v4.ownBlock ∨ ∃ k, w.heap.size ≤ k ∧ v4'.ownBlock = some k) : ∀ k, v4'.ownBlock = some k → v5.ownBlock ≠ some k := fun k hk e => by
  rcases hw with hw | ⟨k', hk', e'⟩
  · exact ha k (by rw [← hw]; exact hk) e
  · rw [e'] at hk
    obtain rfl := Option.some.inj hk
    have := h5.own_lt e
    omega
set_option maxHeartbeats 8000000 in
set_option maxRecDepth 100000 in
theorem outR (w : World) (base g : Nat) (vk vw : Value) (s : LS) (i : Nat) (hi : i < s.rs.length) (hlen : s.rs.length ≤ 1000) (hbase : base ≤ w.heap.size) (h : IsR w base g vk vw s) :
    Calls Try.prog 27 #[PT g, .int .i64 i] w fun e w' => ∃ vk' vw', e = .returned (.tuple #[]) ∧ IsR w' base g vk' vw' { s with rs := cut s.rs i } ∧ Kt 3 base g w w' := by
  have H := Lib.hid h
  obtain ⟨A, c, rfl, hc, hR⟩ := readsZ h.keys
  obtain ⟨A2, c2, rfl, hc2, hR2⟩ := readsZ h.wait
  rw [List.length_map] at hR hR2 hc hc2
  obtain ⟨gk, rfl, _, _, _, hk1⟩ := hR (by omega)
  obtain ⟨gw, rfl, _, _, _, hw1⟩ := hR2 (by omega)
  have hg := blk_lt h.blk
  have hblk := h.blk
  rw [List.length_map, List.length_map] at hblk
  have HBLK := Lib.hid hblk
  have HCE : Hid (∀ wx, Bel w wx → ∀ j, j < s.rs.length → wx.cell? ⟨gk, j, none⟩ = some (.int .i64 (nth s.rs j).f0) ∧ wx.cell? ⟨gw, j, none⟩ = some (.int .i64 (nth s.rs j).f1)) := Lib.hid (fun wx hb j hj => by
    have a0 := (hk1 j hj).1
    have a1 := (hw1 j hj).1
    rw [gi_map El.f0 _ hj] at a0
    rw [gi_map El.f1 _ hj] at a1
    exact ⟨cellB hb a0, cellB hb a1⟩)
  have HSE := Lib.hid (skip_end hi)
  clear h hR hR2 hk1 hw1 hblk
  generalize hn : s.rs.length = n at *
  have HN := Lib.hid hn
  clear hn
  have HX0 : Hid (Two w w.heap.size (.slice none 0 0) (.slice none 0 0) (skip s.rs i 0) ∧ Bel w w) := Lib.hid ⟨⟨by simpa [skip] using Enc.Row.nil _ _, by simpa [skip] using Enc.Row.nil _ _, fun k h => by simp [Value.ownBlock] at h⟩, Bel.refl _⟩
  go_enter Try.func27, Try.ntmps27
  go_wp2_with fail
  go_loopw [4, 5, 6] (fun v4 v5 v6 wr => ∃ (k : Nat), v6 = .int .i64 k ∧ k ≤ n ∧ Hid (Two wr w.heap.size v4 v5 (skip s.rs i k) ∧ Bel w wr)) (fun _ _ v6 _ => n - (intOf v6).toNat)
  case atStart => exact ⟨0, rfl, by omega, HX0⟩
  case round =>
    obtain ⟨wo, rfl⟩ : ∃ wo : World, wo = wr := ⟨_, rfl⟩
    obtain ⟨k, rfl, hk, HR⟩ := hrel
    have hbo : Bel w wo := HR.out.2
    have hbk := blk_below HBLK.out hbo
    have q2 : wo.cell? ⟨g, 2, none⟩ = some (.slice (some ⟨gk, 0, none⟩) n c) := blk_cell hbk 2
    clear HX0
    by_cases hlt : k < n
    · have hlt' : decide ((k : Int) < (n : Int)) = true := by simp; omega
      by_cases hki : k = i
      · have d1 : ((k : Int) != (i : Int)) = false := by simp; omega
        have d2 : decide ((k : Int) = (i : Int)) = true := decide_eq_true (by omega)
        have d3 : ((k : Int) == (i : Int)) = true := by simp; omega
        have hfin : Hid (Two wo w.heap.size u4 u5 (skip s.rs i (k + 1)) ∧ Bel w wo) := Lib.hid ⟨by
          have := HR.out.1
          rw [hki] at this ⊢
          rw [skip_at]; exact this, HR.out.2⟩
        clear HR hbo hki hbk
        go_wp2_with fail
        exact ⟨⟨k + 1, by congr 1, by omega, hfin⟩, by simp [intOf]; omega⟩
      · have d1 : ((k : Int) != (i : Int)) = true := by simp; omega
        have d2 : decide ((k : Int) = (i : Int)) = false := decide_eq_false (by omega)
        have d3 : ((k : Int) == (i : Int)) = false := by simp; omega
        have z0 := (HCE.out wo hbo k hlt).1
        have HSK := Lib.hid (skip_on (l := s.rs) (i := i) (k := k) (by rw [HN.out]; exact hlt) hki)
        have HLE : Hid ((skip s.rs i k).length ≤ 1000000) := Lib.hid (by have := skip_len s.rs i k; omega)
        have HC2 := Lib.hid (fun wx (hb : Bel w wx) => And.intro ((HCE.out wx hb k hlt).2) (blk_cell (blk_below HBLK.out hb) 3))
        generalize nth s.rs k = y at *
        have HR4 := Lib.hid HR.out.1.r4
        have HR5 := Lib.hid HR.out.1.r5
        have HAP := Lib.hid HR.out.1.apart
        have HBl := Lib.hid HR.out.2
        clear HR hbo hki hbk
        go_wp2_with (first | (at_builtin; refine Enc.Row.append2 (K := KZ) (W := wo) (base := w.heap.size) HR4.out y.f0 rfl (.tmp 19) (.tmp 27) 35 rfl (.int .i64 0) 8 Try.underlying35 info3z rfl (by decide) rfl rfl (by rw [List.length_map]; exact HLE.out) HBl.out.size ?_; intro v3 w3 ho hg hwh; have HO3 := Lib.hid ho; have hb3 := Enc.Row.bel_grown HR4.out HBl.out hg (Nat.le_refl _); have HB3 := Lib.hid hb3; have HR5x := Lib.hid (And.intro (Enc.Row.grown_off HR5.out hg HAP.out) (apart1 HR5.out HAP.out hwh)); have e1 := (HC2.out _ hb3).1; have e2 := (HC2.out _ hb3).2; clear ho hg hb3 hwh) | (at_builtin; refine Enc.Row.append2 (K := KZ) (W := w3) (base := w.heap.size) HR5x.out.1 y.f1 rfl (.tmp 29) (.tmp 37) 35 rfl (.int .i64 0) 8 Try.underlying35 info3z rfl (by decide) rfl rfl (by rw [List.length_map]; exact HLE.out) HB3.out.size ?_; intro v5' w5 ho hg hwh; have HO5 := Lib.hid ho; have HB5 := Lib.hid (Enc.Row.bel_grown HR5x.out.1 HB3.out hg (Nat.le_refl _)); have HAP5 := Lib.hid (apart1 HO3.out (fun k h e => HR5x.out.2 k e h) hwh); have HO3x := Lib.hid (Enc.Row.grown_off HO3.out hg (fun k h e => HR5x.out.2 k e h)); clear ho hg hwh))
        exact ⟨⟨k + 1, by congr 1, by omega, Lib.hid ⟨by rw [HSK.out]; exact ⟨by rw [List.map_append]; exact HO3x.out, by rw [List.map_append]; exact HO5.out, fun q h e => HAP5.out q e h⟩, HB5.out⟩⟩, by simp [intOf]; omega⟩
    · have hlt' : decide ((k : Int) < (n : Int)) = false := by simp; omega
      have hkn : k = n := by omega
      have htw := HR.out.1
      rw [hkn, HSE.out] at htw
      obtain ⟨A4, c4, rfl, _, _⟩ := readsZ htw.r4
      obtain ⟨A5, c5, rfl, _, _⟩ := readsZ htw.r5
      have f2 := blk_frozen hbk 2
      have hb4 := setc_blk (i := 2) hbk (.slice A4 ((cut s.rs i).map El.f0).length c4)
      have q3 := blk_cell hb4 3
      have f3 := blk_frozen hb4 3
      have hb5 := setc_blk (i := 3) hb4 (.slice A5 ((cut s.rs i).map El.f1).length c5)
      have hn4 := htw.r4.ne_blk hbk (by decide)
      have hn5 := htw.r5.ne_blk hbk (by decide)
      have r4 := (htw.r4.set_off ⟨g, 2, none⟩ hn4 (.slice A4 ((cut s.rs i).map El.f0).length c4)).set_off ⟨g, 3, none⟩ hn4 (.slice A5 ((cut s.rs i).map El.f1).length c5)
      have r5 := (htw.r5.set_off ⟨g, 2, none⟩ hn5 (.slice A4 ((cut s.rs i).map El.f0).length c4)).set_off ⟨g, 3, none⟩ hn5 (.slice A5 ((cut s.rs i).map El.f1).length c5)
      have hkt : Kt 3 base g w ((wo.setCell ⟨g, 2, none⟩ (.slice A4 ((cut s.rs i).map El.f0).length c4)).setCell ⟨g, 3, none⟩ (.slice A5 ((cut s.rs i).map El.f1).length c5)) := ((Kt.of_bel hbo).trans (Kt.of_set ⟨g, 2, none⟩ rfl _)).trans (Kt.of_set ⟨g, 3, none⟩ rfl _)
      have HF := Lib.hid (And.intro hb5 (And.intro r4 (And.intro r5 (And.intro hkt htw.apart))))
      clear hb4 hb5 hn4 hn5 r4 r5 hkt htw hbk hbo HR hkn
      generalize ((cut s.rs i).map El.f0).length = m4 at *
      generalize ((cut s.rs i).map El.f1).length = m5 at *
      go_wp2_with fail
      go_end0
      exact ⟨_, _, rfl, ⟨HF.out.1, HF.out.2.1.lower hbase, HF.out.2.2.1.lower hbase, HF.out.2.2.2.2⟩, HF.out.2.2.2.1⟩
def rdropS (s : LS) (key : Int) : LS := if rpos s.rs key < s.rs.length then { s with rs := cut s.rs (rpos s.rs key) } else s
set_option maxHeartbeats 4000000 in
theorem dropR (w : World) (base g : Nat) (vk vw : Value) (s : LS) (key : Int) (hlen : s.rs.length ≤ 1000) (hbase : base ≤ w.heap.size) (h : IsR w base g vk vw s) :
    Calls Try.prog 15 #[PT g, .int .i64 key] w fun e w' => ∃ vk' vw', e = .returned (.bool (rhas s key)) ∧ IsR w' base g vk' vw' (rdropS s key) ∧ Kt 3 base g w w' := by
  have H := Lib.hid h
  have KF := Lib.hid (findR w base g vk vw s key (by omega) h)
  by_cases hin : rpos s.rs key < s.rs.length
  · have e1 : rfind s key = (rpos s.rs key : Int) := by unfold rfind; rw [if_pos hin]
    have e2 : rhas s key = true := by unfold rhas; exact decide_eq_true hin
    have e3 : rdropS s key = { s with rs := cut s.rs (rpos s.rs key) } := by unfold rdropS; rw [if_pos hin]
    have KO := Lib.hid (outR w base g vk vw s (rpos s.rs key) hin hlen hbase h)
    rw [e1] at KF
    rw [e2, e3]
    clear e1 e2 e3 h hin
    generalize rpos s.rs key = i at *
    have d1 : decide ((i : Int) < 0) = false := decide_eq_false (by omega)
    go_enter Try.func15, Try.ntmps15
    go_wp2_with fail
    refine KF.out.mono ?_
    rintro e w1 ⟨rfl, rfl⟩
    go_wp2_with fail
    refine KO.out.mono ?_
    rintro e w2 ⟨vk', vw', rfl, hr, hk⟩
    have HF := Lib.hid (And.intro hr hk)
    clear hr hk
    go_wp2_with fail
    go_ret
    exact ⟨_, _, rfl, HF.out.1, HF.out.2⟩
  · have e1 : rfind s key = -1 := by unfold rfind; rw [if_neg hin]
    have e2 : rhas s key = false := by unfold rhas; exact decide_eq_false hin
    have e3 : rdropS s key = s := by unfold rdropS; rw [if_neg hin]
    rw [e1] at KF
    rw [e2, e3]
    clear e1 e2 e3 h hin
    go_enter Try.func15, Try.ntmps15
    go_wp2_with fail
    refine KF.out.mono ?_
    rintro e w1 ⟨rfl, rfl⟩
    go_wp2_with fail
    go_ret
    first | exact ⟨_, _, rfl, H.out, Kt.refl _ _ _ _⟩ | exact ⟨rfl, ⟨_, _, H.out⟩, Kt.refl _ _ _ _⟩
end Go.Proofs.Ythhigmkheccfpaa
