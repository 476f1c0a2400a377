/- The reference's lift: a key is added. -/
import Derived.Test.YthhigmkheccfpaaROut
set_option linter.unusedVariables false
set_option linter.unusedSimpArgs false
namespace Go.Proofs.Ythhigmkheccfpaa
open Go.RowKit
def raddE (s : LS) (key : Int) : Int := if key < 0 ∨ 1099511627776 ≤ key then 3 else if rhas s key = true then 11 else if 256 ≤ s.rs.length then 10 else 0
def raddS (s : LS) (key : Int) : LS := if raddE s key = 0 then { s with rs := s.rs ++ [⟨key, 0, s.added⟩], added := s.added + 1 } else s
theorem setc_size {w : World} {g i : Nat} {cs : Array Value} {t : TypeId} (h : w.heap[g]? = some (.cells cs t (0, 0))) (u : Value) : (w.setCell ⟨g, i, none⟩ u).heap.size = w.heap.size := by
  rw [setCell_eq_setRow w g i _ t (0, 0) u h]; simp [World.setRow]
set_option maxHeartbeats 8000000 in
set_option maxRecDepth 100000 in
theorem addR (w : World) (base g : Nat) (vk vw : Value) (s : LS) (key : Int) (hlen : s.rs.length ≤ 256) (hbase : base ≤ w.heap.size) (h : IsR w base g vk vw s) :
    Calls Try.prog 16 #[PT g, .int .i64 key] w fun e w' => ∃ vk' vw', e = .returned (.int .i64 (raddE s key)) ∧ IsR w' base g vk' vw' (raddS s key) ∧ Kt 3 base g w w' := by
  have K := Lib.hid (findR w base g vk vw s key (by omega) h)
  have H := Lib.hid h
  have HB := Lib.hid hbase
  by_cases hr : key < 0 ∨ 1099511627776 ≤ key
  · have hE : raddE s key = 3 := by unfold raddE; rw [if_pos hr]
    have hS : raddS s key = s := by unfold raddS; rw [hE]; simp
    rw [hE, hS]
    clear hE hS h hbase
    by_cases h1 : key < 0
    · have e1 : decide (key < 0) = true := decide_eq_true h1
      clear hr K
      go_enter Try.func16, Try.ntmps16
      go_wp2_with fail
      go_ret
      first | exact ⟨_, _, rfl, H.out, Kt.refl _ _ _ _⟩ | exact ⟨rfl, ⟨_, _, H.out⟩, Kt.refl _ _ _ _⟩
    · have h2 : key ≥ 1099511627776 := by omega
      have e1 : decide (key < 0) = false := decide_eq_false h1
      have e2 : decide (key ≥ 1099511627776) = true := decide_eq_true h2
      have e3 : decide (1099511627776 ≤ key) = true := decide_eq_true h2
      clear hr K
      go_enter Try.func16, Try.ntmps16
      go_wp2_with fail
      go_ret
      first | exact ⟨_, _, rfl, H.out, Kt.refl _ _ _ _⟩ | exact ⟨rfl, ⟨_, _, H.out⟩, Kt.refl _ _ _ _⟩
  have hr1 : ¬ key < 0 := by omega
  have hr2 : ¬ key ≥ 1099511627776 := by omega
  have e1 : decide (key < 0) = false := decide_eq_false hr1
  have e2 : decide (key ≥ 1099511627776) = false := decide_eq_false hr2
  have e3 : decide (1099511627776 ≤ key) = false := decide_eq_false hr2
  by_cases hin : rpos s.rs key < s.rs.length
  · have hh : rhas s key = true := by unfold rhas; exact decide_eq_true hin
    have hE : raddE s key = 11 := by unfold raddE; rw [if_neg hr, if_pos hh]
    have hS : raddS s key = s := by unfold raddS; rw [hE]; simp
    have hF : rfind s key = (rpos s.rs key : Int) := by unfold rfind; rw [if_pos hin]
    rw [hF] at K
    rw [hE, hS]
    clear hE hS hF hh hr hin h hbase
    generalize rpos s.rs key = i at *
    have d1 : decide ((i : Int) ≥ 0) = true := decide_eq_true (by omega)
    have d2 : decide (0 ≤ (i : Int)) = true := decide_eq_true (by omega)
    go_enter Try.func16, Try.ntmps16
    go_wp2_with fail
    refine K.out.mono ?_
    rintro e w1 ⟨rfl, rfl⟩
    go_wp2_with fail
    go_ret
    first | exact ⟨_, _, rfl, H.out, Kt.refl _ _ _ _⟩ | exact ⟨rfl, ⟨_, _, H.out⟩, Kt.refl _ _ _ _⟩
  have hh : rhas s key = false := by unfold rhas; exact decide_eq_false hin
  have hF : rfind s key = -1 := by unfold rfind; rw [if_neg hin]
  rw [hF] at K
  have d1 : decide ((-1 : Int) ≥ 0) = false := rfl
  have hblk := h.blk
  obtain ⟨A, c, rfl, hc, _⟩ := readsZ h.keys
  obtain ⟨A2, c2, rfl, hc2, _⟩ := readsZ h.wait
  rw [List.length_map, List.length_map] at hblk
  rw [List.length_map] at hc hc2
  by_cases hfu : 256 ≤ s.rs.length
  · have hE : raddE s key = 10 := by unfold raddE; rw [if_neg hr, if_neg (by simp [hh]), if_pos hfu]
    have hS : raddS s key = s := by unfold raddS; rw [hE]; simp
    rw [hE, hS]
    have c1 := blk_cell hblk 2
    have d3 : decide ((s.rs.length : Int) ≥ 256) = true := decide_eq_true (by omega)
    have d4 : decide (256 ≤ s.rs.length) = true := decide_eq_true hfu
    clear hE hS hF hh hr hin hfu h hbase hblk
    go_enter Try.func16, Try.ntmps16
    go_wp2_with fail
    refine K.out.mono ?_
    rintro e w1 ⟨rfl, rfl⟩
    go_wp2_with fail
    go_ret
    first | exact ⟨_, _, rfl, H.out, Kt.refl _ _ _ _⟩ | exact ⟨rfl, ⟨_, _, H.out⟩, Kt.refl _ _ _ _⟩
  · have hE : raddE s key = 0 := by unfold raddE; rw [if_neg hr, if_neg (by simp [hh]), if_neg hfu]
    have hS : raddS s key = { s with rs := s.rs ++ [⟨key, 0, s.added⟩], added := s.added + 1 } := by unfold raddS; rw [if_pos hE]
    rw [hE, hS]
    have c1 := blk_cell hblk 2
    have d3 : decide ((s.rs.length : Int) ≥ 256) = false := decide_eq_false (by omega)
    have d4 : decide (256 ≤ s.rs.length) = false := decide_eq_false hfu
    have HBLK := Lib.hid hblk
    have hk4 := h.keys
    have hk5 := h.wait
    rw [List.length_map] at hk4 hk5
    have HR4 := Lib.hid hk4
    have HR5 := Lib.hid hk5
    have HAP : Hid (∀ k, (Value.slice A s.rs.length c).ownBlock = some k → (Value.slice A2 s.rs.length c2).ownBlock ≠ some k) := Lib.hid (by have := h.apart; simp only [List.length_map] at this; exact this)
    have HLE : Hid (s.rs.length ≤ 1000000) := Lib.hid (by omega)
    clear hE hS hF hh hr hin hfu h hbase hblk hk4 hk5
    generalize hn : s.rs.length = n at *
    have HN := Lib.hid hn
    clear hn
    go_enter Try.func16, Try.ntmps16
    go_wp2_with fail
    refine K.out.mono ?_
    rintro e w1 ⟨rfl, rfl⟩
    go_wp2_with (first | (at_builtin; refine Enc.Row.append2 (K := KZ) (W := w1) (base := base) HR4.out key rfl (.tmp 27) (.tmp 29) 35 rfl (.int .i64 0) 8 Try.underlying35 info3z rfl (by decide) rfl rfl (by rw [List.length_map, HN.out]; exact HLE.out) HB.out ?_; intro v3 w3 ho hg hwh; have hbk3 := (hg.block g (blk_lt HBLK.out) (fun e => HR4.out.ne_blk HBLK.out (by decide) e.symm)).trans HBLK.out; have hsz3 := hg.size; obtain ⟨A3, c3, rfl, _, _⟩ := readsZ ho; have HO3 := Lib.hid ho; have HG3 := Lib.hid (And.intro hg hsz3); have HR5x := Lib.hid (And.intro (Enc.Row.grown_off HR5.out hg HAP.out) (apart1 HR5.out HAP.out hwh)); rw [show (List.map El.f0 s.rs ++ [key]).length = n + 1 by simp [HN.out]] at HO3 HR5x ⊢; have q2 := blk_cell hbk3 2; have f2 := blk_frozen hbk3 2; have hbk4 := setc_blk (i := 2) hbk3 (.slice A3 (n + 1) c3); have q3 := blk_cell hbk4 3; have hszs := setc_size (i := 2) hbk3 (.slice A3 (n + 1) c3); have HBK4 := Lib.hid (And.intro hbk4 hszs); have hn5 := HR5.out.ne_blk HBLK.out (by decide); have HR5y := Lib.hid (HR5x.out.1.set_off ⟨g, 2, none⟩ hn5 (.slice A3 (n + 1) c3)); have hn3 := HO3.out.ne_blk hbk3 (by decide); have HO3y := Lib.hid (HO3.out.set_off ⟨g, 2, none⟩ hn3 (.slice A3 (n + 1) c3)); have HBS : Hid (base ≤ (w3.setCell ⟨g, 2, none⟩ (.slice A3 (n + 1) c3)).heap.size) := Lib.hid (by rw [hszs]; exact Nat.le_trans HB.out hsz3); clear ho hg hwh hbk3 hbk4 hsz3 hszs hn5 hn3) | (at_builtin; refine Enc.Row.append2 (K := KZ) (W := w3.setCell ⟨g, 2, none⟩ (.slice A3 (n + 1) c3)) (base := base) HR5y.out 0 rfl (.tmp 37) (.tmp 38) 35 rfl (.int .i64 0) 8 Try.underlying35 info3z rfl (by decide) rfl (by rw [HBK4.out.2]; rfl) (by rw [List.length_map, HN.out]; exact HLE.out) HBS.out ?_; intro v5 w5 ho hg hwh; have hbk5 := (hg.block g (blk_lt HBK4.out.1) (fun e => HR5y.out.ne_blk HBK4.out.1 (by decide) e.symm)).trans HBK4.out.1; obtain ⟨A5, c5, rfl, _, _⟩ := readsZ ho; have HO5 := Lib.hid ho; have HG5 := Lib.hid hg; have HAP5 := Lib.hid (apart1 HO3y.out (fun k h e => HR5x.out.2 k e h) hwh); have HO3z := Lib.hid (Enc.Row.grown_off HO3y.out hg (fun k h e => HR5x.out.2 k e h)); rw [show (List.map El.f1 s.rs ++ [(0 : Int)]).length = n + 1 by simp [HN.out]] at HO5 HAP5 ⊢; have q5 := blk_cell hbk5 3; have f5 := blk_frozen hbk5 3; have HBK5 := Lib.hid hbk5; clear ho hg hwh hbk5))
    go_ret
    have hb6 := setc_blk (i := 3) HBK5.out (.slice A5 (n + 1) c5)
    have hm0 : (s.rs ++ [(⟨key, 0, s.added⟩ : El)]).map El.f0 = s.rs.map El.f0 ++ [key] := by simp
    have hm1 : (s.rs ++ [(⟨key, 0, s.added⟩ : El)]).map El.f1 = s.rs.map El.f1 ++ [0] := by simp
    have r4 := HO3z.out.set_off ⟨g, 3, none⟩ (HO3z.out.ne_blk HBK5.out (by decide)) (.slice A5 (n + 1) c5)
    have r5 := HO5.out.set_off ⟨g, 3, none⟩ (HO5.out.ne_blk HBK5.out (by decide)) (.slice A5 (n + 1) c5)
    have hkt : Kt 3 base g w1 (w5.setCell ⟨g, 3, none⟩ (.slice A5 (n + 1) c5)) := (((Kt.of_grown HG3.out.1 HR4.out).trans (Kt.of_set ⟨g, 2, none⟩ rfl _)).trans (Kt.of_grown HG5.out HR5y.out)).trans (Kt.of_set ⟨g, 3, none⟩ rfl _)
    exact ⟨_, _, rfl, ⟨hb6, by rw [hm0]; exact r4, by rw [hm1]; exact r5, fun k h e => HAP5.out k e h⟩, hkt⟩
end Go.Proofs.Ythhigmkheccfpaa
