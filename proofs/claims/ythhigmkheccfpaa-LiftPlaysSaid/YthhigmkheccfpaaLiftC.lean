/- Lift: who is chosen, picked. -/
import Derived.Test.YthhigmkheccfpaaLiftB
set_option linter.unusedVariables false
set_option linter.unusedSimpArgs false
namespace Go.Proofs.Ythhigmkheccfpaa
open Go.RowKit
def chooseP (s : LS) : Nat := if (lateK s s.rs.length).2 = true then (lateK s s.rs.length).1 else if pos s.rs s.head = s.rs.length then 0 else pos s.rs s.head
set_option maxHeartbeats 8000000 in
set_option maxRecDepth 100000 in
theorem chooseL (w : World) (base g : Nat) (v : Value) (s : LS) (hs : Rising s.rs) (hlen : s.rs.length ≤ 256) (h : IsL w base g v s) :
    Calls Try.prog 22 #[PT g] w fun e w' => e = .returned (.int .i64 (chooseP s)) ∧ Bel w w' := by
  have K := Lib.hid (lateL w base g v s hlen h)
  have KF := Lib.hid (fun w h => findP w base g v s s.head hs (by omega) h)
  obtain ⟨A, c, rfl⟩ := h.row.len
  have H := Lib.hid h
  have hpl := (pos_find s.rs s.head hs).1
  have hcp : Hid (chooseP s = if (lateK s s.rs.length).2 = true then (lateK s s.rs.length).1 else if pos s.rs s.head = s.rs.length then 0 else pos s.rs s.head) := Lib.hid rfl
  generalize chooseP s = r at *
  generalize lateK s s.rs.length = bk at *
  obtain ⟨b, fd⟩ := bk
  clear h hs
  generalize hrs : s.rs.length = n at *
  generalize isAt s.rs s.head (pos s.rs s.head) = ia at *
  generalize pos s.rs s.head = i at *
  cases fd
  · by_cases hin : i = n
    · have hr : r = 0 := by have := hcp.out; rwa [if_neg (by simp), if_pos hin] at this
      subst hr hin
      clear hcp
      go_enter Try.func22, Try.ntmps22
      go_wp2_with fail
      refine K.out.mono ?_
      rintro e w1 ⟨rfl, hb1⟩
      have H1 := Lib.hid (H.out.bel hb1)
      have HB1 := Lib.hid hb1
      have c1 := blk_cell H1.out.blk 1
      clear hb1 K H
      go_wp2_with fail
      refine (KF.out _ H1.out).mono ?_
      rintro e w2 ⟨rfl, hb2⟩
      have H2 := Lib.hid (H1.out.bel hb2)
      have HB2 := Lib.hid (HB1.out.trans hb2)
      have c2 := blk_cell H2.out.blk 2
      clear hb2 KF H1 c1 HB1
      go_wp2_with fail
      go_ret
      exact ⟨by simp, HB2.out⟩
    · have hr : r = i := by have := hcp.out; rwa [if_neg (by simp), if_neg hin] at this
      subst hr
      have hd : ((r : Int) == (n : Int)) = false := by simp; omega
      have hd2 : decide ((r : Int) = (n : Int)) = false := by simp; omega
      clear hcp
      go_enter Try.func22, Try.ntmps22
      go_wp2_with fail
      refine K.out.mono ?_
      rintro e w1 ⟨rfl, hb1⟩
      have H1 := Lib.hid (H.out.bel hb1)
      have HB1 := Lib.hid hb1
      have c1 := blk_cell H1.out.blk 1
      clear hb1 K H
      go_wp2_with fail
      refine (KF.out _ H1.out).mono ?_
      rintro e w2 ⟨rfl, hb2⟩
      have H2 := Lib.hid (H1.out.bel hb2)
      have HB2 := Lib.hid (HB1.out.trans hb2)
      have c2 := blk_cell H2.out.blk 2
      clear hb2 KF H1 c1 HB1
      go_wp2_with fail
      go_ret
      exact ⟨rfl, HB2.out⟩
  · have hr : r = b := by have := hcp.out; rwa [if_pos rfl] at this
    subst hr
    clear hcp KF
    go_enter Try.func22, Try.ntmps22
    go_wp2_with fail
    refine K.out.mono ?_
    rintro e w1 ⟨rfl, hb1⟩
    have HB1 := Lib.hid hb1
    clear hb1 K H
    go_wp2_with fail
    go_ret
    exact ⟨rfl, HB1.out⟩
theorem lateK_in (s : LS) (h : (lateK s s.rs.length).2 = true) : (lateK s s.rs.length).1 < s.rs.length := lateK_lt s _ h
theorem chooseP_lt {s : LS} (hs : Rising s.rs) (h : 0 < s.rs.length) : chooseP s < s.rs.length := by
  unfold chooseP
  split
  · rename_i hl; exact lateK_in s hl
  · split
    · exact h
    · have := (pos_find s.rs s.head hs).1; omega
/-! ### a cell of a row is set -/
def inc (x : El) : El := ⟨x.f0, x.f1 + 1, x.f2⟩
theorem flat_set : ∀ (l : List El) (k : Nat) (y : Int), k < l.length → (flat l).set (k * 3 + 1) (.int .i64 y) = flat (l.set k ⟨(nth l k).f0, y, (nth l k).f2⟩) := by
  intro l
  induction l with
  | nil => intro k y h; simp at h
  | cons x l ih =>
    intro k y h
    cases k with
    | zero => simp [flat_cons, enc, nth]
    | succ k =>
      rw [flat_cons, List.set_cons_succ, flat_cons]
      have e : (k + 1) * 3 + 1 = (enc x).length + (k * 3 + 1) := by simp [enc]; omega
      rw [e, List.set_append_right _ _ (by omega)]
      congr 1
      rw [show (enc x).length + (k * 3 + 1) - (enc x).length = k * 3 + 1 by omega, ih k y (by simpa using h)]
      rfl
theorem Row.setW {w : World} {base : Nat} {v : Value} {l : List El} (h : Row w base v l) {k : Nat} (hk : k < l.length) (y : Int) :
    ∃ g' c, v = .slice (some ⟨g', 0, none⟩) l.length c ∧ w.frozen? ⟨g', k * 3 + 1, none⟩ = false ∧ Row (w.setCell ⟨g', k * 3 + 1, none⟩ (.int .i64 y)) base v (l.set k ⟨(nth l k).f0, y, (nth l k).f2⟩) ∧ w.grownBy (w.setCell ⟨g', k * 3 + 1, none⟩ (.int .i64 y)) v.ownBlock := by
  obtain ⟨hl, ⟨_, h0⟩ | ⟨g', cap, cur, rfl, hb, hg, hn, hc, hs, hx⟩⟩ := h
  · omega
  · refine ⟨g', cap, rfl, blk_frozen hg _, ?_, ?_⟩
    · rw [setCell_eq_setRow w g' _ cur 51 (0, 0) _ hg]
      unfold Row
      refine ⟨by rw [flat_len], .inr ⟨g', cap, _, by simp, hb, setRow_heap w g' _ _ 51 (0, 0) hg, by simpa using hn, hc, by simpa using hs, ?_⟩⟩
      rw [← flat_set l k y hk, ← hx, Array.toList_setIfInBounds, List.length_set, List.take_set]
    · rw [setCell_eq_setRow w g' _ cur 51 (0, 0) _ hg]
      exact grown_setRow w g' _
end Go.Proofs.Ythhigmkheccfpaa
