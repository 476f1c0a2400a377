/- Lift: who is chosen, picked. | Lift: a key is picked. | Lift, plainly: what adding, dropping, picking keep. | Lift: a sweep, plainly. | Lift, plainly: nobody waits for longer than the bound. -/
import Derived.Test.YtgpkpheejefiiaaGreatDoorX26
section
set_option linter.unusedVariables false
set_option linter.unusedSimpArgs false
namespace Go.Proofs.YtgpkpheejefiiaaGreatDoor.L21
set_option maxRecDepth 100000
open Go.RowKit
def chooseP (s : LS) : Nat := if (lateK s s.rs.length).2 = true then (lateK s s.rs.length).1 else if pos s.rs s.head = s.rs.length then 0 else pos s.rs s.head
set_option maxHeartbeats 8000000 in
set_option maxRecDepth 100000 in
theorem chooseL (w : World) (base g : Nat) (v : Value) (s : LS) (hs : Rising s.rs) (hlen : s.rs.length ≤ 256) (h : IsL w base g v s) :
    Calls Tryz.prog 87 #[PT g] w fun e w' => e = .returned (.int .i64 (chooseP s)) ∧ Bel w w' := by
  have K := Lib.hid (lateL w base g v s hlen h)
  have KF := Lib.hid (fun w h => findP w base g v s s.head hs (by omega) h)
  obtain ⟨A, c, rfl⟩ := h.row.len
  have H := Lib.hid h
  have hpl := (pos_find s.rs s.head hs).1
  have hcp : Hid (chooseP s = if (lateK s s.rs.length).2 = true then (lateK s s.rs.length).1 else if pos s.rs s.head = s.rs.length then 0 else pos s.rs s.head) := Lib.hid rfl
  generalize chooseP s = r at *
  generalize lateK s s.rs.length = bk at *
  obtain ⟨b, fd⟩ := bk
  clear h hs
  generalize hrs : s.rs.length = n at *
  generalize isAt s.rs s.head (pos s.rs s.head) = ia at *
  generalize pos s.rs s.head = i at *
  cases fd
  · by_cases hin : i = n
    · have hr : r = 0 := by have := hcp.out; rwa [if_neg (by simp), if_pos hin] at this
      subst hr hin
      clear hcp
      go_enter Tryz.func87, Tryz.ntmps87
      go_wp2_with fail
      refine K.out.mono ?_
      rintro e w1 ⟨rfl, hb1⟩
      have H1 := Lib.hid (H.out.bel hb1)
      have HB1 := Lib.hid hb1
      have c1 := blk_cell H1.out.blk 1
      clear hb1 K H
      go_wp2_with fail
      refine (KF.out _ H1.out).mono ?_
      rintro e w2 ⟨rfl, hb2⟩
      have H2 := Lib.hid (H1.out.bel hb2)
      have HB2 := Lib.hid (HB1.out.trans hb2)
      have c2 := blk_cell H2.out.blk 2
      clear hb2 KF H1 c1 HB1
      go_wp2_with fail
      go_ret
      exact ⟨by simp, HB2.out⟩
    · have hr : r = i := by have := hcp.out; rwa [if_neg (by simp), if_neg hin] at this
      subst hr
      have hd : ((r : Int) == (n : Int)) = false := by simp; omega
      have hd2 : decide ((r : Int) = (n : Int)) = false := by simp; omega
      clear hcp
      go_enter Tryz.func87, Tryz.ntmps87
      go_wp2_with fail
      refine K.out.mono ?_
      rintro e w1 ⟨rfl, hb1⟩
      have H1 := Lib.hid (H.out.bel hb1)
      have HB1 := Lib.hid hb1
      have c1 := blk_cell H1.out.blk 1
      clear hb1 K H
      go_wp2_with fail
      refine (KF.out _ H1.out).mono ?_
      rintro e w2 ⟨rfl, hb2⟩
      have H2 := Lib.hid (H1.out.bel hb2)
      have HB2 := Lib.hid (HB1.out.trans hb2)
      have c2 := blk_cell H2.out.blk 2
      clear hb2 KF H1 c1 HB1
      go_wp2_with fail
      go_ret
      exact ⟨rfl, HB2.out⟩
  · have hr : r = b := by have := hcp.out; rwa [if_pos rfl] at this
    subst hr
    clear hcp KF
    go_enter Tryz.func87, Tryz.ntmps87
    go_wp2_with fail
    refine K.out.mono ?_
    rintro e w1 ⟨rfl, hb1⟩
    have HB1 := Lib.hid hb1
    clear hb1 K H
    go_wp2_with fail
    go_ret
    exact ⟨rfl, HB1.out⟩
theorem lateK_in (s : LS) (h : (lateK s s.rs.length).2 = true) : (lateK s s.rs.length).1 < s.rs.length := lateK_lt s _ h
theorem chooseP_lt {s : LS} (hs : Rising s.rs) (h : 0 < s.rs.length) : chooseP s < s.rs.length := by
  unfold chooseP
  split
  · rename_i hl; exact lateK_in s hl
  · split
    · exact h
    · have := (pos_find s.rs s.head hs).1; omega
/-! ### a cell of a row is set -/
def inc (x : El) : El := ⟨x.f0, x.f1 + 1, x.f2⟩
theorem flat_set : ∀ (l : List El) (k : Nat) (y : Int), k < l.length → (flat l).set (k * 3 + 1) (.int .i64 y) = flat (l.set k ⟨(nth l k).f0, y, (nth l k).f2⟩) := by
  intro l
  induction l with
  | nil => intro k y h; simp at h
  | cons x l ih =>
    intro k y h
    cases k with
    | zero => simp [flat_cons, enc, nth]
    | succ k =>
      rw [flat_cons, List.set_cons_succ, flat_cons]
      have e : (k + 1) * 3 + 1 = (enc x).length + (k * 3 + 1) := by simp [enc]; omega
      rw [e, List.set_append_right _ _ (by omega)]
      congr 1
      rw [show (enc x).length + (k * 3 + 1) - (enc x).length = k * 3 + 1 by omega, ih k y (by simpa using h)]
      rfl
theorem Row.setW {w : World} {base : Nat} {v : Value} {l : List El} (h : Row w base v l) {k : Nat} (hk : k < l.length) (y : Int) :
    ∃ g' c, v = .slice (some ⟨g', 0, none⟩) l.length c ∧ w.frozen? ⟨g', k * 3 + 1, none⟩ = false ∧ Row (w.setCell ⟨g', k * 3 + 1, none⟩ (.int .i64 y)) base v (l.set k ⟨(nth l k).f0, y, (nth l k).f2⟩) ∧ w.grownBy (w.setCell ⟨g', k * 3 + 1, none⟩ (.int .i64 y)) v.ownBlock := by
  obtain ⟨hl, ⟨_, h0⟩ | ⟨g', cap, cur, rfl, hb, hg, hn, hc, hs, hx⟩⟩ := h
  · omega
  · refine ⟨g', cap, rfl, blk_frozen hg _, ?_, ?_⟩
    · rw [setCell_eq_setRow w g' _ cur 176 (0, 0) _ hg]
      unfold Row
      refine ⟨by rw [flat_len], .inr ⟨g', cap, _, by simp, hb, setRow_heap w g' _ _ 176 (0, 0) hg, by simpa using hn, hc, by simpa using hs, ?_⟩⟩
      rw [← flat_set l k y hk, ← hx, Array.toList_setIfInBounds, List.length_set, List.take_set]
    · rw [setCell_eq_setRow w g' _ cur 176 (0, 0) _ hg]
      exact grown_setRow w g' _
end Go.Proofs.YtgpkpheejefiiaaGreatDoor.L21
end
section
set_option linter.unusedVariables false
set_option linter.unusedSimpArgs false
namespace Go.Proofs.YtgpkpheejefiiaaGreatDoor.L21
set_option maxRecDepth 100000
open Go.RowKit
def incK (l : List El) (k : Nat) : List El := (l.take k).map inc ++ l.drop k
theorem incK_len (l : List El) (k : Nat) : (incK l k).length = l.length := by unfold incK; simp; omega
theorem incK_zero (l : List El) : incK l 0 = l := by simp [incK]
theorem incK_all (l : List El) : incK l l.length = l.map inc := by simp [incK]
theorem incK_nth (l : List El) (k : Nat) (h : k < l.length) : nth (incK l k) k = nth l k := by
  unfold nth incK
  rw [List.getD_eq_getElem?_getD, List.getD_eq_getElem?_getD, List.getElem?_append_right (by simp; omega), List.getElem?_drop]
  congr 2
  simp; omega
theorem incK_step (l : List El) (k : Nat) (h : k < l.length) : (incK l k).set k ⟨(nth (incK l k) k).f0, (nth l k).f1 + 1, (nth (incK l k) k).f2⟩ = incK l (k + 1) := by
  rw [incK_nth l k h]
  have e : incK l k = (l.take k).map inc ++ nth l k :: l.drop (k + 1) := by unfold incK; rw [drop_nth h]
  have e2 : incK l (k + 1) = (l.take k).map inc ++ inc (nth l k) :: l.drop (k + 1) := by
    unfold incK
    rw [List.take_add_one, nth_get h]
    simp
  rw [e, e2, List.set_append_right _ _ (by simp; omega)]
  have : k - ((l.take k).map inc).length = 0 := by simp; omega
  rw [this]
  rfl
def pickK (s : LS) : Int := if 0 < s.rs.length then (nth s.rs (chooseP s)).f0 else 0
def pickB (s : LS) : Bool := decide (0 < s.rs.length)
def pickS (s : LS) : LS := if 0 < s.rs.length then { s with rs := (cut s.rs (chooseP s)).map inc, head := pickK s + 1 } else s
set_option maxHeartbeats 8000000 in
set_option maxRecDepth 100000 in
theorem pickL (w : World) (base g : Nat) (v : Value) (s : LS) (hok : Ok s) (hsm : ∀ x ∈ s.rs, x.f1 ≤ 1000000) (h : IsL w base g v s) :
    Calls Tryz.prog 36 #[PT g] w fun e w' => ∃ v', e = .returned (.tuple #[.int .i64 (pickK s), .bool (pickB s)]) ∧ IsL w' base g v' (pickS s) ∧ Kp base g w w' := by
  have KN := Lib.hid (lenL w base g v s h)
  have KC := Lib.hid (fun w1 h => chooseL w1 base g v s hok.up hok.len h)
  have hlen := hok.len
  obtain ⟨A, c, rfl⟩ := h.row.len
  have H := Lib.hid h
  by_cases h0 : 0 < s.rs.length
  · have hi := chooseP_lt hok.up h0
    have hkk := hok.key _ (nth_mem hi)
    have hcl := cut_len hi
    have hK : pickK s = (nth s.rs (chooseP s)).f0 := by unfold pickK; rw [if_pos h0]
    have hB : pickB s = true := by unfold pickB; simp; omega
    have hS : pickS s = { s with rs := (cut s.rs (chooseP s)).map inc, head := (nth s.rs (chooseP s)).f0 + 1 } := by unfold pickS; rw [if_pos h0, hK]
    have hwt : ∀ x ∈ cut s.rs (chooseP s), 0 ≤ x.f1 ∧ x.f1 ≤ 1000000 := fun x hx => by
      have hm : x ∈ s.rs := by
        unfold cut at hx
        rcases List.mem_append.1 hx with hx | hx
        · exact List.mem_of_mem_take hx
        · exact List.mem_of_mem_drop hx
      exact ⟨hok.wt x hm, hsm x hm⟩
    rw [hK, hB, hS]
    clear hK hB hS hok hsm h
    have HD := Lib.hid (fun w1 (hr : Row w1 base (.slice A s.rs.length c) s.rs) => delRow w1 base (chooseP s) _ s.rs hr hi)
    have HDc : Hid (cut s.rs (chooseP s) = s.rs.take (chooseP s) ++ s.rs.drop (chooseP s + 1)) := Lib.hid rfl
    have HRC := Lib.hid (fun w1 (hr : IsL w1 base g (.slice A s.rs.length c) s) => show ∃ ad, A = some ad ∧ w1.cell? (ad.add (chooseP s * 3)) = some (.int .i64 (nth s.rs (chooseP s)).f0) from by
      obtain ⟨A', c', e, _, hR⟩ := hr.row.reads
      simp only [Value.slice.injEq] at e
      obtain ⟨ad, h1, h2, _⟩ := hR (chooseP s) hi
      exact ⟨ad, by rw [e.1]; exact h1, h2⟩)
    rw [← HDc.out] at HD
    clear HDc
    generalize cut s.rs (chooseP s) = l2 at *
    generalize (nth s.rs (chooseP s)).f0 = key at *
    generalize chooseP s = i at *
    generalize hrs : s.rs.length = n at *
    have hw1 : IntKind.i64.wrap ((i : Int) + 1) = (i : Int) + 1 := w64i (by omega) (by omega)
    have hwk : IntKind.i64.wrap (key + 1) = key + 1 := w64i (by omega) (by omega)
    have hne : ((n : Int) == 0) = false := by simp; omega
    have hne2 : decide ((n : Int) = 0) = false := by simp; omega
    go_enter Tryz.func36, Tryz.ntmps36
    go_wp2_with fail
    refine KN.out.mono ?_
    rintro e w1 ⟨rfl, hb1⟩
    have H1 := Lib.hid (H.out.bel hb1)
    have HB1 := Lib.hid hb1
    clear hb1 KN H
    go_wp2_with fail
    refine (KC.out _ H1.out).mono ?_
    rintro e w2 ⟨rfl, hb2⟩
    have H2 := Lib.hid (H1.out.bel hb2)
    have HB2 := Lib.hid (HB1.out.trans hb2)
    clear hb2 KC H1 HB1
    have c2 := blk_cell H2.out.blk 2
    obtain ⟨ad, rfl, y0⟩ := HRC.out _ H2.out
    clear HRC
    go_wp2_with fail
    refine (HD.out _ H2.out.row).mono ?_
    rintro e w3 ⟨v3, rfl, hr3, hg3⟩
    obtain ⟨A3, c3, rfl⟩ : ∃ A' c', v3 = .slice A' (n - 1) c' := by
      obtain ⟨A', c', h⟩ := hr3.len
      exact ⟨A', c', by rw [h]; congr 1⟩
    have hb3 := grown_blk hg3 H2.out.row H2.out.blk
    have c5 := blk_cell hb3 2
    have f5 := blk_frozen hb3 2
    have HB3 := Lib.hid hb3
    have HR3 := Lib.hid hr3
    have HK3 := Lib.hid ((Kp.of_bel HB2.out).trans (Kp.of_grown hg3 H2.out.row) : Kp base g w w3)
    clear hb3 hr3 hg3 H2 HB2 c2 y0 HD
    go_wp2_with fail
    clear c5 f5
    refine wp_gen (fun W => W.heap[g]? = some (.cells #[.int .i64 s.age, .int .i64 s.head, .slice A3 (n - 1) c3, .int .i64 s.added] 179 (0, 0)) ∧ Row W base (.slice A3 (n - 1) c3) l2 ∧ Kp base g w W) ⟨set2 HB3.out _, HR3.out.setG HB3.out ⟨g, 2, none⟩ rfl _, HK3.out.trans (Kp.of_set ⟨g, 2, none⟩ rfl _)⟩ ?_
    rintro W4 ⟨h4, hr4, hk4⟩
    have H4 := Lib.hid (And.intro h4 (And.intro hr4 hk4))
    have c2 := blk_cell h4 2
    clear h4 hr4 hk4 HB3 HR3 HK3
    have hm256 : n - 1 ≤ 256 := by omega
    generalize n - 1 = m at *
    have HIS := Lib.hid (fun k h => incK_step l2 k h)
    have HIN := Lib.hid (fun k h => incK_nth l2 k h)
    have HIL := Lib.hid (fun k => incK_len l2 k)
    have HIA : Hid (incK l2 m = l2.map inc) := Lib.hid (by rw [← hcl]; exact incK_all l2)
    go_wp2_with fail
    go_loopw [36] (fun v36 wr => ∃ (k : Nat), v36 = .int .i64 k ∧ k ≤ m ∧ Hid (wr.heap[g]? = some (.cells #[.int .i64 s.age, .int .i64 s.head, .slice A3 m c3, .int .i64 s.added] 179 (0, 0)) ∧ Row wr base (.slice A3 m c3) (incK l2 k) ∧ Kp base g w wr)) (fun v36 _ => m - (intOf v36).toNat)
    case atStart => exact ⟨0, rfl, by omega, Lib.hid ⟨H4.out.1, by rw [incK_zero]; exact H4.out.2.1, H4.out.2.2⟩⟩
    case round =>
      obtain ⟨wo, rfl⟩ : ∃ wo : World, wo = wr := ⟨_, rfl⟩
      obtain ⟨k, rfl, hk, HI⟩ := hrel
      by_cases hlt : k < m
      · have hk2 : k < l2.length := by omega
        have hki : k < (incK l2 k).length := by rw [HIL.out]; exact hk2
        obtain ⟨A', c', e, _, hR⟩ := HI.out.2.1.reads
        obtain ⟨ad, hA', z0, z1, z2⟩ := hR k hki
        simp only [Value.slice.injEq] at e
        obtain ⟨rfl, _, rfl⟩ := e
        subst hA'
        rw [HIN.out k hk2] at z1
        obtain ⟨g', c'', e2, hfz, hrw, hgr⟩ := HI.out.2.1.setW hki ((nth l2 k).f1 + 1)
        rw [HIS.out k hk2] at hrw
        have hbn := hwt _ (nth_mem hk2)
        have hww : IntKind.i64.wrap ((nth l2 k).f1 + 1) = (nth l2 k).f1 + 1 := w64i (by omega) (by omega)
        simp only [Value.slice.injEq, Option.some.injEq] at e2
        have hp : (⟨(ad.add (k * 3)).block, (ad.add (k * 3)).off + 1, none⟩ : Addr) = ⟨g', k * 3 + 1, none⟩ := by rw [e2.1, cells_add]; simp
        rw [← hp] at hfz hrw hgr
        have cb := blk_cell HI.out.1 2
        have hfin : Hid ((wo.setCell ⟨(ad.add (k * 3)).block, (ad.add (k * 3)).off + 1, none⟩ (.int .i64 ((nth l2 k).f1 + 1))).heap[g]? = some (.cells #[.int .i64 s.age, .int .i64 s.head, .slice (some ad) m c3, .int .i64 s.added] 179 (0, 0)) ∧ Row (wo.setCell ⟨(ad.add (k * 3)).block, (ad.add (k * 3)).off + 1, none⟩ (.int .i64 ((nth l2 k).f1 + 1))) base (.slice (some ad) m c3) (incK l2 (k + 1)) ∧ Kp base g w (wo.setCell ⟨(ad.add (k * 3)).block, (ad.add (k * 3)).off + 1, none⟩ (.int .i64 ((nth l2 k).f1 + 1)))) :=
          Lib.hid ⟨grown_blk hgr HI.out.2.1 HI.out.1, hrw, HI.out.2.2.trans (Kp.of_grown hgr HI.out.2.1)⟩
        clear hrw hgr hp e2 hR z0 z2 HI hbn
        generalize (nth l2 k).f1 = q1 at *
        go_wp2_with fail
        exact ⟨⟨k + 1, by congr 1, by omega, hfin⟩, by simp [intOf]; omega⟩
      · have hkm : k = m := by omega
        subst hkm
        have hb4 := HI.out.1
        have hr5 := HI.out.2.1
        rw [HIA.out] at hr5
        have c1 := blk_cell hb4 1
        have f1 := blk_frozen hb4 1
        have HB5 := Lib.hid hb4
        have HR5 := Lib.hid hr5
        have HK5 := Lib.hid HI.out.2.2
        clear HI hb4 hr5 HIS HIN HIL HIA H4
        go_wp2_with fail
        go_ret2
        have hfin : IsL (wo.setCell ⟨g, 1, none⟩ (.int .i64 (key + 1))) base g (.slice A3 k c3) { s with rs := l2.map inc, head := key + 1 } := ⟨set1 HB5.out _, HR5.out.setG HB5.out ⟨g, 1, none⟩ rfl _⟩
        have hk := HK5.out.trans (Kp.of_set ⟨g, 1, none⟩ rfl (.int .i64 (key + 1)) : Kp base g wo _)
        first | exact ⟨_, rfl, hfin, hk⟩ | exact ⟨rfl, ⟨_, hfin⟩, hk⟩
  · have hl0 : s.rs.length = 0 := by omega
    have hK : pickK s = 0 := by unfold pickK; rw [if_neg h0]
    have hB : pickB s = false := by unfold pickB; simp [hl0]
    have hS : pickS s = s := by unfold pickS; rw [if_neg h0]
    rw [hK, hB, hS]
    rw [hl0] at KN H
    clear hK hB hS hok hsm h KC h0
    go_enter Tryz.func36, Tryz.ntmps36
    go_wp2_with fail
    refine KN.out.mono ?_
    rintro e w1 ⟨rfl, hb1⟩
    have HF := Lib.hid (And.intro (H.out.bel hb1) hb1)
    clear hb1 H
    go_wp2_with fail
    go_ret2
    first | exact ⟨_, rfl, HF.out.1, Kp.of_bel HF.out.2⟩ | exact ⟨rfl, ⟨_, HF.out.1⟩, Kp.of_bel HF.out.2⟩
theorem pickN (w : World) : Calls Tryz.prog 36 #[.pointer none] w fun e w' => e = .returned (.tuple #[.int .i64 0, .bool false]) ∧ Bel w w' := by
  have K := Lib.hid lenN
  go_enter Tryz.func36, Tryz.ntmps36
  go_wp2_with fail
  refine (K.out _).mono ?_
  rintro e w1 ⟨rfl, hb1⟩
  go_wp2_with fail
  go_ret2
  exact ⟨rfl, hb1⟩
end Go.Proofs.YtgpkpheejefiiaaGreatDoor.L21
end
section
set_option linter.unusedVariables false
set_option linter.unusedSimpArgs false
namespace Go.Proofs.YtgpkpheejefiiaaGreatDoor.L21
set_option maxRecDepth 100000
open Go.RowKit
theorem rising_iff (l : List El) : Rising l ↔ l.Pairwise (fun a b => a.f0 < b.f0) := by
  rw [List.pairwise_iff_getElem]
  constructor
  · intro h i j hi hj hij
    have := h i j hij hj
    have e1 := nth_get hi
    have e2 := nth_get hj
    rw [List.getElem?_eq_getElem hi] at e1
    rw [List.getElem?_eq_getElem hj] at e2
    rw [Option.some.inj e1, Option.some.inj e2]
    exact this
  · intro h i j hij hj
    have := h i j (by omega) hj hij
    have e1 := nth_get (show i < l.length by omega)
    have e2 := nth_get hj
    rw [List.getElem?_eq_getElem (show i < l.length by omega)] at e1
    rw [List.getElem?_eq_getElem hj] at e2
    rw [Option.some.inj e1, Option.some.inj e2] at this
    exact this
theorem mem_nth {l : List El} {x : El} (h : x ∈ l) : ∃ i, i < l.length ∧ nth l i = x := by
  obtain ⟨i, hi, rfl⟩ := List.getElem_of_mem h
  have e1 := nth_get hi
  rw [List.getElem?_eq_getElem hi] at e1
  exact ⟨i, hi, (Option.some.inj e1).symm⟩
theorem has_iff {s : LS} (hs : Rising s.rs) (key : Int) : has s key = true ↔ ∃ x ∈ s.rs, x.f0 = key := by
  obtain ⟨h1, h2, h3⟩ := pos_find s.rs key hs
  unfold has isAt
  simp only [Bool.and_eq_true, decide_eq_true_eq]
  constructor
  · rintro ⟨h4, h5⟩; exact ⟨_, nth_mem h4, h5⟩
  · rintro ⟨x, hx, rfl⟩
    obtain ⟨i, hi, rfl⟩ := mem_nth hx
    have hp : pos s.rs (nth s.rs i).f0 = i := by
      rcases Nat.lt_trichotomy i (pos s.rs (nth s.rs i).f0) with h | h | h
      · have := h2 i h; omega
      · exact h.symm
      · have h4 := h3 _ (Nat.le_refl _) (by omega)
        have h5 := hs _ i h hi
        omega
    rw [hp]
    exact ⟨hi, rfl⟩
theorem has_false {s : LS} (hs : Rising s.rs) (key : Int) : has s key = false ↔ ∀ x ∈ s.rs, x.f0 ≠ key := by
  rw [← Bool.not_eq_true, has_iff hs]
  exact ⟨fun h x hx e => h ⟨x, hx, e⟩, fun h ⟨x, hx, e⟩ => h x hx e⟩
def insR (s : LS) (key : Int) : List El := s.rs.take (pos s.rs key) ++ ⟨key, 0, s.added⟩ :: s.rs.drop (pos s.rs key)
theorem addS_of {s : LS} {key : Int} (h : addE s key = 0) : addS s key = { s with rs := insR s key, added := s.added + 1 } := by unfold addS insR; rw [if_pos h]
theorem addS_no {s : LS} {key : Int} (h : addE s key ≠ 0) : addS s key = s := by unfold addS; rw [if_neg h]
theorem mem_insR (s : LS) (key : Int) (x : El) : x ∈ insR s key ↔ x ∈ s.rs ∨ x = ⟨key, 0, s.added⟩ := by
  unfold insR
  rw [List.mem_append, List.mem_cons]
  constructor
  · rintro (h | h | h)
    · exact .inl (List.mem_of_mem_take h)
    · exact .inr h
    · exact .inl (List.mem_of_mem_drop h)
  · rintro (h | h)
    · rw [← List.take_append_drop (pos s.rs key) s.rs, List.mem_append] at h
      rcases h with h | h
      · exact .inl h
      · exact .inr (.inr h)
    · exact .inr (.inl h)
theorem insR_len (s : LS) (key : Int) : (insR s key).length = s.rs.length + 1 := by unfold insR; simp; omega
theorem take_lt {l : List El} {i : Nat} {x : El} (h : x ∈ l.take i) : ∃ j, j < i ∧ j < l.length ∧ nth l j = x := by
  obtain ⟨j, hj, e⟩ := mem_nth h
  have hj2 : j < i ∧ j < l.length := by rw [List.length_take] at hj; omega
  refine ⟨j, hj2.1, hj2.2, ?_⟩
  rw [← e]
  unfold nth
  rw [List.getD_eq_getElem?_getD, List.getD_eq_getElem?_getD, List.getElem?_take, if_pos hj2.1]
theorem drop_ge {l : List El} {i : Nat} {x : El} (h : x ∈ l.drop i) : ∃ j, i ≤ j ∧ j < l.length ∧ nth l j = x := by
  obtain ⟨j, hj, e⟩ := mem_nth h
  have hj2 : i + j < l.length := by rw [List.length_drop] at hj; omega
  refine ⟨i + j, by omega, hj2, ?_⟩
  rw [← e]
  unfold nth
  rw [List.getD_eq_getElem?_getD, List.getD_eq_getElem?_getD, List.getElem?_drop]
theorem insR_up {s : LS} {key : Int} (hs : Rising s.rs) (hh : has s key = false) : Rising (insR s key) := by
  have hp := (rising_iff _).1 hs
  have hf := (has_false hs key).1 hh
  obtain ⟨h1, h2, h3⟩ := pos_find s.rs key hs
  rw [rising_iff]
  unfold insR
  rw [List.pairwise_append]
  refine ⟨hp.sublist (List.take_sublist _ _), List.pairwise_cons.2 ⟨fun y hy => ?_, hp.sublist (List.drop_sublist _ _)⟩, fun y hy z hz => ?_⟩
  · obtain ⟨j, hj1, hj2, rfl⟩ := drop_ge hy
    have h4 := h3 j hj1 hj2
    have h5 := hf _ (nth_mem hj2)
    show key < _
    omega
  · obtain ⟨j, hj1, hj2, rfl⟩ := take_lt hy
    have h4 := h2 j hj1
    rcases List.mem_cons.1 hz with rfl | hz
    · exact h4
    · obtain ⟨q, hq1, hq2, rfl⟩ := drop_ge hz
      have := h3 q hq1 hq2
      omega
theorem addE_zero {s : LS} {key : Int} (h : addE s key = 0) : 0 ≤ key ∧ key < 1099511627776 ∧ has s key = false ∧ s.rs.length < 256 := by
  unfold addE at h
  split at h
  · simp at h
  · split at h
    · simp at h
    · split at h
      · simp at h
      · rename_i h1 h2 h3
        exact ⟨by omega, by omega, by simpa using h2, by omega⟩
theorem addE_of {s : LS} {key : Int} (h0 : 0 ≤ key) (h1 : key < 1099511627776) (h2 : has s key = false) (h3 : s.rs.length < 256) : addE s key = 0 := by
  unfold addE
  rw [if_neg (by omega), if_neg (by simp [h2]), if_neg (by omega)]
theorem ok_add {s : LS} (h : Ok s) (key : Int) : Ok (addS s key) := by
  by_cases he : addE s key = 0
  · obtain ⟨k0, k1, hh, hl⟩ := addE_zero he
    rw [addS_of he]
    refine ⟨insR_up h.up hh, by show (insR s key).length ≤ 256; rw [insR_len]; omega, fun x hx => ?_, h.age, fun x hx => ?_, by show 0 ≤ s.added + 1; have := h.add; omega, fun x hx => ?_⟩
    · rcases (mem_insR s key x).1 hx with hx | rfl
      · exact h.key x hx
      · exact ⟨k0, k1⟩
    · rcases (mem_insR s key x).1 hx with hx | rfl
      · exact h.wt x hx
      · exact Int.le_refl 0
    · show 0 ≤ x.f2 ∧ x.f2 < s.added + 1
      rcases (mem_insR s key x).1 hx with hx | rfl
      · have := h.came x hx; omega
      · have := h.add; simp only []; omega
  · rw [addS_no he]; exact h
theorem has_add {s : LS} (h : Ok s) {key : Int} (he : addE s key = 0) : has (addS s key) key = true := by
  have ho := ok_add h key
  rw [has_iff ho.up, addS_of he]
  exact ⟨_, (mem_insR s key _).2 (.inr rfl), rfl⟩
theorem mem_cut {l : List El} {i : Nat} {x : El} (h : x ∈ cut l i) : x ∈ l := by
  unfold cut at h
  rcases List.mem_append.1 h with h | h
  · exact List.mem_of_mem_take h
  · exact List.mem_of_mem_drop h
theorem cut_sub (l : List El) (i : Nat) : (cut l i).Sublist l := by
  have h : (l.take i ++ l.drop (i + 1)).Sublist (l.take i ++ l.drop i) := by
    refine List.Sublist.append (List.Sublist.refl _) ?_
    rw [← List.drop_drop]
    exact List.drop_sublist _ _
  rwa [List.take_append_drop] at h
theorem cut_up {l : List El} (h : Rising l) (i : Nat) : Rising (cut l i) := (rising_iff _).2 (((rising_iff _).1 h).sublist (cut_sub l i))
/-- What is cut out isn't there. -/
theorem cut_ne {l : List El} (h : Rising l) {i : Nat} (hi : i < l.length) : ∀ x ∈ cut l i, x.f0 ≠ (nth l i).f0 := by
  intro x hx
  unfold cut at hx
  rcases List.mem_append.1 hx with hx | hx
  · obtain ⟨j, h1, h2, rfl⟩ := take_lt hx
    have := h j i h1 hi; omega
  · obtain ⟨j, h1, h2, rfl⟩ := drop_ge hx
    have := h i j (by omega) h2; omega
theorem ok_drop {s : LS} (h : Ok s) (key : Int) : Ok (dropS s key) := by
  unfold dropS
  split
  · exact ⟨cut_up h.up _, Nat.le_trans (cut_sub _ _).length_le h.len, fun x hx => h.key x (mem_cut hx), h.age, fun x hx => h.wt x (mem_cut hx), h.add, fun x hx => h.came x (mem_cut hx)⟩
  · exact h
theorem has_drop {s : LS} (h : Ok s) (key : Int) : has (dropS s key) key = false := by
  have ho := ok_drop h key
  by_cases hh : has s key = true
  · rw [has_false ho.up]
    intro x hx
    unfold dropS at hx
    rw [if_pos hh] at hx
    have hin : pos s.rs key < s.rs.length ∧ (nth s.rs (pos s.rs key)).f0 = key := by unfold has isAt at hh; simpa using hh
    have := cut_ne h.up hin.1 x hx
    rwa [hin.2] at this
  · unfold dropS; rw [if_neg hh]; simpa using hh
theorem drop_len {s : LS} {key : Int} (hh : has s key = true) : (dropS s key).rs.length = s.rs.length - 1 := by
  have hin : pos s.rs key < s.rs.length := by unfold has isAt at hh; simp at hh; exact hh.1
  unfold dropS; rw [if_pos hh]; exact cut_len hin
theorem pick_len {s : LS} (h : Ok s) : (pickS s).rs.length = s.rs.length - 1 := by
  unfold pickS
  split
  · rename_i h0
    show ((cut s.rs (chooseP s)).map inc).length = _
    rw [List.length_map, cut_len (chooseP_lt h.up h0)]
  · omega
theorem mem_pick {s : LS} {x : El} (hx : x ∈ (pickS s).rs) : ∃ y ∈ s.rs, x.f0 = y.f0 ∧ (x.f1 = y.f1 + 1 ∨ x.f1 = y.f1) ∧ x.f2 = y.f2 := by
  unfold pickS at hx
  split at hx
  · obtain ⟨y, hy, rfl⟩ := List.mem_map.1 hx
    exact ⟨y, mem_cut hy, rfl, .inl rfl, rfl⟩
  · exact ⟨x, hx, rfl, .inr rfl, rfl⟩
theorem map_inc_up {l : List El} (h : Rising l) : Rising (l.map inc) := by
  rw [rising_iff] at h ⊢
  exact List.pairwise_map.2 (h.imp fun h => h)
theorem ok_pick {s : LS} (h : Ok s) : Ok (pickS s) := by
  refine ⟨?_, by rw [pick_len h]; have := h.len; omega, fun x hx => ?_, ?_, fun x hx => ?_, ?_, fun x hx => ?_⟩
  · unfold pickS
    split
    · exact map_inc_up (cut_up h.up _)
    · exact h.up
  · obtain ⟨y, hy, e, _⟩ := mem_pick hx
    rw [e]; exact h.key y hy
  · unfold pickS; split <;> exact h.age
  · obtain ⟨y, hy, _, e, _⟩ := mem_pick hx
    have := h.wt y hy
    rcases e with e | e <;> omega
  · unfold pickS; split <;> exact h.add
  · obtain ⟨y, hy, _, _, e⟩ := mem_pick hx
    have := h.came y hy
    have e2 : (pickS s).added = s.added := by unfold pickS; split <;> rfl
    rw [e, e2]; exact this
theorem pick_added (s : LS) : (pickS s).added = s.added := by unfold pickS; split <;> rfl
theorem pickK_mem {s : LS} (h : Ok s) (h0 : 0 < s.rs.length) : ∃ x ∈ s.rs, x.f0 = pickK s := by
  unfold pickK
  rw [if_pos h0]
  exact ⟨_, nth_mem (chooseP_lt h.up h0), rfl⟩
theorem ok_new (age : Int) : Ok ⟨max 1 (min age 65536), 0, 0, []⟩ := ⟨fun i j _ h => by simp at h, by simp, by simp, by simp only []; omega, by simp, by simp, by simp⟩
end Go.Proofs.YtgpkpheejefiiaaGreatDoor.L21
end
section
set_option linter.unusedVariables false
set_option linter.unusedSimpArgs false
namespace Go.Proofs.YtgpkpheejefiiaaGreatDoor.L21
set_option maxRecDepth 100000
theorem lateK_none {s : LS} (h : ∀ x ∈ s.rs, x.f1 < s.age) : ∀ k, k ≤ s.rs.length → lateK s k = (0, false) := by
  intro k
  induction k with
  | zero => intro _; rfl
  | succ k ih =>
    intro hk
    unfold lateK
    rw [ih (by omega)]
    unfold lateStep
    have := h _ (nth_mem (l := s.rs) (i := k) (by omega))
    rw [if_neg (by rintro ⟨h1, _⟩; omega)]
theorem has_pick {s : LS} (h : Ok s) (h0 : 0 < s.rs.length) (x : Int) : has (pickS s) x = true ↔ has s x = true ∧ x ≠ pickK s := by
  have hi := chooseP_lt h.up h0
  rw [has_iff (ok_pick h).up, has_iff h.up]
  have hS : (pickS s).rs = (cut s.rs (chooseP s)).map inc := by unfold pickS; rw [if_pos h0]
  have hK : pickK s = (nth s.rs (chooseP s)).f0 := by unfold pickK; rw [if_pos h0]
  rw [hS, hK]
  constructor
  · rintro ⟨y, hy, rfl⟩
    obtain ⟨z, hz, rfl⟩ := List.mem_map.1 hy
    exact ⟨⟨z, mem_cut hz, rfl⟩, cut_ne h.up hi z hz⟩
  · rintro ⟨⟨y, hy, rfl⟩, hne⟩
    obtain ⟨j, hj, rfl⟩ := mem_nth hy
    refine ⟨inc (nth s.rs j), List.mem_map.2 ⟨nth s.rs j, ?_, rfl⟩, rfl⟩
    unfold cut
    rw [List.mem_append]
    rcases Nat.lt_trichotomy j (chooseP s) with hl | hl | hl
    · refine .inl (List.mem_of_getElem? (i := j) ?_)
      rw [List.getElem?_take, if_pos hl]; exact nth_get hj
    · exact absurd (by rw [hl]) hne
    · refine .inr (List.mem_of_getElem? (i := j - (chooseP s + 1)) ?_)
      rw [List.getElem?_drop, show chooseP s + 1 + (j - (chooseP s + 1)) = j by omega]; exact nth_get hj
theorem has_addS {s : LS} (h : Ok s) {key : Int} (he : addE s key = 0) (x : Int) : has (addS s key) x = true ↔ has s x = true ∨ x = key := by
  rw [has_iff (ok_add h key).up, has_iff h.up, addS_of he]
  constructor
  · rintro ⟨y, hy, rfl⟩
    rcases (mem_insR s key y).1 hy with hy | rfl
    · exact .inl ⟨y, hy, rfl⟩
    · exact .inr rfl
  · rintro (⟨y, hy, rfl⟩ | rfl)
    · exact ⟨y, (mem_insR s key y).2 (.inl hy), rfl⟩
    · exact ⟨_, (mem_insR s x _).2 (.inr rfl), rfl⟩
/-- A sweep on its way, j picks behind. -/
structure SW (s : LS) (first last : Int) (turned : Bool) (j : Nat) : Prop where
  ok : Ok s
  age : s.age = 65536
  head : s.head = last + 1
  wt : ∀ x ∈ s.rs, x.f1 ≤ j
  nt : turned = false → first ≤ last ∧ ∀ x ∈ s.rs, last < x.f0 ∨ x.f0 ≤ first
  tt : turned = true → ∀ x ∈ s.rs, last < x.f0 ∧ x.f0 ≤ first
theorem sw_step {s : LS} {first last : Int} {turned : Bool} {j : Nat} (h : SW s first last turned j) (hj : j < 65536) (h0 : 0 < s.rs.length) :
    pickB s = true ∧ has s (pickK s) = true ∧ (pickK s ≤ last → turned = false) ∧ ((turned || decide (pickK s ≤ last)) = true → pickK s ≤ first) ∧ SW (pickS s) first (pickK s) (turned || decide (pickK s ≤ last)) (j + 1) := by
  have hi := chooseP_lt h.ok.up h0
  have hK : pickK s = (nth s.rs (chooseP s)).f0 := by unfold pickK; rw [if_pos h0]
  have hhead : (pickS s).head = pickK s + 1 := by unfold pickS; rw [if_pos h0]
  have hage : (pickS s).age = s.age := by unfold pickS; split <;> rfl
  have hl : lateK s s.rs.length = (0, false) := lateK_none (fun x hx => by have := h.wt x hx; rw [h.age]; omega) _ (Nat.le_refl _)
  have hc : chooseP s = if pos s.rs s.head = s.rs.length then 0 else pos s.rs s.head := by unfold chooseP; rw [hl]; simp
  obtain ⟨p1, p2, p3⟩ := pos_find s.rs s.head h.ok.up
  have hmk : nth s.rs (chooseP s) ∈ s.rs := nth_mem hi
  have hrest : ∀ x ∈ (pickS s).rs, ∃ y ∈ s.rs, x.f0 = y.f0 ∧ x.f0 ≠ pickK s := fun x hx => by
    obtain ⟨y, hy, e, _⟩ := mem_pick hx
    exact ⟨y, hy, e, ((has_pick h.ok h0 x.f0).1 ((has_iff (ok_pick h.ok).up _).2 ⟨x, hx, rfl⟩)).2⟩
  have hwt : ∀ x ∈ (pickS s).rs, x.f1 ≤ ((j + 1 : Nat) : Int) := fun x hx => by
    obtain ⟨y, hy, _, e, _⟩ := mem_pick hx
    have := h.wt y hy
    rcases e with e | e <;> omega
  have hB : pickB s = true := by unfold pickB; simp; omega
  have hh : has s (pickK s) = true := (has_iff h.ok.up _).2 ⟨_, hmk, hK.symm⟩
  have up := h.ok.up
  by_cases hp : pos s.rs s.head = s.rs.length
  · -- none from the head on: the smallest
    rw [hp] at p2
    have hc0 : chooseP s = 0 := by rw [hc, if_pos hp]
    have hall : ∀ x ∈ s.rs, x.f0 ≤ last := fun x hx => by
      obtain ⟨i, hi', rfl⟩ := mem_nth hx
      have := p2 i hi'; rw [h.head] at this; omega
    have hmin : ∀ x ∈ s.rs, pickK s ≤ x.f0 := fun x hx => by
      obtain ⟨i, hi', rfl⟩ := mem_nth hx
      rw [hK, hc0]
      by_cases hz : i = 0
      · rw [hz]; exact Int.le_refl _
      · have := up 0 i (by omega) hi'; omega
    have hkl : pickK s ≤ last := by rw [hK]; exact hall _ hmk
    have htf : turned = false := by
      cases turned
      · rfl
      · have := (h.tt rfl _ hmk).1; rw [← hK] at this; omega
    subst htf
    have hnt := h.nt rfl
    have hfirst : ∀ x ∈ s.rs, x.f0 ≤ first := fun x hx => by
      have := hall x hx
      rcases hnt.2 x hx with h1 | h1 <;> omega
    have hkf : pickK s ≤ first := by rw [hK]; exact hfirst _ hmk
    have hd : (false || decide (pickK s ≤ last)) = true := by simpa using hkl
    refine ⟨hB, hh, fun _ => rfl, fun _ => hkf, ?_⟩
    rw [hd]
    refine ⟨ok_pick h.ok, by rw [hage, h.age], hhead, hwt, fun h => by simp at h, fun _ x hx => ?_⟩
    obtain ⟨y, hy, e, hne⟩ := hrest x hx
    have h1 := hmin y hy
    have h2 := hfirst y hy
    omega
  · have hcp : chooseP s = pos s.rs s.head := by rw [hc, if_neg hp]
    have hge : s.head ≤ pickK s := by rw [hK, hcp]; exact p3 _ (Nat.le_refl _) (by omega)
    have hgt : last < pickK s := by rw [h.head] at hge; omega
    have hsplit : ∀ x ∈ s.rs, x.f0 ≤ last ∨ pickK s ≤ x.f0 := fun x hx => by
      obtain ⟨i, hi', rfl⟩ := mem_nth hx
      by_cases hz : i < pos s.rs s.head
      · have := p2 i hz; rw [h.head] at this; exact .inl (by omega)
      · refine .inr ?_
        rw [hK, hcp]
        by_cases hz2 : i = pos s.rs s.head
        · rw [hz2]; exact Int.le_refl _
        · have := up (pos s.rs s.head) i (by omega) hi'; omega
    have hd : (turned || decide (pickK s ≤ last)) = turned := by
      have : decide (pickK s ≤ last) = false := by simp; omega
      rw [this]; simp
    have hkm : ∃ x ∈ s.rs, x.f0 = pickK s := ⟨_, hmk, hK.symm⟩
    rw [hd]
    refine ⟨hB, hh, fun h => by omega, fun ht => ?_, ok_pick h.ok, by rw [hage, h.age], hhead, hwt, fun ht => ?_, fun ht x hx => ?_⟩
    · obtain ⟨x, hx, e⟩ := hkm
      have := (h.tt ht x hx).2; omega
    · have hnt := h.nt ht
      refine ⟨by omega, fun x hx => ?_⟩
      obtain ⟨y, hy, e, hne⟩ := hrest x hx
      rcases hsplit y hy with h1 | h1
      · rcases hnt.2 y hy with h2 | h2
        · omega
        · exact .inr (by omega)
      · exact .inl (by omega)
    · obtain ⟨y, hy, e, hne⟩ := hrest x hx
      have h1 := h.tt ht y hy
      rcases hsplit y hy with h2 | h2
      · omega
      · omega
end Go.Proofs.YtgpkpheejefiiaaGreatDoor.L21
end
section
set_option linter.unusedVariables false
set_option linter.unusedSimpArgs false
namespace Go.Proofs.YtgpkpheejefiiaaGreatDoor.L21
set_option maxRecDepth 100000
open Go.RowKit
theorem nth_el {l : List El} {i : Nat} (h : i < l.length) : nth l i = l[i] := by
  have := nth_get h
  rw [List.getElem?_eq_getElem h] at this
  exact (Option.some.inj this).symm
theorem lateK_spec (s : LS) : ∀ k, ((lateK s k).2 = false → ∀ j : Nat, j < k → (nth s.rs j).f1 < s.age) ∧ ((lateK s k).2 = true → s.age ≤ (nth s.rs (lateK s k).1).f1 ∧ ∀ j : Nat, j < k → s.age ≤ (nth s.rs j).f1 → (nth s.rs (lateK s k).1).f2 ≤ (nth s.rs j).f2) := by
  intro k
  induction k with
  | zero => exact ⟨fun _ j h => by omega, fun h => by simp [lateK] at h⟩
  | succ k ih =>
    obtain ⟨h1, h2⟩ := ih
    unfold lateK lateStep
    split
    · rename_i hc
      refine ⟨fun h => by simp at h, fun _ => ⟨hc.1, fun j hj hl => ?_⟩⟩
      by_cases hjk : j = k
      · rw [hjk]; exact Int.le_refl _
      · rcases hc.2 with h | h
        · have := h1 h j (by omega); omega
        · cases hb : (lateK s k).2
          · have := h1 hb j (by omega); omega
          · have := (h2 hb).2 j (by omega) hl
            simp only []; omega
    · rename_i hc
      refine ⟨fun h j hj => ?_, fun h => ⟨(h2 h).1, fun j hj hl => ?_⟩⟩
      · by_cases hjk : j = k
        · subst hjk
          by_cases hl : s.age ≤ (nth s.rs j).f1
          · exact absurd ⟨hl, .inl h⟩ hc
          · omega
        · exact h1 h j (by omega)
      · by_cases hjk : j = k
        · subst hjk
          by_cases hl2 : (nth s.rs j).f2 < (nth s.rs (lateK s j).1).f2
          · exact absurd ⟨hl, .inr hl2⟩ hc
          · omega
        · exact (h2 h).2 j (by omega) hl
/-- A late one is served, the one that came first. -/
theorem choose_late {s : LS} {j : Nat} (hj : j < s.rs.length) (hl : s.age ≤ (nth s.rs j).f1) : (nth s.rs (chooseP s)).f2 ≤ (nth s.rs j).f2 := by
  obtain ⟨h1, h2⟩ := lateK_spec s s.rs.length
  unfold chooseP
  cases hb : (lateK s s.rs.length).2
  · have := h1 hb j hj; omega
  · rw [if_pos rfl]; exact (h2 hb).2 j hj hl
def ahead (l : List El) (t : Int) : Nat := l.countP fun y => decide (y.f2 < t)
theorem ahead_ins (l : List El) (i : Nat) (y : El) (t : Int) : ahead (l.take i ++ y :: l.drop i) t = ahead l t + if y.f2 < t then 1 else 0 := by
  unfold ahead
  rw [List.countP_append, List.countP_cons]
  have : List.countP (fun y => decide (y.f2 < t)) l = List.countP (fun y => decide (y.f2 < t)) (l.take i) + List.countP (fun y => decide (y.f2 < t)) (l.drop i) := by rw [← List.countP_append, List.take_append_drop]
  rw [this]
  by_cases h : y.f2 < t
  · simp [h]; omega
  · simp [h]
theorem ahead_cut (l : List El) (i : Nat) (hi : i < l.length) (t : Int) : ahead (cut l i) t + (if (nth l i).f2 < t then 1 else 0) = ahead l t := by
  have e : l = l.take i ++ nth l i :: l.drop (i + 1) := by rw [← drop_nth hi, List.take_append_drop]
  unfold cut ahead
  rw [List.countP_append]
  conv => rhs; rw [e]
  rw [List.countP_append, List.countP_cons]
  by_cases h : (nth l i).f2 < t
  · simp [h]; omega
  · simp [h]
theorem ahead_inc (l : List El) (t : Int) : ahead (l.map inc) t = ahead l t := by
  unfold ahead
  rw [List.countP_map]
  rfl
theorem ahead_all {l : List El} {t : Int} (h : ∀ x ∈ l, x.f2 < t) : ahead l t = l.length := by
  unfold ahead
  rw [List.countP_eq_length]
  intro x hx; simpa using h x hx
theorem nodup_get {l : List El} (h : (l.map El.f2).Nodup) {i j : Nat} (hi : i < l.length) (hj : j < l.length) (e : (nth l i).f2 = (nth l j).f2) : i = j := by
  rw [nth_el hi, nth_el hj] at e
  exact (List.getElem_inj (h₀ := by simpa using hi) (h₁ := by simpa using hj) h).1 (by simpa using e)
structure Bd (s : LS) (age p : Int) (gd : Int → Option Int) : Prop where
  ok : Ok s
  nd : (s.rs.map El.f2).Nodup
  ag : s.age = age
  due : ∀ x ∈ s.rs, ∃ d, gd x.f0 = some d ∧ p + max (age - x.f1) 0 + (ahead s.rs x.f2 : Int) + 1 ≤ d
  dom : ∀ z, has s z = false → gd z = none
theorem Bd.all {s : LS} {age p : Int} {gd : Int → Option Int} (h : Bd s age p gd) {z d : Int} (hz : gd z = some d) : p + 1 ≤ d := by
  cases hh : has s z
  · rw [h.dom z hh] at hz; simp at hz
  · obtain ⟨x, hx, rfl⟩ := (has_iff h.ok.up z).1 hh
    obtain ⟨d', e, h1⟩ := h.due x hx
    rw [hz] at e
    have := Option.some.inj e
    omega
theorem bd_new (age : Int) (h1 : 1 ≤ age) (h2 : age ≤ 65536) : Bd ⟨age, 0, 0, []⟩ age 0 (fun _ => none) :=
  ⟨⟨fun i j _ h => by simp at h, by simp, by simp, ⟨h1, h2⟩, by simp, by simp, by simp⟩, by simp, rfl, by simp, fun _ _ => rfl⟩
theorem bd_add {s : LS} {age p : Int} {gd : Int → Option Int} (h : Bd s age p gd) (hp : 0 ≤ age) {key : Int} (he : addE s key = 0) : Bd (addS s key) age p (fun z => if z = key then some (p + age + s.rs.length + 1) else gd z) := by
  have hh := (addE_zero he).2.2.1
  have hrs : (addS s key).rs = s.rs.take (pos s.rs key) ++ ⟨key, 0, s.added⟩ :: s.rs.drop (pos s.rs key) := by rw [addS_of he]; rfl
  have hm : ∀ x, x ∈ (addS s key).rs ↔ x ∈ s.rs ∨ x = ⟨key, 0, s.added⟩ := fun x => by rw [addS_of he]; exact mem_insR s key x
  have hf := (has_false h.ok.up key).1 hh
  refine ⟨ok_add h.ok key, ?_, by rw [addS_of he]; exact h.ag, fun x hx => ?_, fun z hz => ?_⟩
  · rw [hrs, List.map_append, List.map_cons, List.map_take, List.map_drop]
    refine (List.perm_middle.nodup_iff).2 ?_
    rw [List.take_append_drop, List.nodup_cons]
    refine ⟨fun hc => ?_, h.nd⟩
    obtain ⟨x, hx, e⟩ := List.mem_map.1 hc
    have := h.ok.came x hx; simp only [] at e; omega
  · rw [hrs, ahead_ins]
    rcases (hm x).1 hx with hx | rfl
    · obtain ⟨d, e, hd⟩ := h.due x hx
      refine ⟨d, by rw [if_neg (hf x hx)]; exact e, ?_⟩
      have := h.ok.came x hx
      rw [if_neg (by simp only []; omega)]
      simpa using hd
    · refine ⟨_, if_pos rfl, ?_⟩
      have := ahead_all (l := s.rs) (t := s.added) (fun x hx => (h.ok.came x hx).2)
      simp only []
      rw [this, if_neg (by omega)]
      omega
  · have : z ≠ key := fun e => by
      have := (has_addS h.ok he z).2 (.inr e)
      rw [this] at hz; simp at hz
    simp only [if_neg this]
    refine h.dom z ?_
    cases hs : has s z
    · rfl
    · have := (has_addS h.ok he z).2 (.inl hs)
      rw [this] at hz; simp at hz
theorem bd_pick {s : LS} {age p : Int} {gd : Int → Option Int} (h : Bd s age p gd) (h0 : 0 < s.rs.length) : (∃ d, gd (pickK s) = some d ∧ p + 1 ≤ d) ∧ Bd (pickS s) age (p + 1) (fun z => if z = pickK s then none else gd z) := by
  have hi := chooseP_lt h.ok.up h0
  have hS : (pickS s).rs = (cut s.rs (chooseP s)).map inc := by unfold pickS; rw [if_pos h0]
  have hK : pickK s = (nth s.rs (chooseP s)).f0 := by unfold pickK; rw [if_pos h0]
  constructor
  · obtain ⟨d, e, hd⟩ := h.due _ (nth_mem hi)
    rw [hK]
    exact ⟨d, e, by omega⟩
  · refine ⟨ok_pick h.ok, ?_, by unfold pickS; rw [if_pos h0]; exact h.ag, fun x' hx => ?_, fun z hz => ?_⟩
    · rw [hS, List.map_map]
      have : El.f2 ∘ inc = El.f2 := rfl
      rw [this]
      exact ((cut_sub _ _).map _).nodup h.nd
    · rw [hS] at hx ⊢
      obtain ⟨y, hy, rfl⟩ := List.mem_map.1 hx
      have hy1 := mem_cut hy
      have hy2 := cut_ne h.ok.up hi y hy
      obtain ⟨d, e, hd⟩ := h.due y hy1
      refine ⟨d, ?_, ?_⟩
      · show (if y.f0 = pickK s then none else gd y.f0) = some d
        rw [if_neg (by rw [hK]; exact hy2)]; exact e
      · show p + 1 + max (age - (y.f1 + 1)) 0 + (ahead ((cut s.rs (chooseP s)).map inc) y.f2 : Int) + 1 ≤ d
        rw [ahead_inc]
        have hc := ahead_cut s.rs (chooseP s) hi y.f2
        by_cases hl : y.f1 < age
        · have : ahead (cut s.rs (chooseP s)) y.f2 ≤ ahead s.rs y.f2 := by omega
          omega
        · obtain ⟨j, hj, rfl⟩ := mem_nth hy1
          have h1 := choose_late hj (by rw [h.ag]; omega)
          have h2 : (nth s.rs (chooseP s)).f2 ≠ (nth s.rs j).f2 := fun e => by
            have := nodup_get h.nd hi hj e
            rw [this] at hy2; exact hy2 rfl
          rw [if_pos (by omega)] at hc
          omega
    · by_cases hz2 : z = pickK s
      · exact if_pos hz2
      · simp only [if_neg hz2]
        refine h.dom z ?_
        cases hs : has s z
        · rfl
        · have := (has_pick h.ok h0 z).2 ⟨hs, hz2⟩
          rw [this] at hz; simp at hz
end Go.Proofs.YtgpkpheejefiiaaGreatDoor.L21
end
