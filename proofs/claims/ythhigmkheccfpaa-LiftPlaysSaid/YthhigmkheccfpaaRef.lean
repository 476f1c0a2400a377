/- The reference's lift: what it holds; New, Find, better. -/
import Derived.Test.YthhigmkheccfpaaKt
import Derived.Test.YthhigmkheccfpaaBnd
set_option linter.unusedVariables false
set_option linter.unusedSimpArgs false
namespace Go.Proofs.Ythhigmkheccfpaa
open Go.RowKit
def KZ : Enc Int := ⟨fun x => [.int .i64 x], 1, 3, fun _ => rfl, fun p u hu => by simp at hu; subst hu; rfl, by decide, 0⟩
theorem info3z : (Try.prog.info? 3).map (fun i => (i.zero, i.size, i.bytes)) = some (some (.int .i64 0), 1, 8) := by kernel_rfl
def gi (l : List Int) (i : Nat) : Int := l.getD i 0
theorem kz_nth (l : List Int) (i : Nat) : KZ.nth l i = gi l i := rfl
theorem gi_map (f : El → Int) (l : List El) {i : Nat} (h : i < l.length) : gi (l.map f) i = f (nth l i) := by
  unfold gi nth; rw [List.getD_eq_getElem?_getD, List.getD_eq_getElem?_getD, List.getElem?_map, List.getElem?_eq_getElem h]; rfl
/-- An own row of whole numbers, read. -/
theorem readsZ {w : World} {base : Nat} {v : Value} {l : List Int} (h : KZ.Row w base v l) : ∃ A c, v = .slice A l.length c ∧ l.length ≤ c ∧ (0 < l.length → ∃ g, A = some ⟨g, 0, none⟩ ∧ v.ownBlock = some g ∧ base ≤ g ∧ g < w.heap.size ∧ ∀ i, i < l.length → w.cell? ⟨g, i, none⟩ = some (.int .i64 (gi l i)) ∧ w.frozen? ⟨g, i, none⟩ = false) := by
  obtain ⟨hl, ⟨rfl, h0⟩ | ⟨g, cap, cur, rfl, hb, hg, hn, hc, hs, hx⟩⟩ := h
  · exact ⟨none, 0, by rw [h0], by omega, fun hi => by omega⟩
  · refine ⟨_, _, rfl, hn, fun _ => ⟨g, rfl, rfl, hb, blk_lt hg, fun i hi => ⟨?_, blk_frozen hg i⟩⟩⟩
    have := KZ.flat_get l i 0 hi (by decide)
    rw [← hx, List.getElem?_take] at this
    have hm : KZ.m = 1 := rfl
    rw [hm] at this
    simp only [Nat.mul_one, Nat.add_zero] at this
    rw [if_pos (by omega)] at this
    rw [blk_cell hg, ← Array.getElem?_toList, this]
    rfl
structure IsR (w : World) (base g : Nat) (vk vw : Value) (s : LS) : Prop where
  blk : w.heap[g]? = some (.cells #[.int .i64 s.age, .int .i64 s.head, vk, vw] 55 (0, 0))
  keys : KZ.Row w base vk (s.rs.map El.f0)
  wait : KZ.Row w base vw (s.rs.map El.f1)
  apart : ∀ k, vk.ownBlock = some k → vw.ownBlock ≠ some k
theorem IsR.bel {w w1 : World} {base g : Nat} {vk vw : Value} {s : LS} (h : IsR w base g vk vw s) (k : Bel w w1) : IsR w1 base g vk vw s := ⟨blk_below h.blk k, h.keys.bel k, h.wait.bel k, h.apart⟩
theorem newR (age : Int) (w : World) : Calls Try.prog 12 #[.int .i64 age] w fun e w' => e = .returned (PT w.heap.size) ∧ Bel w w' ∧ w.heap.size < w'.heap.size ∧ ∀ base, IsR w' base w.heap.size (.slice none 0 0) (.slice none 0 0) ⟨max 1 (min age 65536), 0, 0, []⟩ := by
  have fin : ∀ (W : World) (a : Int) base, IsR (W.alloc (.cells #[.int .i64 a, .int .i64 0, .slice none 0 0, .slice none 0 0] 55 (0, 0))) base W.heap.size (.slice none 0 0) (.slice none 0 0) ⟨a, 0, 0, []⟩ := fun W a base => ⟨heap_alloc_new _ _, Enc.Row.nil _ _, Enc.Row.nil _ _, fun k h => by simp [Value.ownBlock] at h⟩
  have FIN := Lib.hid fin
  clear fin
  by_cases h1 : age < 1
  · have hm : max 1 (min age 65536) = 1 := by omega
    rw [hm]
    have d1 : decide (age < 1) = true := decide_eq_true h1
    clear hm
    go_enter Try.func12, Try.ntmps12
    go_wp2_with fail
    go_ret
    exact ⟨rfl, Bel.alloc _ _, by simp, fun base => FIN.out _ _ _⟩
  · have d1 : decide (age < 1) = false := decide_eq_false h1
    by_cases h2 : age > 65536
    · have hm : max 1 (min age 65536) = 65536 := by omega
      rw [hm]
      have d2 : decide (age > 65536) = true := decide_eq_true h2
      have d3 : decide (65536 < age) = true := decide_eq_true h2
      clear hm
      go_enter Try.func12, Try.ntmps12
      go_wp2_with fail
      go_ret
      exact ⟨rfl, Bel.alloc _ _, by simp, fun base => FIN.out _ _ _⟩
    · have hm : max 1 (min age 65536) = age := by omega
      rw [hm]
      have d2 : decide (age > 65536) = false := decide_eq_false h2
      have d3 : decide (65536 < age) = false := decide_eq_false h2
      clear hm
      go_enter Try.func12, Try.ntmps12
      go_wp2_with fail
      go_ret
      exact ⟨rfl, Bel.alloc _ _, by simp, fun base => FIN.out _ _ _⟩
/-- The place of a key, among keys as they came. -/
def rpos : List El → Int → Nat
  | [], _ => 0
  | x :: r, t => if x.f0 = t then 0 else rpos r t + 1
theorem rpos_spec (t : Int) : ∀ (l : List El), (∀ j, j < rpos l t → (nth l j).f0 ≠ t) ∧ (rpos l t < l.length → (nth l (rpos l t)).f0 = t) ∧ rpos l t ≤ l.length := by
  intro l
  induction l with
  | nil => exact ⟨fun j h => by simp [rpos] at h, fun h => by simp at h, Nat.le_refl _⟩
  | cons x r ih =>
    obtain ⟨h1, h2, h3⟩ := ih
    unfold rpos
    by_cases hx : x.f0 = t
    · rw [if_pos hx]; exact ⟨fun j h => by omega, fun _ => hx, by simp⟩
    · rw [if_neg hx]
      refine ⟨fun j hj => ?_, fun h => ?_, by simp; omega⟩
      · cases j with
        | zero => exact hx
        | succ j => have := h1 j (by omega); simpa [nth] using this
      · have := h2 (by simpa using h); simpa [nth] using this
theorem rpos_unique {l : List El} {t : Int} {i : Nat} (h : ∀ j, j < i → (nth l j).f0 ≠ t) (hi : i < l.length) (e : (nth l i).f0 = t) : rpos l t = i := by
  obtain ⟨h1, h2, h3⟩ := rpos_spec t l
  rcases Nat.lt_trichotomy (rpos l t) i with hl | hl | hl
  · exact absurd (h2 (by omega)) (h _ hl)
  · exact hl
  · exact absurd e (h1 _ hl)
theorem rpos_none {l : List El} {t : Int} (h : ∀ j, j < l.length → (nth l j).f0 ≠ t) : rpos l t = l.length := by
  obtain ⟨h1, h2, h3⟩ := rpos_spec t l
  by_cases hl : rpos l t < l.length
  · exact absurd (h2 hl) (h _ hl)
  · omega
def rhas (s : LS) (key : Int) : Bool := decide (rpos s.rs key < s.rs.length)
def rfind (s : LS) (key : Int) : Int := if rpos s.rs key < s.rs.length then (rpos s.rs key : Int) else -1
set_option maxHeartbeats 4000000 in
theorem findR (w : World) (base g : Nat) (vk vw : Value) (s : LS) (key : Int) (hlen : s.rs.length ≤ 100000) (h : IsR w base g vk vw s) :
    Calls Try.prog 18 #[PT g, .int .i64 key] w fun e w' => e = .returned (.int .i64 (rfind s key)) ∧ w' = w := by
  obtain ⟨A, c, rfl, hc, hR⟩ := readsZ h.keys
  have c1 : w.cell? ⟨g, 2, none⟩ = some (.slice A (s.rs.map El.f0).length c) := blk_cell h.blk 2
  rw [List.length_map] at c1 hc hR
  have HR := Lib.hid hR
  obtain ⟨F, hF⟩ : ∃ F, F = rfind s key := ⟨_, rfl⟩
  rw [← hF]
  have HF := Lib.hid hF
  clear h hR hF
  generalize hl : s.rs = l at *
  have HL := Lib.hid hl
  generalize hn : l.length = n at *
  have HN := Lib.hid hn
  clear hl hn
  go_enter Try.func18, Try.ntmps18
  go_wp2_with fail
  go_loopw [5] (fun v5 wr => ∃ (k : Nat), v5 = .int .i64 k ∧ k ≤ n ∧ wr = w ∧ Hid (∀ j, j < k → (nth l j).f0 ≠ key)) (fun v5 _ => n - (intOf v5).toNat)
  case atStart => exact ⟨0, rfl, by omega, rfl, Lib.hid (fun j hj => by omega)⟩
  case round =>
    obtain ⟨k, rfl, hk, rfl, HI⟩ := hrel
    by_cases hlt : k < n
    · obtain ⟨ga, rfl, _, _, _, hcells⟩ := HR.out (by omega)
      have x0 := (hcells k hlt).1
      rw [gi_map El.f0 l (by rw [HN.out]; exact hlt)] at x0
      have hlt' : decide ((k : Int) < (n : Int)) = true := by simp; omega
      by_cases he : (nth l k).f0 = key
      · have hres : Hid (F = k) := Lib.hid (by
          rw [HF.out]
          unfold rfind
          rw [HL.out, rpos_unique HI.out (by rw [HN.out]; exact hlt) he, if_pos (by rw [HN.out]; exact hlt)])
        rw [he] at x0
        clear he HI hcells
        go_wp2_with fail
        go_ret
        exact ⟨by rw [hres.out]; rfl, rfl⟩
      · have hfin : Hid (∀ j, j < k + 1 → (nth l j).f0 ≠ key) := Lib.hid (fun j hj => by
          by_cases hjk : j = k
          · rw [hjk]; exact he
          · exact HI.out j (by omega))
        generalize (nth l k).f0 = y at *
        have e1 : decide (y = key) = false := by simpa using he
        have e2 : (y == key) = false := by simpa using he
        clear he HI hcells
        go_wp2_with fail
        exact ⟨⟨k + 1, by congr 1, by omega, trivial, hfin⟩, by simp [intOf]; omega⟩
    · have hlt' : decide ((k : Int) < (n : Int)) = false := by simp; omega
      have hres : Hid (F = -1) := Lib.hid (by
        rw [HF.out]
        unfold rfind
        rw [HL.out, rpos_none (fun j hj => HI.out j (by rw [HN.out] at hj; omega)), if_neg (Nat.lt_irrefl _)])
      clear HI
      go_wp2_with fail
      go_ret
      exact ⟨by rw [hres.out]; rfl, rfl⟩
def betP (a h : Int) (x y : El) (i k : Nat) : Prop :=
  (a ≤ x.f1 ∧ ¬ a ≤ y.f1) ∨ (a ≤ x.f1 ∧ a ≤ y.f1 ∧ i < k) ∨ (¬ a ≤ x.f1 ∧ ¬ a ≤ y.f1 ∧ ((h ≤ x.f0 ∧ ¬ h ≤ y.f0) ∨ ((h ≤ x.f0 ↔ h ≤ y.f0) ∧ x.f0 < y.f0)))
instance (a h : Int) (x y : El) (i k : Nat) : Decidable (betP a h x y i k) := by unfold betP; infer_instance
def bet (s : LS) (i k : Nat) : Bool := decide (betP s.age s.head (nth s.rs i) (nth s.rs k) i k)
set_option maxHeartbeats 8000000 in
theorem betterR (w : World) (base g : Nat) (vk vw : Value) (s : LS) (i k : Nat) (hi : i < s.rs.length) (hk : k < s.rs.length) (hlen : s.rs.length ≤ 100000) (h : IsR w base g vk vw s) :
    Calls Try.prog 26 #[PT g, .int .i64 i, .int .i64 k] w fun e w' => e = .returned (.bool (bet s i k)) ∧ Bel w w' := by
  obtain ⟨A, c, rfl, hc, hR⟩ := readsZ h.keys
  obtain ⟨A2, c2, rfl, hc2, hR2⟩ := readsZ h.wait
  have hb := h.blk
  rw [List.length_map] at hR hR2 hc hc2
  rw [List.length_map, List.length_map] at hb
  obtain ⟨gk, rfl, _, _, _, hk1⟩ := hR (by omega)
  obtain ⟨gw, rfl, _, _, _, hw1⟩ := hR2 (by omega)
  have a0 := (hk1 i hi).1
  have a1 := (hw1 i hi).1
  have b0 := (hk1 k hk).1
  have b1 := (hw1 k hk).1
  rw [gi_map El.f0 _ hi] at a0
  rw [gi_map El.f1 _ hi] at a1
  rw [gi_map El.f0 _ hk] at b0
  rw [gi_map El.f1 _ hk] at b1
  obtain ⟨B, hB0⟩ : ∃ B, B = bet s i k := ⟨_, rfl⟩
  rw [← hB0]
  have hB : B = true ↔ betP s.age s.head (nth s.rs i) (nth s.rs k) i k := by rw [hB0]; unfold bet; exact decide_eq_true_iff
  clear hB0
  generalize nth s.rs i = x at *
  generalize nth s.rs k = y at *
  obtain ⟨X0, X1, X2⟩ := x
  obtain ⟨Y0, Y1, Y2⟩ := y
  simp only [] at a0 a1 b0 b1
  generalize s.age = a at *
  generalize s.head = h0 at *
  have HB : Hid (B = true ↔ ((a ≤ X1 ∧ ¬ a ≤ Y1) ∨ (a ≤ X1 ∧ a ≤ Y1 ∧ i < k) ∨ (¬ a ≤ X1 ∧ ¬ a ≤ Y1 ∧ ((h0 ≤ X0 ∧ ¬ h0 ≤ Y0) ∨ ((h0 ≤ X0 ↔ h0 ≤ Y0) ∧ X0 < Y0))))) := Lib.hid hB
  generalize hn : s.rs.length = n at *
  have HF : Hid (∀ wx, Bel w wx → wx.cell? ⟨g, 0, none⟩ = some (.int .i64 a) ∧ wx.cell? ⟨g, 1, none⟩ = some (.int .i64 h0) ∧ wx.cell? ⟨g, 2, none⟩ = some (.slice (some ⟨gk, 0, none⟩) n c) ∧ wx.cell? ⟨g, 3, none⟩ = some (.slice (some ⟨gw, 0, none⟩) n c2) ∧
      wx.cell? ⟨gk, i, none⟩ = some (.int .i64 X0) ∧ wx.cell? ⟨gw, i, none⟩ = some (.int .i64 X1) ∧ wx.cell? ⟨gk, k, none⟩ = some (.int .i64 Y0) ∧ wx.cell? ⟨gw, k, none⟩ = some (.int .i64 Y1)) := Lib.hid (fun wx hbx =>
    ⟨blk_cell (blk_below hb hbx) 0, blk_cell (blk_below hb hbx) 1, blk_cell (blk_below hb hbx) 2, blk_cell (blk_below hb hbx) 3, cellB hbx a0, cellB hbx a1, cellB hbx b0, cellB hbx b1⟩)
  clear h hb hR hR2 hk1 hw1 a0 a1 b0 b1 hB hn
  by_cases hl1 : a ≤ X1
  · have e1 : decide (X1 ≥ a) = true := decide_eq_true hl1
    have e1' : decide (a ≤ X1) = true := decide_eq_true hl1
    by_cases hl2 : a ≤ Y1
    · have e2 : decide (Y1 ≥ a) = true := decide_eq_true hl2
      have e2' : decide (a ≤ Y1) = true := decide_eq_true hl2
      have hres : Hid (B = decide (i < k)) := Lib.hid (by rw [Bool.eq_iff_iff, decide_eq_true_iff, HB.out]; omega)
      clear HB hl1 hl2
      go_enter Try.func26, Try.ntmps26
      have hw0 := Bel.refl w
      obtain ⟨c0, c1, c2, c3, x0, x1, y0, y1⟩ := HF.out _ hw0
      have Hw0 := Lib.hid hw0
      clear hw0
      go_wp2_with fail
      go_quiet (fail)
      refine then_gen (fun W => Bel w W) (Hw0.out.trans (Bel.drewN _ _)) ?_
      rintro W1 hW1
      obtain ⟨c0, c1, c2, c3, x0, x1, y0, y1⟩ := HF.out _ hW1
      have HW1 := Lib.hid hW1
      clear hW1
      go_wp2_with fail
      go_quiet (fail)
      refine then_gen (fun W => Bel w W) (HW1.out.trans (Bel.drewN _ _)) ?_
      rintro W2 hW2
      obtain ⟨c0, c1, c2, c3, x0, x1, y0, y1⟩ := HF.out _ hW2
      have HW2 := Lib.hid hW2
      clear hW2
      go_wp2_with fail
      go_ret
      exact ⟨by rw [hres.out]; rfl, HW2.out⟩
    · have e2 : decide (Y1 ≥ a) = false := decide_eq_false hl2
      have e2' : decide (a ≤ Y1) = false := decide_eq_false hl2
      have hres : Hid (B = true) := Lib.hid (HB.out.2 (by omega))
      clear HB hl1 hl2
      go_enter Try.func26, Try.ntmps26
      have hw0 := Bel.refl w
      obtain ⟨c0, c1, c2, c3, x0, x1, y0, y1⟩ := HF.out _ hw0
      have Hw0 := Lib.hid hw0
      clear hw0
      go_wp2_with fail
      go_quiet (fail)
      refine then_gen (fun W => Bel w W) (Hw0.out.trans (Bel.drewN _ _)) ?_
      rintro W1 hW1
      obtain ⟨c0, c1, c2, c3, x0, x1, y0, y1⟩ := HF.out _ hW1
      have HW1 := Lib.hid hW1
      clear hW1
      go_wp2_with fail
      go_quiet (fail)
      refine then_gen (fun W => Bel w W) (HW1.out.trans (Bel.drewN _ _)) ?_
      rintro W2 hW2
      obtain ⟨c0, c1, c2, c3, x0, x1, y0, y1⟩ := HF.out _ hW2
      have HW2 := Lib.hid hW2
      clear hW2
      go_wp2_with fail
      go_ret
      exact ⟨by rw [hres.out]; rfl, HW2.out⟩
  · have e1 : decide (X1 ≥ a) = false := decide_eq_false hl1
    have e1' : decide (a ≤ X1) = false := decide_eq_false hl1
    by_cases hl2 : a ≤ Y1
    · have e2 : decide (Y1 ≥ a) = true := decide_eq_true hl2
      have e2' : decide (a ≤ Y1) = true := decide_eq_true hl2
      have hres : Hid (B = false) := Lib.hid (by cases hb : B; (· rfl); exact absurd (HB.out.1 hb) (by omega))
      clear HB hl1 hl2
      go_enter Try.func26, Try.ntmps26
      have hw0 := Bel.refl w
      obtain ⟨c0, c1, c2, c3, x0, x1, y0, y1⟩ := HF.out _ hw0
      have Hw0 := Lib.hid hw0
      clear hw0
      go_wp2_with fail
      go_quiet (fail)
      refine then_gen (fun W => Bel w W) (Hw0.out.trans (Bel.drewN _ _)) ?_
      rintro W1 hW1
      obtain ⟨c0, c1, c2, c3, x0, x1, y0, y1⟩ := HF.out _ hW1
      have HW1 := Lib.hid hW1
      clear hW1
      go_wp2_with fail
      go_quiet (fail)
      refine then_gen (fun W => Bel w W) (HW1.out.trans (Bel.drewN _ _)) ?_
      rintro W2 hW2
      obtain ⟨c0, c1, c2, c3, x0, x1, y0, y1⟩ := HF.out _ hW2
      have HW2 := Lib.hid hW2
      clear hW2
      go_wp2_with fail
      go_ret
      exact ⟨by rw [hres.out]; rfl, HW2.out⟩
    · have e2 : decide (Y1 ≥ a) = false := decide_eq_false hl2
      have e2' : decide (a ≤ Y1) = false := decide_eq_false hl2
      by_cases hu1 : h0 ≤ X0
      · have f1 : decide (X0 ≥ h0) = true := decide_eq_true hu1
        have f1' : decide (h0 ≤ X0) = true := decide_eq_true hu1
        by_cases hu2 : h0 ≤ Y0
        · have f2 : decide (Y0 ≥ h0) = true := decide_eq_true hu2
          have f2' : decide (h0 ≤ Y0) = true := decide_eq_true hu2
          have hres : Hid (B = decide (X0 < Y0)) := Lib.hid (by rw [Bool.eq_iff_iff, decide_eq_true_iff, HB.out]; omega)
          clear HB hl1 hl2 hu1 hu2
          go_enter Try.func26, Try.ntmps26
          have hw0 := Bel.refl w
          obtain ⟨c0, c1, c2, c3, x0, x1, y0, y1⟩ := HF.out _ hw0
          have Hw0 := Lib.hid hw0
          clear hw0
          go_wp2_with fail
          go_quiet (fail)
          refine then_gen (fun W => Bel w W) (Hw0.out.trans (Bel.drewN _ _)) ?_
          rintro W1 hW1
          obtain ⟨c0, c1, c2, c3, x0, x1, y0, y1⟩ := HF.out _ hW1
          have HW1 := Lib.hid hW1
          clear hW1
          go_wp2_with fail
          go_quiet (fail)
          refine then_gen (fun W => Bel w W) (HW1.out.trans (Bel.drewN _ _)) ?_
          rintro W2 hW2
          obtain ⟨c0, c1, c2, c3, x0, x1, y0, y1⟩ := HF.out _ hW2
          have HW2 := Lib.hid hW2
          clear hW2
          go_wp2_with fail
          go_quiet (fail)
          refine then_gen (fun W => Bel w W) (HW2.out.trans (Bel.drewN _ _)) ?_
          rintro W3 hW3
          obtain ⟨c0, c1, c2, c3, x0, x1, y0, y1⟩ := HF.out _ hW3
          have HW3 := Lib.hid hW3
          clear hW3
          go_wp2_with fail
          go_quiet (fail)
          refine then_gen (fun W => Bel w W) (HW3.out.trans (Bel.drewN _ _)) ?_
          rintro W4 hW4
          obtain ⟨c0, c1, c2, c3, x0, x1, y0, y1⟩ := HF.out _ hW4
          have HW4 := Lib.hid hW4
          clear hW4
          go_wp2_with fail
          go_quiet (fail)
          refine then_gen (fun W => Bel w W) (HW4.out.trans (Bel.drewN _ _)) ?_
          rintro W5 hW5
          obtain ⟨c0, c1, c2, c3, x0, x1, y0, y1⟩ := HF.out _ hW5
          have HW5 := Lib.hid hW5
          clear hW5
          go_wp2_with fail
          go_ret
          exact ⟨by rw [hres.out]; rfl, HW5.out⟩
        · have f2 : decide (Y0 ≥ h0) = false := decide_eq_false hu2
          have f2' : decide (h0 ≤ Y0) = false := decide_eq_false hu2
          have hres : Hid (B = true) := Lib.hid (HB.out.2 (by omega))
          clear HB hl1 hl2 hu1 hu2
          go_enter Try.func26, Try.ntmps26
          have hw0 := Bel.refl w
          obtain ⟨c0, c1, c2, c3, x0, x1, y0, y1⟩ := HF.out _ hw0
          have Hw0 := Lib.hid hw0
          clear hw0
          go_wp2_with fail
          go_quiet (fail)
          refine then_gen (fun W => Bel w W) (Hw0.out.trans (Bel.drewN _ _)) ?_
          rintro W1 hW1
          obtain ⟨c0, c1, c2, c3, x0, x1, y0, y1⟩ := HF.out _ hW1
          have HW1 := Lib.hid hW1
          clear hW1
          go_wp2_with fail
          go_quiet (fail)
          refine then_gen (fun W => Bel w W) (HW1.out.trans (Bel.drewN _ _)) ?_
          rintro W2 hW2
          obtain ⟨c0, c1, c2, c3, x0, x1, y0, y1⟩ := HF.out _ hW2
          have HW2 := Lib.hid hW2
          clear hW2
          go_wp2_with fail
          go_quiet (fail)
          refine then_gen (fun W => Bel w W) (HW2.out.trans (Bel.drewN _ _)) ?_
          rintro W3 hW3
          obtain ⟨c0, c1, c2, c3, x0, x1, y0, y1⟩ := HF.out _ hW3
          have HW3 := Lib.hid hW3
          clear hW3
          go_wp2_with fail
          go_quiet (fail)
          refine then_gen (fun W => Bel w W) (HW3.out.trans (Bel.drewN _ _)) ?_
          rintro W4 hW4
          obtain ⟨c0, c1, c2, c3, x0, x1, y0, y1⟩ := HF.out _ hW4
          have HW4 := Lib.hid hW4
          clear hW4
          go_wp2_with fail
          go_ret
          exact ⟨by rw [hres.out]; rfl, HW4.out⟩
      · have f1 : decide (X0 ≥ h0) = false := decide_eq_false hu1
        have f1' : decide (h0 ≤ X0) = false := decide_eq_false hu1
        by_cases hu2 : h0 ≤ Y0
        · have f2 : decide (Y0 ≥ h0) = true := decide_eq_true hu2
          have f2' : decide (h0 ≤ Y0) = true := decide_eq_true hu2
          have hres : Hid (B = false) := Lib.hid (by cases hb : B; (· rfl); exact absurd (HB.out.1 hb) (by omega))
          clear HB hl1 hl2 hu1 hu2
          go_enter Try.func26, Try.ntmps26
          have hw0 := Bel.refl w
          obtain ⟨c0, c1, c2, c3, x0, x1, y0, y1⟩ := HF.out _ hw0
          have Hw0 := Lib.hid hw0
          clear hw0
          go_wp2_with fail
          go_quiet (fail)
          refine then_gen (fun W => Bel w W) (Hw0.out.trans (Bel.drewN _ _)) ?_
          rintro W1 hW1
          obtain ⟨c0, c1, c2, c3, x0, x1, y0, y1⟩ := HF.out _ hW1
          have HW1 := Lib.hid hW1
          clear hW1
          go_wp2_with fail
          go_quiet (fail)
          refine then_gen (fun W => Bel w W) (HW1.out.trans (Bel.drewN _ _)) ?_
          rintro W2 hW2
          obtain ⟨c0, c1, c2, c3, x0, x1, y0, y1⟩ := HF.out _ hW2
          have HW2 := Lib.hid hW2
          clear hW2
          go_wp2_with fail
          go_quiet (fail)
          refine then_gen (fun W => Bel w W) (HW2.out.trans (Bel.drewN _ _)) ?_
          rintro W3 hW3
          obtain ⟨c0, c1, c2, c3, x0, x1, y0, y1⟩ := HF.out _ hW3
          have HW3 := Lib.hid hW3
          clear hW3
          go_wp2_with fail
          go_quiet (fail)
          refine then_gen (fun W => Bel w W) (HW3.out.trans (Bel.drewN _ _)) ?_
          rintro W4 hW4
          obtain ⟨c0, c1, c2, c3, x0, x1, y0, y1⟩ := HF.out _ hW4
          have HW4 := Lib.hid hW4
          clear hW4
          go_wp2_with fail
          go_ret
          exact ⟨by rw [hres.out]; rfl, HW4.out⟩
        · have f2 : decide (Y0 ≥ h0) = false := decide_eq_false hu2
          have f2' : decide (h0 ≤ Y0) = false := decide_eq_false hu2
          have hres : Hid (B = decide (X0 < Y0)) := Lib.hid (by rw [Bool.eq_iff_iff, decide_eq_true_iff, HB.out]; omega)
          clear HB hl1 hl2 hu1 hu2
          go_enter Try.func26, Try.ntmps26
          have hw0 := Bel.refl w
          obtain ⟨c0, c1, c2, c3, x0, x1, y0, y1⟩ := HF.out _ hw0
          have Hw0 := Lib.hid hw0
          clear hw0
          go_wp2_with fail
          go_quiet (fail)
          refine then_gen (fun W => Bel w W) (Hw0.out.trans (Bel.drewN _ _)) ?_
          rintro W1 hW1
          obtain ⟨c0, c1, c2, c3, x0, x1, y0, y1⟩ := HF.out _ hW1
          have HW1 := Lib.hid hW1
          clear hW1
          go_wp2_with fail
          go_quiet (fail)
          refine then_gen (fun W => Bel w W) (HW1.out.trans (Bel.drewN _ _)) ?_
          rintro W2 hW2
          obtain ⟨c0, c1, c2, c3, x0, x1, y0, y1⟩ := HF.out _ hW2
          have HW2 := Lib.hid hW2
          clear hW2
          go_wp2_with fail
          go_quiet (fail)
          refine then_gen (fun W => Bel w W) (HW2.out.trans (Bel.drewN _ _)) ?_
          rintro W3 hW3
          obtain ⟨c0, c1, c2, c3, x0, x1, y0, y1⟩ := HF.out _ hW3
          have HW3 := Lib.hid hW3
          clear hW3
          go_wp2_with fail
          go_quiet (fail)
          refine then_gen (fun W => Bel w W) (HW3.out.trans (Bel.drewN _ _)) ?_
          rintro W4 hW4
          obtain ⟨c0, c1, c2, c3, x0, x1, y0, y1⟩ := HF.out _ hW4
          have HW4 := Lib.hid hW4
          clear hW4
          go_wp2_with fail
          go_quiet (fail)
          refine then_gen (fun W => Bel w W) (HW4.out.trans (Bel.drewN _ _)) ?_
          rintro W5 hW5
          obtain ⟨c0, c1, c2, c3, x0, x1, y0, y1⟩ := HF.out _ hW5
          have HW5 := Lib.hid hW5
          clear hW5
          go_wp2_with fail
          go_ret
          exact ⟨by rw [hres.out]; rfl, HW5.out⟩
end Go.Proofs.Ythhigmkheccfpaa
