/- Lift: what it holds; its calls that only read. -/
import Derived.Test.YthhigmkheccfpaaRowSt
set_option linter.unusedVariables false
set_option linter.unusedSimpArgs false
namespace Go.Proofs.Ythhigmkheccfpaa
open Go.RowKit
structure LS where
  age : Int
  head : Int
  added : Int
  rs : List El
structure IsL (w : World) (base g : Nat) (v : Value) (s : LS) : Prop where
  blk : w.heap[g]? = some (.cells #[.int .i64 s.age, .int .i64 s.head, v, .int .i64 s.added] 49 (0, 0))
  row : Row w base v s.rs
theorem IsL.bel {w w1 : World} {base g : Nat} {v : Value} {s : LS} (h : IsL w base g v s) (k : Bel w w1) : IsL w1 base g v s := ⟨blk_below h.blk k, h.row.bel k⟩
theorem ptr23 : Try.prog.underlying 23 = some (.pointer 49) := by kernel_rfl
theorem nil23 (w : World) (p : Option Addr) : (binOp .eql 23 (.pointer p) (.pointer none)).run Try.prog w = .ok (.bool p.isNone) w := run_eql_pointer_nil (P := Try.prog) w 23 p ptr23
abbrev PT (g : Nat) : Value := .pointer (some ⟨g, 0, none⟩)
theorem newL (age : Int) (w : World) : Calls Try.prog 7 #[.int .i64 age] w fun e w' => e = .returned (PT w.heap.size) ∧ Bel w w' ∧ w.heap.size < w'.heap.size ∧ ∀ base, IsL w' base w.heap.size (.slice none 0 0) ⟨max 1 (min age 65536), 0, 0, []⟩ := by
  go_enter Try.func7, Try.ntmps7
  go_wp2_with fail
  go_ret
  exact ⟨rfl, Bel.alloc _ _, by simp, fun base => ⟨heap_alloc_new _ _, Row.nil _ _⟩⟩
theorem lenL (w : World) (base g : Nat) (v : Value) (s : LS) (h : IsL w base g v s) : Calls Try.prog 10 #[PT g] w fun e w' => e = .returned (.int .i64 s.rs.length) ∧ Bel w w' := by
  obtain ⟨A, c, rfl⟩ := h.row.len
  have h2 := blk_cell h.blk 2
  have hn := nil23
  clear h
  go_enter Try.func10, Try.ntmps10
  go_wp2_with fail
  go_ret
  exact ⟨rfl, Bel.refl _⟩
theorem lenN (w : World) : Calls Try.prog 10 #[.pointer none] w fun e w' => e = .returned (.int .i64 0) ∧ Bel w w' := by
  have hn := nil23
  go_enter Try.func10, Try.ntmps10
  go_wp2_with fail
  go_ret
  exact ⟨rfl, Bel.refl _⟩
theorem headL (w : World) (base g : Nat) (v : Value) (s : LS) (h : IsL w base g v s) : Calls Try.prog 21 #[PT g] w fun e w' => e = .returned (.int .i64 s.head) ∧ Bel w w' := by
  have h2 := blk_cell h.blk 1
  have hn := nil23
  clear h
  go_enter Try.func21, Try.ntmps21
  go_wp2_with fail
  go_ret
  exact ⟨rfl, Bel.refl _⟩
theorem headN (w : World) : Calls Try.prog 21 #[.pointer none] w fun e w' => e = .returned (.int .i64 0) ∧ Bel w w' := by
  have hn := nil23
  go_enter Try.func21, Try.ntmps21
  go_wp2_with fail
  go_ret
  exact ⟨rfl, Bel.refl _⟩
theorem findL (w : World) (base g : Nat) (v : Value) (s : LS) (key : Int) (hs : Rising s.rs) (hlen : s.rs.length ≤ 1000000) (h : IsL w base g v s) :
    Calls Try.prog 24 #[PT g, .int .i64 key] w fun e w' => ∃ i : Nat, e = .returned (.tuple #[.int .i64 i, .bool (isAt s.rs key i)]) ∧ FindAt s.rs key i ∧ Bel w w' := by
  obtain ⟨A, c, rfl, hc, hR⟩ := h.row.reads
  have h2 := blk_cell h.blk 2
  have K := Lib.hid (bsf A c s.rs key hs hlen w hR)
  clear h hR hs
  go_enter Try.func24, Try.ntmps24
  go_wp2_with fail
  refine K.out.mono ?_
  rintro e w1 ⟨i, rfl, hf, hb⟩
  have HF := Lib.hid (And.intro hf hb)
  clear hf hb K
  go_wp2_with fail
  go_ret2
  exact ⟨i, rfl, HF.out.1, HF.out.2⟩
theorem find_unique {l : List El} {t : Int} {i j : Nat} (h : FindAt l t i) (k : FindAt l t j) : i = j := by
  obtain ⟨h1, h2, h3⟩ := h
  obtain ⟨k1, k2, k3⟩ := k
  rcases Nat.lt_trichotomy i j with hl | rfl | hl
  · have := k2 i hl; have := h3 i (Nat.le_refl _) (by omega); omega
  · rfl
  · have := h2 j hl; have := k3 j (Nat.le_refl _) (by omega); omega
/-- The place of a key. -/
def pos : List El → Int → Nat
  | [], _ => 0
  | x :: r, t => if x.f0 < t then pos r t + 1 else 0
theorem rising_tail {x : El} {r : List El} (h : Rising (x :: r)) : Rising r := fun i j hij hj => by
  have := h (i + 1) (j + 1) (by omega) (by simp; omega)
  simpa [nth] using this
theorem pos_find : ∀ (l : List El) (t : Int), Rising l → FindAt l t (pos l t) := by
  intro l t
  induction l with
  | nil => intro _; exact ⟨by simp [pos], fun j hj => by simp [pos] at hj, fun j _ hj => by simp at hj⟩
  | cons x r ih =>
    intro h
    obtain ⟨h1, h2, h3⟩ := ih (rising_tail h)
    unfold pos
    by_cases hx : x.f0 < t
    · rw [if_pos hx]
      refine ⟨by simp; omega, fun j hj => ?_, fun j hj hj2 => ?_⟩
      · cases j with
        | zero => exact hx
        | succ j => have := h2 j (by omega); simpa [nth] using this
      · cases j with
        | zero => omega
        | succ j => have := h3 j (by omega) (by simpa using hj2); simpa [nth] using this
    · rw [if_neg hx]
      refine ⟨by omega, fun j hj => by omega, fun j _ hj2 => ?_⟩
      cases j with
      | zero => simp [nth]; omega
      | succ j =>
        have := h 0 (j + 1) (by omega) hj2
        simp [nth] at this ⊢
        omega
theorem findP (w : World) (base g : Nat) (v : Value) (s : LS) (key : Int) (hs : Rising s.rs) (hlen : s.rs.length ≤ 1000000) (h : IsL w base g v s) :
    Calls Try.prog 24 #[PT g, .int .i64 key] w fun e w' => e = .returned (.tuple #[.int .i64 (pos s.rs key), .bool (isAt s.rs key (pos s.rs key))]) ∧ Bel w w' := by
  refine (findL w base g v s key hs hlen h).mono ?_
  rintro e w' ⟨i, rfl, hf, hb⟩
  obtain rfl := find_unique hf (pos_find s.rs key hs)
  exact ⟨rfl, hb⟩
/-- Does the key wait? -/
def has (s : LS) (key : Int) : Bool := isAt s.rs key (pos s.rs key)
theorem waitedL (w : World) (base g : Nat) (v : Value) (s : LS) (key : Int) (hs : Rising s.rs) (hlen : s.rs.length ≤ 1000000) (h : IsL w base g v s) :
    Calls Try.prog 17 #[PT g, .int .i64 key] w fun e w' => e = .returned (.tuple #[.int .i64 (if has s key = true then (nth s.rs (pos s.rs key)).f1 else 0), .bool (has s key)]) ∧ Bel w w' := by
  have K := Lib.hid (findP w base g v s key hs hlen h)
  have H := Lib.hid h
  have hin : has s key = true → pos s.rs key < s.rs.length := fun h => by unfold has isAt at h; simp at h; exact h.1
  have hn := nil23
  change Hid (Calls Try.prog 24 #[PT g, .int .i64 key] w fun e w' => e = .returned (.tuple #[.int .i64 (pos s.rs key), .bool (has s key)]) ∧ Bel w w') at K
  clear h hs
  generalize pos s.rs key = i at *
  cases hb : has s key
  · rw [hb] at K
    simp only [Bool.false_eq_true, if_false]
    clear hb hin
    go_enter Try.func17, Try.ntmps17
    go_wp2_with fail
    refine K.out.mono ?_
    rintro e w1 ⟨rfl, hb⟩
    go_wp2_with fail
    go_ret2
    exact ⟨rfl, hb⟩
  · rw [hb] at K
    simp only [if_true]
    have hi := hin hb
    clear hin hb
    go_enter Try.func17, Try.ntmps17
    go_wp2_with fail
    refine K.out.mono ?_
    rintro e w1 ⟨rfl, hb⟩
    have H1 := H.out.bel hb
    obtain ⟨A, c, hv, hc, hR⟩ := H1.row.reads
    have h2 := blk_cell H1.blk 2
    rw [hv] at h2
    obtain ⟨ad, rfl, y0, y1, y2⟩ := hR i hi
    have HB := Lib.hid hb
    clear hb H1 hR hv H K
    go_wp2_with fail
    go_ret2
    exact ⟨rfl, HB.out⟩
theorem waitedN (w : World) (key : Int) : Calls Try.prog 17 #[.pointer none, .int .i64 key] w fun e w' => e = .returned (.tuple #[.int .i64 0, .bool false]) ∧ Bel w w' := by
  have hn := nil23
  go_enter Try.func17, Try.ntmps17
  go_wp2_with fail
  go_ret2
  exact ⟨rfl, Bel.refl _⟩
end Go.Proofs.Ythhigmkheccfpaa
