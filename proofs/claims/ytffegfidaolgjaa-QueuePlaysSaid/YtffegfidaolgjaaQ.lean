/- Queue: what it holds; its calls that only read. -/
import Derived.Test.YtffegfidaolgjaaRowSt
import Derived.Lib.SliceRun
import Derived.BigRegion
import Derived.ChangeAlike
import Derived.RegionTactic
set_option linter.unusedVariables false
set_option linter.unusedSimpArgs false
namespace Go.Proofs.Ytffegfidaolgjaa
open Go.RowKit
structure QS where
  most : Int
  clock : Int
  rs : List El
structure IsQ (w : World) (base g : Nat) (v : Value) (s : QS) : Prop where
  blk : w.heap[g]? = some (.cells #[.int .i64 s.most, v, .int .i64 s.clock] 65 (0, 0))
  row : Row w base v s.rs
theorem IsQ.bel {w w1 : World} {base g : Nat} {v : Value} {s : QS} (h : IsQ w base g v s) (k : Bel w w1) : IsQ w1 base g v s := ⟨blk_below h.blk k, h.row.bel k⟩
theorem ptr24 : Try.prog.underlying 24 = some (.pointer 65) := by kernel_rfl
theorem nil24 (w : World) (p : Option Addr) : (binOp .eql 24 (.pointer p) (.pointer none)).run Try.prog w = .ok (.bool p.isNone) w := run_eql_pointer_nil (P := Try.prog) w 24 p ptr24
abbrev PT (g : Nat) : Value := .pointer (some ⟨g, 0, none⟩)
theorem newQ (most : Int) (w : World) : Calls Try.prog 8 #[.int .i64 most] w fun e w' => e = .returned (PT w.heap.size) ∧ Bel w w' ∧ w.heap.size < w'.heap.size ∧ ∀ base, IsQ w' base w.heap.size (.slice none 0 0) ⟨max 1 (min most 256), 0, []⟩ := by
  go_enter Try.func8, Try.ntmps8
  go_wp2_with fail
  go_ret
  exact ⟨rfl, Bel.alloc _ _, by simp, fun base => ⟨heap_alloc_new _ _, Row.nil _ _⟩⟩
theorem lenQ (w : World) (base g : Nat) (v : Value) (s : QS) (h : IsQ w base g v s) : Calls Try.prog 16 #[PT g] w fun e w' => e = .returned (.int .i64 s.rs.length) ∧ Bel w w' := by
  obtain ⟨A, c, rfl⟩ := h.row.len
  have h2 := blk_cell h.blk 1
  have hn := nil24
  clear h
  go_enter Try.func16, Try.ntmps16
  go_wp2_with fail
  go_ret
  exact ⟨rfl, Bel.refl _⟩
theorem lenN (w : World) : Calls Try.prog 16 #[.pointer none] w fun e w' => e = .returned (.int .i64 0) ∧ Bel w w' := by
  have hn := nil24
  go_enter Try.func16, Try.ntmps16
  go_wp2_with fail
  go_ret
  exact ⟨rfl, Bel.refl _⟩
theorem clockQ (w : World) (base g : Nat) (v : Value) (s : QS) (h : IsQ w base g v s) : Calls Try.prog 24 #[PT g] w fun e w' => e = .returned (.int .i64 s.clock) ∧ Bel w w' := by
  have h2 := blk_cell h.blk 2
  have hn := nil24
  clear h
  go_enter Try.func24, Try.ntmps24
  go_wp2_with fail
  go_ret
  exact ⟨rfl, Bel.refl _⟩
theorem clockN (w : World) : Calls Try.prog 24 #[.pointer none] w fun e w' => e = .returned (.int .i64 0) ∧ Bel w w' := by
  have hn := nil24
  go_enter Try.func24, Try.ntmps24
  go_wp2_with fail
  go_ret
  exact ⟨rfl, Bel.refl _⟩
def fullP (s : QS) : Bool := decide (s.most ≤ (s.rs.length : Int))
set_option maxHeartbeats 4000000 in
theorem fullQ (w : World) (base g : Nat) (v : Value) (s : QS) (h : IsQ w base g v s) : Calls Try.prog 9 #[PT g] w fun e w' => e = .returned (.bool (fullP s)) ∧ Bel w w' := by
  obtain ⟨A, c, rfl⟩ := h.row.len
  have h1 := blk_cell h.blk 1
  have h0 := blk_cell h.blk 0
  have hn := nil24
  have hf : fullP s = decide (s.most ≤ (s.rs.length : Int)) := rfl
  rw [hf]
  clear h hf
  generalize s.rs.length = n at *
  generalize s.most = m at *
  go_enter Try.func9, Try.ntmps9
  go_wp2_with fail
  go_quiet (fail)
  have hfin : Bel w (w.drewN nq) := Bel.drewN w nq
  generalize w.drewN nq = W at *
  go_wp2_with fail
  go_ret
  exact ⟨rfl, hfin⟩
set_option maxHeartbeats 4000000 in
theorem fullN (w : World) : Calls Try.prog 9 #[.pointer none] w fun e w' => e = .returned (.bool true) ∧ Bel w w' := by
  have hn := nil24
  go_enter Try.func9, Try.ntmps9
  go_wp2_with fail
  go_quiet (fail)
  have hfin : Bel w (w.drewN nq) := Bel.drewN w nq
  generalize w.drewN nq = W at *
  go_wp2_with fail
  go_ret
  exact ⟨rfl, hfin⟩
theorem findQ0 (w : World) (base g : Nat) (v : Value) (s : QS) (key : Int) (hs : Rising s.rs) (hlen : s.rs.length ≤ 1000000) (h : IsQ w base g v s) :
    Calls Try.prog 28 #[PT g, .int .i64 key] w fun e w' => ∃ i : Nat, e = .returned (.tuple #[.int .i64 i, .bool (isAt s.rs key i)]) ∧ FindAt s.rs key i ∧ Bel w w' := by
  obtain ⟨A, c, rfl, hc, hR⟩ := h.row.reads
  have h2 := blk_cell h.blk 1
  have K := Lib.hid (bsf A c s.rs key hs hlen w hR)
  clear h hR hs
  go_enter Try.func28, Try.ntmps28
  go_wp2_with fail
  refine K.out.mono ?_
  rintro e w1 ⟨i, rfl, hf, hb⟩
  have HF := Lib.hid (And.intro hf hb)
  clear hf hb K
  go_wp2_with fail
  go_ret2
  exact ⟨i, rfl, HF.out.1, HF.out.2⟩
theorem find_unique {l : List El} {t : Int} {i j : Nat} (h : FindAt l t i) (k : FindAt l t j) : i = j := by
  obtain ⟨h1, h2, h3⟩ := h
  obtain ⟨k1, k2, k3⟩ := k
  rcases Nat.lt_trichotomy i j with hl | rfl | hl
  · have := k2 i hl; have := h3 i (Nat.le_refl _) (by omega); omega
  · rfl
  · have := h2 j hl; have := k3 j (Nat.le_refl _) (by omega); omega
/-- The place of a key. -/
def pos : List El → Int → Nat
  | [], _ => 0
  | x :: r, t => if x.f0 < t then pos r t + 1 else 0
theorem rising_tail {x : El} {r : List El} (h : Rising (x :: r)) : Rising r := fun i j hij hj => by
  have := h (i + 1) (j + 1) (by omega) (by simp; omega)
  simpa [nth] using this
theorem pos_find : ∀ (l : List El) (t : Int), Rising l → FindAt l t (pos l t) := by
  intro l t
  induction l with
  | nil => intro _; exact ⟨by simp [pos], fun j hj => by simp [pos] at hj, fun j _ hj => by simp at hj⟩
  | cons x r ih =>
    intro h
    obtain ⟨h1, h2, h3⟩ := ih (rising_tail h)
    unfold pos
    by_cases hx : x.f0 < t
    · rw [if_pos hx]
      refine ⟨by simp; omega, fun j hj => ?_, fun j hj hj2 => ?_⟩
      · cases j with
        | zero => exact hx
        | succ j => have := h2 j (by omega); simpa [nth] using this
      · cases j with
        | zero => omega
        | succ j => have := h3 j (by omega) (by simpa using hj2); simpa [nth] using this
    · rw [if_neg hx]
      refine ⟨by omega, fun j hj => by omega, fun j _ hj2 => ?_⟩
      cases j with
      | zero => simp [nth]; omega
      | succ j =>
        have := h 0 (j + 1) (by omega) hj2
        simp [nth] at this ⊢
        omega
/-- Is the block there? -/
def has (s : QS) (key : Int) : Bool := isAt s.rs key (pos s.rs key)
theorem findP (w : World) (base g : Nat) (v : Value) (s : QS) (key : Int) (hs : Rising s.rs) (hlen : s.rs.length ≤ 1000000) (h : IsQ w base g v s) :
    Calls Try.prog 28 #[PT g, .int .i64 key] w fun e w' => e = .returned (.tuple #[.int .i64 (pos s.rs key), .bool (has s key)]) ∧ Bel w w' := by
  refine (findQ0 w base g v s key hs hlen h).mono ?_
  rintro e w' ⟨i, rfl, hf, hb⟩
  obtain rfl := find_unique hf (pos_find s.rs key hs)
  exact ⟨rfl, hb⟩
theorem getQ (w : World) (base g : Nat) (v : Value) (s : QS) (key : Int) (hs : Rising s.rs) (hlen : s.rs.length ≤ 1000000) (h : IsQ w base g v s) :
    Calls Try.prog 12 #[PT g, .int .i64 key] w fun e w' => e = .returned (.tuple #[.string (if has s key = true then (nth s.rs (pos s.rs key)).f1 else ⟨#[]⟩), .bool (has s key)]) ∧ Bel w w' := by
  have K := Lib.hid (findP w base g v s key hs hlen h)
  have H := Lib.hid h
  have hin : has s key = true → pos s.rs key < s.rs.length := fun h => by unfold has isAt at h; simp at h; exact h.1
  have hn := nil24
  clear h hs
  generalize pos s.rs key = i at *
  cases hb : has s key
  · rw [hb] at K
    simp only [Bool.false_eq_true, if_false]
    clear hb hin
    go_enter Try.func12, Try.ntmps12
    go_wp2_with fail
    refine K.out.mono ?_
    rintro e w1 ⟨rfl, hb⟩
    go_wp2_with fail
    go_ret2
    exact ⟨rfl, hb⟩
  · rw [hb] at K
    simp only [if_true]
    have hi := hin hb
    clear hin hb
    go_enter Try.func12, Try.ntmps12
    go_wp2_with fail
    refine K.out.mono ?_
    rintro e w1 ⟨rfl, hb⟩
    have H1 := H.out.bel hb
    obtain ⟨A, c, hv, hc, hR⟩ := H1.row.reads
    have h2 := blk_cell H1.blk 1
    rw [hv] at h2
    obtain ⟨ad, rfl, y0, y1, y2⟩ := hR i hi
    have HB := Lib.hid hb
    clear hb H1 hR hv H K
    go_wp2_with fail
    go_ret2
    exact ⟨rfl, HB.out⟩
theorem getN (w : World) (key : Int) : Calls Try.prog 12 #[.pointer none, .int .i64 key] w fun e w' => e = .returned (.tuple #[.string ⟨#[]⟩, .bool false]) ∧ Bel w w' := by
  have hn := nil24
  go_enter Try.func12, Try.ntmps12
  go_wp2_with fail
  go_ret2
  exact ⟨rfl, Bel.refl _⟩
theorem putN (w : World) (key : Int) (d : ByteArray) : Calls Try.prog 10 #[.pointer none, .int .i64 key, .string d] w fun e w' => e = .returned (.int .i64 1) ∧ Bel w w' := by
  have hn := nil24
  go_enter Try.func10, Try.ntmps10
  go_wp2_with fail
  go_ret
  exact ⟨rfl, Bel.refl _⟩
theorem itemsN (w : World) : Calls Try.prog 22 #[.pointer none] w fun e w' => e = .returned (.slice none 0 0) ∧ Bel w w' := by
  have hn := nil24
  go_enter Try.func22, Try.ntmps22
  go_wp2_with fail
  go_ret
  exact ⟨rfl, Bel.refl _⟩
theorem spansN (w : World) : Calls Try.prog 23 #[.pointer none] w fun e w' => e = .returned (.slice none 0 0) ∧ Bel w w' := by
  have K := Lib.hid itemsN
  go_enter Try.func23, Try.ntmps23
  go_wp2_with fail
  refine (K.out _).mono ?_
  rintro e w1 ⟨rfl, hb⟩
  have HB := Lib.hid hb
  clear hb
  go_wp2_with fail
  go_loopw [3, 10] (fun v3 v10 wr => v3 = .slice none 0 0 ∧ v10 = .int .i64 0 ∧ Hid (Bel w wr)) (fun _ _ _ => 0)
  case atStart => exact ⟨rfl, rfl, HB⟩
  case round =>
    obtain ⟨wi, rfl⟩ : ∃ wi : World, wi = wr := ⟨_, rfl⟩
    obtain ⟨rfl, rfl, HI⟩ := hrel
    have hb := HI.out
    clear HI
    go_wp2_with fail
    go_ret
    exact ⟨rfl, hb⟩
theorem setI {w : World} {g : Nat} {a b c : Value} (h : w.heap[g]? = some (.cells #[a, b, c] 33 (0, 0))) (x y z : Value) : (((w.setCell ⟨g, 0, none⟩ x).setCell ⟨g, 1, none⟩ y).setCell ⟨g, 2, none⟩ z).heap[g]? = some (.cells #[x, y, z] 33 (0, 0)) := by
  have h1 : (w.setCell ⟨g, 0, none⟩ x).heap[g]? = some (.cells #[x, b, c] 33 (0, 0)) := by
    rw [setCell_eq_setRow w g 0 _ 33 (0, 0) x h]; exact setRow_heap w g _ _ 33 (0, 0) h
  have h2 : ((w.setCell ⟨g, 0, none⟩ x).setCell ⟨g, 1, none⟩ y).heap[g]? = some (.cells #[x, y, c] 33 (0, 0)) := by
    rw [setCell_eq_setRow _ g 1 _ 33 (0, 0) y h1]; exact setRow_heap _ g _ _ 33 (0, 0) h1
  rw [setCell_eq_setRow _ g 2 _ 33 (0, 0) z h2]; exact setRow_heap _ g _ _ 33 (0, 0) h2
theorem belI {w0 w : World} {g : Nat} (h : Bel w0 w) (hg : w0.heap.size ≤ g) (x y z : Value) : Bel w0 (((w.setCell ⟨g, 0, none⟩ x).setCell ⟨g, 1, none⟩ y).setCell ⟨g, 2, none⟩ z) :=
  ((Below.setCell h (p := ⟨g, 0, none⟩) hg x).setCell (p := ⟨g, 1, none⟩) hg y).setCell (p := ⟨g, 2, none⟩) hg z
/-- An item's value. -/
def elV (x : El) : Value := .agg #[.int .i64 x.f0, .string x.f1, .int .i64 x.f2]
theorem takeN (w : World) (key : Int) : Calls Try.prog 13 #[.pointer none, .int .i64 key] w fun e w' => e = .returned (.tuple #[elV el0, .bool false]) ∧ Bel w w' := by
  have hn := nil24
  go_enter Try.func13, Try.ntmps13
  go_wp2_with fail
  exact bodyPost_ret (v := .tuple #[.agg #[.int .i64 0, .string ⟨#[]⟩, .int .i64 0], .bool false]) (by simp [results, Try.results13, go_sem]) rfl ⟨rfl, Bel.alloc _ _⟩
theorem oldN (w : World) : Calls Try.prog 15 #[.pointer none] w fun e w' => e = .returned (.tuple #[elV el0, .bool false]) ∧ Bel w w' := by
  have K := Lib.hid lenN
  go_enter Try.func15, Try.ntmps15
  go_wp2_with fail
  refine calls_gen (fun W => Bel w W ∧ W.heap[w.heap.size]? = some (.cells #[.int .i64 0, .string ⟨#[]⟩, .int .i64 0] 33 (0, 0))) ⟨Bel.alloc _ _, heap_alloc_new _ _⟩ ?_
  rintro W0 ⟨hB0, hp⟩
  refine (K.out _).mono ?_
  rintro e w1 ⟨rfl, hb⟩
  have hp1 := blk_below hp hb
  have HB := Lib.hid (hB0.trans hb)
  have x0 := blk_cell hp1 0
  have x1 := blk_cell hp1 1
  have x2 := blk_cell hp1 2
  have y0 := blk_frozen hp1 0
  have y1 := blk_frozen hp1 1
  have y2 := blk_frozen hp1 2
  clear hB0 hp hb
  go_wp2_with fail
  have hf := setI hp1 (.int .i64 0) (.string ⟨#[]⟩) (.int .i64 0)
  have hb := belI HB.out (Nat.le_refl w.heap.size) (.int .i64 0) (.string ⟨#[]⟩) (.int .i64 0)
  generalize (((w1.setCell ⟨w.heap.size, 0, none⟩ (.int .i64 0)).setCell ⟨w.heap.size, 1, none⟩ (.string ⟨#[]⟩)).setCell ⟨w.heap.size, 2, none⟩ (.int .i64 0)) = W at *
  have z0 := blk_cell hf 0
  have z1 := blk_cell hf 1
  have z2 := blk_cell hf 2
  exact bodyPost_ret (v := .tuple #[.agg #[.int .i64 0, .string ⟨#[]⟩, .int .i64 0], .bool false]) (by simp [results, Try.results15, go_sem, z0, z1, z2]) rfl ⟨rfl, hb⟩
end Go.Proofs.Ytffegfidaolgjaa
