/- The reference's queue: what it holds; New, Find, Oldest. -/
import Derived.Test.YtffegfidaolgjaaORow
import Derived.Test.YtffegfidaolgjaaQTake2
import Derived.Test.YtffegfidaolgjaaQOld
set_option linter.unusedVariables false
set_option linter.unusedSimpArgs false
namespace Go.Proofs.Ytffegfidaolgjaa
open Go.RowKit
def KI : Enc El := ⟨enc, 3, 44, fun _ => rfl, enc_one, by decide, el0⟩
theorem ki_nth (l : List El) (i : Nat) : KI.nth l i = nth l i := rfl
structure IsR (w : World) (base g : Nat) (v : Value) (s : QS) : Prop where
  blk : w.heap[g]? = some (.cells #[.int .i64 s.most, v, .int .i64 s.clock] 51 (0, 0))
  row : KI.Row w base v s.rs
theorem IsR.bel {w w1 : World} {base g : Nat} {v : Value} {s : QS} (h : IsR w base g v s) (k : Bel w w1) : IsR w1 base g v s := ⟨blk_below h.blk k, h.row.bel k⟩
theorem ptr42 : Try.prog.underlying 42 = some (.pointer 51) := by kernel_rfl
theorem newR (most : Int) (w : World) : Calls Try.prog 17 #[.int .i64 most] w fun e w' => e = .returned (PT w.heap.size) ∧ Bel w w' ∧ w.heap.size < w'.heap.size ∧ ∀ base, IsR w' base w.heap.size (.slice none 0 0) ⟨max 1 (min most 256), 0, []⟩ := by
  by_cases h1 : most < 1
  · have hm : max 1 (min most 256) = 1 := by omega
    rw [hm]
    have d1 : decide (most < 1) = true := decide_eq_true h1
    clear hm
    go_enter Try.func17, Try.ntmps17
    go_wp2_with fail
    go_ret
    exact ⟨rfl, Bel.alloc _ _, by simp, fun base => ⟨heap_alloc_new _ _, Enc.Row.nil _ _⟩⟩
  · have d1 : decide (most < 1) = false := decide_eq_false h1
    by_cases h2 : most > 256
    · have hm : max 1 (min most 256) = 256 := by omega
      rw [hm]
      have d2 : decide (most > 256) = true := decide_eq_true h2
      have d3 : decide (256 < most) = true := decide_eq_true h2
      clear hm
      go_enter Try.func17, Try.ntmps17
      go_wp2_with fail
      go_ret
      exact ⟨rfl, Bel.alloc _ _, by simp, fun base => ⟨heap_alloc_new _ _, Enc.Row.nil _ _⟩⟩
    · have hm : max 1 (min most 256) = most := by omega
      rw [hm]
      have d2 : decide (most > 256) = false := decide_eq_false h2
      have d3 : decide (256 < most) = false := decide_eq_false h2
      clear hm
      go_enter Try.func17, Try.ntmps17
      go_wp2_with fail
      go_ret
      exact ⟨rfl, Bel.alloc _ _, by simp, fun base => ⟨heap_alloc_new _ _, Enc.Row.nil _ _⟩⟩
theorem readsR {w : World} {base : Nat} {v : Value} {l : List El} (h : KI.Row w base v l) : ∃ A c, v = .slice A l.length c ∧ l.length ≤ c ∧ RC w A l := by
  obtain ⟨A, c, e, hc, hR⟩ := h.reads
  refine ⟨A, c, e, hc, fun i hi => ?_⟩
  obtain ⟨hl, ⟨rfl, h0⟩ | ⟨g, cap, cur, rfl, hb, hg, hn, hcp, hs, hx⟩⟩ := h
  · omega
  · simp only [Value.slice.injEq] at e
    obtain ⟨rfl, _, _⟩ := e
    obtain ⟨ad, e, h1⟩ := hR i hi
    obtain rfl := Option.some.inj e
    have z0 := h1 0 _ rfl
    have z1 := h1 1 _ rfl
    have z2 := h1 2 _ rfl
    refine ⟨_, rfl, ?_, z1, z2⟩
    rw [cells_add] at z0 ⊢
    exact z0
/-- The place of a block's item, among items as they came. -/
def rpos : List El → Int → Nat
  | [], _ => 0
  | x :: r, t => if x.f0 = t then 0 else rpos r t + 1
theorem rpos_spec (t : Int) : ∀ (l : List El), (∀ j, j < rpos l t → (nth l j).f0 ≠ t) ∧ (rpos l t < l.length → (nth l (rpos l t)).f0 = t) ∧ rpos l t ≤ l.length := by
  intro l
  induction l with
  | nil => exact ⟨fun j h => by simp [rpos] at h, fun h => by simp at h, Nat.le_refl _⟩
  | cons x r ih =>
    obtain ⟨h1, h2, h3⟩ := ih
    unfold rpos
    by_cases hx : x.f0 = t
    · rw [if_pos hx]; exact ⟨fun j h => by omega, fun _ => hx, by simp⟩
    · rw [if_neg hx]
      refine ⟨fun j hj => ?_, fun h => ?_, by simp; omega⟩
      · cases j with
        | zero => exact hx
        | succ j => have := h1 j (by omega); simpa [nth] using this
      · have := h2 (by simpa using h); simpa [nth] using this
theorem rpos_unique {l : List El} {t : Int} {i : Nat} (h : ∀ j, j < i → (nth l j).f0 ≠ t) (hi : i < l.length) (e : (nth l i).f0 = t) : rpos l t = i := by
  obtain ⟨h1, h2, h3⟩ := rpos_spec t l
  rcases Nat.lt_trichotomy (rpos l t) i with hl | hl | hl
  · exact absurd (h2 (by omega)) (h _ hl)
  · exact hl
  · exact absurd e (h1 _ hl)
theorem rpos_none {l : List El} {t : Int} (h : ∀ j, j < l.length → (nth l j).f0 ≠ t) : rpos l t = l.length := by
  obtain ⟨h1, h2, h3⟩ := rpos_spec t l
  by_cases hl : rpos l t < l.length
  · exact absurd (h2 hl) (h _ hl)
  · omega
def rhas (s : QS) (key : Int) : Bool := decide (rpos s.rs key < s.rs.length)
def rfind (s : QS) (key : Int) : Int := if rpos s.rs key < s.rs.length then (rpos s.rs key : Int) else -1
set_option maxHeartbeats 4000000 in
theorem findR (w : World) (base g : Nat) (v : Value) (s : QS) (key : Int) (hlen : s.rs.length ≤ 100000) (h : IsR w base g v s) :
    Calls Try.prog 20 #[PT g, .int .i64 key] w fun e w' => e = .returned (.int .i64 (rfind s key)) ∧ w' = w := by
  obtain ⟨A, c, rfl, hc, hR⟩ := readsR h.row
  have c1 := blk_cell h.blk 1
  have HR := Lib.hid hR
  obtain ⟨F, hF⟩ : ∃ F, F = rfind s key := ⟨_, rfl⟩
  rw [← hF]
  have HF := Lib.hid hF
  clear h hR hF
  generalize hl : s.rs = l at *
  generalize hm : s.most = m at *
  generalize hk : s.clock = ck at *
  have HL := Lib.hid hl
  generalize hn : l.length = n at *
  have HN := Lib.hid hn
  clear hl hm hk hn
  go_enter Try.func20, Try.ntmps20
  go_wp2_with fail
  go_loopw [5] (fun v5 wr => ∃ (k : Nat), v5 = .int .i64 k ∧ k ≤ n ∧ wr = w ∧ Hid (∀ j, j < k → (nth l j).f0 ≠ key)) (fun v5 _ => n - (intOf v5).toNat)
  case atStart => exact ⟨0, rfl, by omega, rfl, Lib.hid (fun j hj => by omega)⟩
  case round =>
    obtain ⟨k, rfl, hk, rfl, HI⟩ := hrel
    by_cases hlt : k < n
    · obtain ⟨ad, rfl, x0, x1, x2⟩ := HR.out k (by rw [HN.out]; exact hlt)
      have hlt' : decide ((k : Int) < (n : Int)) = true := by simp; omega
      by_cases he : (nth l k).f0 = key
      · have hres : Hid (F = k) := Lib.hid (by
          rw [HF.out]
          unfold rfind
          rw [HL.out, rpos_unique HI.out (by rw [HN.out]; exact hlt) he, if_pos (by rw [HN.out]; exact hlt)])
        rw [he] at x0
        clear he HI x1 x2
        go_wp2_with fail
        go_ret
        exact ⟨by rw [hres.out]; rfl, rfl⟩
      · have hfin : Hid (∀ j, j < k + 1 → (nth l j).f0 ≠ key) := Lib.hid (fun j hj => by
          by_cases hjk : j = k
          · rw [hjk]; exact he
          · exact HI.out j (by omega))
        generalize (nth l k).f0 = y at *
        have e1 : decide (y = key) = false := by simpa using he
        have e2 : (y == key) = false := by simpa using he
        clear he HI x1 x2
        go_wp2_with fail
        exact ⟨⟨k + 1, by congr 1, by omega, trivial, hfin⟩, by simp [intOf]; omega⟩
    · have hlt' : decide ((k : Int) < (n : Int)) = false := by simp; omega
      have hres : Hid (F = -1) := Lib.hid (by
        rw [HF.out]
        unfold rfind
        rw [HL.out, rpos_none (fun j hj => HI.out j (by rw [HN.out] at hj; omega)), if_neg (Nat.lt_irrefl _)])
      clear HI
      go_wp2_with fail
      go_ret
      exact ⟨by rw [hres.out]; rfl, rfl⟩
theorem setJ {w : World} {g : Nat} {a b c : Value} (h : w.heap[g]? = some (.cells #[a, b, c] 44 (0, 0))) (x y z : Value) : (((w.setCell ⟨g, 0, none⟩ x).setCell ⟨g, 1, none⟩ y).setCell ⟨g, 2, none⟩ z).heap[g]? = some (.cells #[x, y, z] 44 (0, 0)) := by
  have h1 : (w.setCell ⟨g, 0, none⟩ x).heap[g]? = some (.cells #[x, b, c] 44 (0, 0)) := by
    rw [setCell_eq_setRow w g 0 _ 44 (0, 0) x h]; exact setRow_heap w g _ _ 44 (0, 0) h
  have h2 : ((w.setCell ⟨g, 0, none⟩ x).setCell ⟨g, 1, none⟩ y).heap[g]? = some (.cells #[x, y, c] 44 (0, 0)) := by
    rw [setCell_eq_setRow _ g 1 _ 44 (0, 0) y h1]; exact setRow_heap _ g _ _ 44 (0, 0) h1
  rw [setCell_eq_setRow _ g 2 _ 44 (0, 0) z h2]; exact setRow_heap _ g _ _ 44 (0, 0) h2
def roldV (s : QS) : El := if 0 < s.rs.length then nth s.rs 0 else el0
set_option maxHeartbeats 4000000 in
theorem oldR (w : World) (base g : Nat) (v : Value) (s : QS) (h : IsR w base g v s) (hlen : s.rs.length ≤ 100000) :
    Calls Try.prog 35 #[PT g] w fun e w' => e = .returned (.tuple #[elV (roldV s), .bool (decide (0 < s.rs.length))]) ∧ Bel w w' := by
  obtain ⟨A, c, rfl, hc, hR⟩ := readsR h.row
  have c1 : w.cell? ⟨g, 1, none⟩ = some (.slice A s.rs.length c) := blk_cell h.blk 1
  clear h
  by_cases h0 : 0 < s.rs.length
  · obtain ⟨ad, rfl, x0, x1, x2⟩ := hR 0 h0
    have hr : roldV s = nth s.rs 0 := by unfold roldV; rw [if_pos h0]
    have hd : decide (0 < s.rs.length) = true := by simpa using h0
    rw [hr, hd]
    have hd1 : decide ((s.rs.length : Int) = 0) = false := decide_eq_false (by omega)
    have hd2 : ((s.rs.length : Int) == 0) = false := beq_false_of_ne (by omega)
    clear hR hr hd
    generalize nth s.rs 0 = y at *
    obtain ⟨y0', y1', y2'⟩ := y
    have hel : elV (⟨y0', y1', y2'⟩ : El) = .agg #[.int .i64 y0', .string y1', .int .i64 y2'] := rfl
    rw [hel]
    simp only [Nat.zero_mul, show ad.add 0 = ad by cases ad; simp [Addr.add]] at x0 x1 x2
    clear hel
    generalize s.rs.length = n at *
    go_enter Try.func35, Try.ntmps35
    go_upto_region 1 with fail
    refine wp_gen (fun W => Bel w W ∧ W.heap[w.heap.size]? = some (.cells #[.int .i64 0, .string ⟨#[]⟩, .int .i64 0] 44 (0, 0))) ⟨Bel.alloc _ _, heap_alloc_new _ _⟩ ?_
    rintro W ⟨hB, hp⟩
    have c1 := cellB hB c1
    have p0 := blk_cell hp 0
    have p1 := blk_cell hp 1
    have p2 := blk_cell hp 2
    have y0 := blk_frozen hp 0
    have y1 := blk_frozen hp 1
    have y2 := blk_frozen hp 2
    have x0 := cellB hB x0
    have x1 := cellB hB x1
    have x2 := cellB hB x2
    have HBx := Lib.hid (And.intro hB hp)
    clear hB hp
    go_wp2_with fail
    have hf := setJ HBx.out.2 (.int .i64 y0') (.string y1') (.int .i64 y2')
    have hb := belI HBx.out.1 (Nat.le_refl w.heap.size) (.int .i64 y0') (.string y1') (.int .i64 y2')
    generalize (((W.setCell ⟨w.heap.size, 0, none⟩ (.int .i64 y0')).setCell ⟨w.heap.size, 1, none⟩ (.string y1')).setCell ⟨w.heap.size, 2, none⟩ (.int .i64 y2')) = W9 at *
    have z0 := blk_cell hf 0
    have z1 := blk_cell hf 1
    have z2 := blk_cell hf 2
    exact bodyPost_ret (v := .tuple #[.agg #[.int .i64 y0', .string y1', .int .i64 y2'], .bool true]) (by simp [results, Try.results35, go_sem, z0, z1, z2]) rfl ⟨rfl, hb⟩
  · have hr : roldV s = el0 := by unfold roldV; rw [if_neg h0]
    have hd : decide (0 < s.rs.length) = false := by simpa using h0
    have h1 : s.rs.length = 0 := by omega
    rw [hr, hd]
    have hel : elV el0 = .agg #[.int .i64 0, .string ⟨#[]⟩, .int .i64 0] := rfl
    rw [hel]
    rw [h1] at c1
    clear hR hr hd h0 h1 hel hc
    go_enter Try.func35, Try.ntmps35
    go_upto_region 1 with fail
    refine wp_gen (fun W => Bel w W ∧ W.heap[w.heap.size]? = some (.cells #[.int .i64 0, .string ⟨#[]⟩, .int .i64 0] 44 (0, 0))) ⟨Bel.alloc _ _, heap_alloc_new _ _⟩ ?_
    rintro W ⟨hB, hp⟩
    have c1 := cellB hB c1
    have p0 := blk_cell hp 0
    have p1 := blk_cell hp 1
    have p2 := blk_cell hp 2
    have y0 := blk_frozen hp 0
    have y1 := blk_frozen hp 1
    have y2 := blk_frozen hp 2
    have HBx := Lib.hid (And.intro hB hp)
    clear hB hp
    go_wp2_with fail
    have hf := setJ HBx.out.2 (.int .i64 0) (.string ⟨#[]⟩) (.int .i64 0)
    have hb := belI HBx.out.1 (Nat.le_refl w.heap.size) (.int .i64 0) (.string ⟨#[]⟩) (.int .i64 0)
    generalize (((W.setCell ⟨w.heap.size, 0, none⟩ (.int .i64 0)).setCell ⟨w.heap.size, 1, none⟩ (.string ⟨#[]⟩)).setCell ⟨w.heap.size, 2, none⟩ (.int .i64 0)) = W9 at *
    have z0 := blk_cell hf 0
    have z1 := blk_cell hf 1
    have z2 := blk_cell hf 2
    exact bodyPost_ret (v := .tuple #[.agg #[.int .i64 0, .string ⟨#[]⟩, .int .i64 0], .bool false]) (by simp [results, Try.results35, go_sem, z0, z1, z2]) rfl ⟨rfl, hb⟩
end Go.Proofs.Ytffegfidaolgjaa
