/- Queue: what it holds; its calls that only read. | Queue: a block is put. -/
import Derived.Test.YtgpkpheejefiiaaGreatDoorX16
import Derived.Lib.SliceRun
import Derived.BigRegion
import Derived.ChangeAlike
import Derived.RegionTactic
import Derived.Deep.DeepCutAuto
import Derived.Deep.RegionHeld3
import Derived.Test.YtgpkpheejefiiaaGreatDoorWLast
import Derived.Test.YtgpkpheejefiiaaGreatDoorWTab
section
set_option linter.unusedVariables false
set_option linter.unusedSimpArgs false
namespace Go.Proofs.YtgpkpheejefiiaaGreatDoor.Q20
set_option maxRecDepth 100000
open Go.RowKit
structure QS where
  most : Int
  clock : Int
  rs : List El
structure IsQ (w : World) (base g : Nat) (v : Value) (s : QS) : Prop where
  blk : w.heap[g]? = some (.cells #[.int .i64 s.most, v, .int .i64 s.clock] 184 (0, 0))
  row : Row w base v s.rs
theorem IsQ.bel {w w1 : World} {base g : Nat} {v : Value} {s : QS} (h : IsQ w base g v s) (k : Bel w w1) : IsQ w1 base g v s := ⟨blk_below h.blk k, h.row.bel k⟩
theorem ptr24 : Tryz.prog.underlying 90 = some (.pointer 184) := by kernel_rfl
theorem nil24 (w : World) (p : Option Addr) : (binOp .eql 90 (.pointer p) (.pointer none)).run Tryz.prog w = .ok (.bool p.isNone) w := run_eql_pointer_nil (P := Tryz.prog) w 90 p ptr24
abbrev PT (g : Nat) : Value := .pointer (some ⟨g, 0, none⟩)
theorem newQ (most : Int) (w : World) : Calls Tryz.prog 82 #[.int .i64 most] w fun e w' => e = .returned (PT w.heap.size) ∧ Bel w w' ∧ w.heap.size < w'.heap.size ∧ ∀ base, IsQ w' base w.heap.size (.slice none 0 0) ⟨max 1 (min most 256), 0, []⟩ := by
  go_enter Tryz.func82, Tryz.ntmps82
  go_wp2_with fail
  go_ret
  exact ⟨rfl, Bel.alloc _ _, by simp, fun base => ⟨heap_alloc_new _ _, Row.nil _ _⟩⟩
theorem lenQ (w : World) (base g : Nat) (v : Value) (s : QS) (h : IsQ w base g v s) : Calls Tryz.prog 46 #[PT g] w fun e w' => e = .returned (.int .i64 s.rs.length) ∧ Bel w w' := by
  obtain ⟨A, c, rfl⟩ := h.row.len
  have h2 := blk_cell h.blk 1
  have hn := nil24
  clear h
  go_enter Tryz.func46, Tryz.ntmps46
  go_wp2_with fail
  go_ret
  exact ⟨rfl, Bel.refl _⟩
theorem lenN (w : World) : Calls Tryz.prog 46 #[.pointer none] w fun e w' => e = .returned (.int .i64 0) ∧ Bel w w' := by
  have hn := nil24
  go_enter Tryz.func46, Tryz.ntmps46
  go_wp2_with fail
  go_ret
  exact ⟨rfl, Bel.refl _⟩
def fullP (s : QS) : Bool := decide (s.most ≤ (s.rs.length : Int))
set_option maxHeartbeats 4000000 in
theorem fullQ (w : World) (base g : Nat) (v : Value) (s : QS) (h : IsQ w base g v s) : Calls Tryz.prog 48 #[PT g] w fun e w' => e = .returned (.bool (fullP s)) ∧ Bel w w' := by
  obtain ⟨A, c, rfl⟩ := h.row.len
  have h1 := blk_cell h.blk 1
  have h0 := blk_cell h.blk 0
  have hn := nil24
  have hf : fullP s = decide (s.most ≤ (s.rs.length : Int)) := rfl
  rw [hf]
  clear h hf
  generalize s.rs.length = n at *
  generalize s.most = m at *
  go_enter Tryz.func48, Tryz.ntmps48
  go_wp2_with fail
  go_quiet (fail)
  have hfin : Bel w (w.drewN nq) := Bel.drewN w nq
  generalize w.drewN nq = W at *
  go_wp2_with fail
  go_ret
  exact ⟨rfl, hfin⟩
set_option maxHeartbeats 4000000 in
theorem fullN (w : World) : Calls Tryz.prog 48 #[.pointer none] w fun e w' => e = .returned (.bool true) ∧ Bel w w' := by
  have hn := nil24
  go_enter Tryz.func48, Tryz.ntmps48
  go_wp2_with fail
  go_quiet (fail)
  have hfin : Bel w (w.drewN nq) := Bel.drewN w nq
  generalize w.drewN nq = W at *
  go_wp2_with fail
  go_ret
  exact ⟨rfl, hfin⟩
theorem findQ0 (w : World) (base g : Nat) (v : Value) (s : QS) (key : Int) (hs : Rising s.rs) (hlen : s.rs.length ≤ 1000000) (h : IsQ w base g v s) :
    Calls Tryz.prog 89 #[PT g, .int .i64 key] w fun e w' => ∃ i : Nat, e = .returned (.tuple #[.int .i64 i, .bool (isAt s.rs key i)]) ∧ FindAt s.rs key i ∧ Bel w w' := by
  obtain ⟨A, c, rfl, hc, hR⟩ := h.row.reads
  have h2 := blk_cell h.blk 1
  have K := Lib.hid (bsf A c s.rs key hs hlen w hR)
  clear h hR hs
  go_enter Tryz.func89, Tryz.ntmps89
  go_wp2_with fail
  refine K.out.mono ?_
  rintro e w1 ⟨i, rfl, hf, hb⟩
  have HF := Lib.hid (And.intro hf hb)
  clear hf hb K
  go_wp2_with fail
  go_ret2
  exact ⟨i, rfl, HF.out.1, HF.out.2⟩
theorem find_unique {l : List El} {t : Int} {i j : Nat} (h : FindAt l t i) (k : FindAt l t j) : i = j := by
  obtain ⟨h1, h2, h3⟩ := h
  obtain ⟨k1, k2, k3⟩ := k
  rcases Nat.lt_trichotomy i j with hl | rfl | hl
  · have := k2 i hl; have := h3 i (Nat.le_refl _) (by omega); omega
  · rfl
  · have := h2 j hl; have := k3 j (Nat.le_refl _) (by omega); omega
/-- The place of a key. -/
def pos : List El → Int → Nat
  | [], _ => 0
  | x :: r, t => if x.f0 < t then pos r t + 1 else 0
theorem rising_tail {x : El} {r : List El} (h : Rising (x :: r)) : Rising r := fun i j hij hj => by
  have := h (i + 1) (j + 1) (by omega) (by simp; omega)
  simpa [nth] using this
theorem pos_find : ∀ (l : List El) (t : Int), Rising l → FindAt l t (pos l t) := by
  intro l t
  induction l with
  | nil => intro _; exact ⟨by simp [pos], fun j hj => by simp [pos] at hj, fun j _ hj => by simp at hj⟩
  | cons x r ih =>
    intro h
    obtain ⟨h1, h2, h3⟩ := ih (rising_tail h)
    unfold pos
    by_cases hx : x.f0 < t
    · rw [if_pos hx]
      refine ⟨by simp; omega, fun j hj => ?_, fun j hj hj2 => ?_⟩
      · cases j with
        | zero => exact hx
        | succ j => have := h2 j (by omega); simpa [nth] using this
      · cases j with
        | zero => omega
        | succ j => have := h3 j (by omega) (by simpa using hj2); simpa [nth] using this
    · rw [if_neg hx]
      refine ⟨by omega, fun j hj => by omega, fun j _ hj2 => ?_⟩
      cases j with
      | zero => simp [nth]; omega
      | succ j =>
        have := h 0 (j + 1) (by omega) hj2
        simp [nth] at this ⊢
        omega
/-- Is the block there? -/
def has (s : QS) (key : Int) : Bool := isAt s.rs key (pos s.rs key)
theorem findP (w : World) (base g : Nat) (v : Value) (s : QS) (key : Int) (hs : Rising s.rs) (hlen : s.rs.length ≤ 1000000) (h : IsQ w base g v s) :
    Calls Tryz.prog 89 #[PT g, .int .i64 key] w fun e w' => e = .returned (.tuple #[.int .i64 (pos s.rs key), .bool (has s key)]) ∧ Bel w w' := by
  refine (findQ0 w base g v s key hs hlen h).mono ?_
  rintro e w' ⟨i, rfl, hf, hb⟩
  obtain rfl := find_unique hf (pos_find s.rs key hs)
  exact ⟨rfl, hb⟩
theorem getQ (w : World) (base g : Nat) (v : Value) (s : QS) (key : Int) (hs : Rising s.rs) (hlen : s.rs.length ≤ 1000000) (h : IsQ w base g v s) :
    Calls Tryz.prog 38 #[PT g, .int .i64 key] w fun e w' => e = .returned (.tuple #[.string (if has s key = true then (nth s.rs (pos s.rs key)).f1 else ⟨#[]⟩), .bool (has s key)]) ∧ Bel w w' := by
  have K := Lib.hid (findP w base g v s key hs hlen h)
  have H := Lib.hid h
  have hin : has s key = true → pos s.rs key < s.rs.length := fun h => by unfold has isAt at h; simp at h; exact h.1
  have hn := nil24
  clear h hs
  generalize pos s.rs key = i at *
  cases hb : has s key
  · rw [hb] at K
    simp only [Bool.false_eq_true, if_false]
    clear hb hin
    go_enter Tryz.func38, Tryz.ntmps38
    go_wp2_with fail
    refine K.out.mono ?_
    rintro e w1 ⟨rfl, hb⟩
    go_wp2_with fail
    go_ret2
    exact ⟨rfl, hb⟩
  · rw [hb] at K
    simp only [if_true]
    have hi := hin hb
    clear hin hb
    go_enter Tryz.func38, Tryz.ntmps38
    go_wp2_with fail
    refine K.out.mono ?_
    rintro e w1 ⟨rfl, hb⟩
    have H1 := H.out.bel hb
    obtain ⟨A, c, hv, hc, hR⟩ := H1.row.reads
    have h2 := blk_cell H1.blk 1
    rw [hv] at h2
    obtain ⟨ad, rfl, y0, y1, y2⟩ := hR i hi
    have HB := Lib.hid hb
    clear hb H1 hR hv H K
    go_wp2_with fail
    go_ret2
    exact ⟨rfl, HB.out⟩
theorem getN (w : World) (key : Int) : Calls Tryz.prog 38 #[.pointer none, .int .i64 key] w fun e w' => e = .returned (.tuple #[.string ⟨#[]⟩, .bool false]) ∧ Bel w w' := by
  have hn := nil24
  go_enter Tryz.func38, Tryz.ntmps38
  go_wp2_with fail
  go_ret2
  exact ⟨rfl, Bel.refl _⟩
theorem putN (w : World) (key : Int) (d : ByteArray) : Calls Tryz.prog 49 #[.pointer none, .int .i64 key, .string d] w fun e w' => e = .returned (.int .i64 1) ∧ Bel w w' := by
  have hn := nil24
  go_enter Tryz.func49, Tryz.ntmps49
  go_wp2_with fail
  go_ret
  exact ⟨rfl, Bel.refl _⟩
theorem setI {w : World} {g : Nat} {a b c : Value} (h : w.heap[g]? = some (.cells #[a, b, c] 103 (0, 0))) (x y z : Value) : (((w.setCell ⟨g, 0, none⟩ x).setCell ⟨g, 1, none⟩ y).setCell ⟨g, 2, none⟩ z).heap[g]? = some (.cells #[x, y, z] 103 (0, 0)) := by
  have h1 : (w.setCell ⟨g, 0, none⟩ x).heap[g]? = some (.cells #[x, b, c] 103 (0, 0)) := by
    rw [setCell_eq_setRow w g 0 _ 103 (0, 0) x h]; exact setRow_heap w g _ _ 103 (0, 0) h
  have h2 : ((w.setCell ⟨g, 0, none⟩ x).setCell ⟨g, 1, none⟩ y).heap[g]? = some (.cells #[x, y, c] 103 (0, 0)) := by
    rw [setCell_eq_setRow _ g 1 _ 103 (0, 0) y h1]; exact setRow_heap _ g _ _ 103 (0, 0) h1
  rw [setCell_eq_setRow _ g 2 _ 103 (0, 0) z h2]; exact setRow_heap _ g _ _ 103 (0, 0) h2
theorem belI {w0 w : World} {g : Nat} (h : Bel w0 w) (hg : w0.heap.size ≤ g) (x y z : Value) : Bel w0 (((w.setCell ⟨g, 0, none⟩ x).setCell ⟨g, 1, none⟩ y).setCell ⟨g, 2, none⟩ z) :=
  ((Below.setCell h (p := ⟨g, 0, none⟩) hg x).setCell (p := ⟨g, 1, none⟩) hg y).setCell (p := ⟨g, 2, none⟩) hg z
/-- An item's value. -/
def elV (x : El) : Value := .agg #[.int .i64 x.f0, .string x.f1, .int .i64 x.f2]
theorem takeN (w : World) (key : Int) : Calls Tryz.prog 42 #[.pointer none, .int .i64 key] w fun e w' => e = .returned (.tuple #[elV el0, .bool false]) ∧ Bel w w' := by
  have hn := nil24
  go_enter Tryz.func42, Tryz.ntmps42
  go_wp2_with fail
  exact bodyPost_ret (v := .tuple #[.agg #[.int .i64 0, .string ⟨#[]⟩, .int .i64 0], .bool false]) (by simp [results, Tryz.results42, go_sem]) rfl ⟨rfl, Bel.alloc _ _⟩
end Go.Proofs.YtgpkpheejefiiaaGreatDoor.Q20
end
section
set_option linter.unusedVariables false
set_option linter.unusedSimpArgs false
namespace Go.Proofs.YtgpkpheejefiiaaGreatDoor.Q20
set_option maxRecDepth 100000
open Go.RowKit Go.Proofs.YtgpkpheejefiiaaGreatDoorW.PrintLast
def putT.T8 : Bool × List (List Nat × List Nat) := (true, [([], []), ([], []), ([1], [1]), ([2], [2]), ([3], [3]), ([], []), ([], []), ([], []), ([], []), ([8], [8]), ([9], [9]), ([10], [10]), ([6, 7, 11], [6, 7, 11]), ([12], [12]), ([4, 5, 13], [4, 5, 13]), ([0, 0, 1, 2, 3, 4, 5, 6, 7, 8, 9, 10, 11, 12, 13, 14], [0]), ([15, 0, 1, 2, 3, 4, 5, 6, 7, 8, 9, 10, 11, 12, 13, 14], [15]), ([16, 14, 14, 0, 1, 2, 3, 4, 5, 6, 7, 8, 9, 10, 11, 12, 13, 14], [14, 16])])
def putT.B8 : List Nat := [0, 0, 2, 6, 14, 0, 0, 0, 0, 256, 768, 1792, 4032, 8128, 16382, 32767, 65535, 131071]
theorem putT.tab8 : rtab .any (opsOf Tryz.f49 8) = putT.T8 := by kernel_rfl
theorem putT.bits8 : waitsOk putT.T8.2 putT.B8 = true := by kernel_rfl
theorem inb_gen {n : Nat} {Q : Exit → Act → World → Prop} {x : Exit} {a : Act} {w : World} (Φ : World → Prop) (hΦ : Φ w) (h : ∀ W, Φ W → Exit.inBlock n Q x a W) : Exit.inBlock n Q x a w := h w hΦ
theorem then_gen {K : Act → World → Prop} {Q : Exit → Act → World → Prop} {x : Exit} {a : Act} {w : World} (Φ : World → Prop) (hΦ : Φ w) (h : ∀ W, Φ W → Exit.then K Q x a W) : Exit.then K Q x a w := h w hΦ
def putE (s : QS) (key : Int) (d : ByteArray) : Int := if key < 0 ∨ 1099511627776 ≤ key then 3 else if d.size ≠ 64 then 4 else if has s key = true then 0 else if fullP s = true then 10 else 0
def putR (s : QS) (key : Int) (d : ByteArray) : List El := if has s key = true then s.rs.set (pos s.rs key) ⟨(nth s.rs (pos s.rs key)).f0, d, (nth s.rs (pos s.rs key)).f2⟩ else s.rs.take (pos s.rs key) ++ ⟨key, d, s.clock⟩ :: s.rs.drop (pos s.rs key)
def putS (s : QS) (key : Int) (d : ByteArray) : QS := if putE s key d = 0 then { s with rs := putR s key d, clock := s.clock + 1 } else s
theorem set1 {w : World} {g : Nat} {a b c : Value} (h : w.heap[g]? = some (.cells #[a, b, c] 184 (0, 0))) (u : Value) : (w.setCell ⟨g, 1, none⟩ u).heap[g]? = some (.cells #[a, u, c] 184 (0, 0)) := by
  rw [setCell_eq_setRow w g 1 _ 184 (0, 0) u h]
  exact setRow_heap w g _ _ 184 (0, 0) h
theorem set2 {w : World} {g : Nat} {a b c : Value} (h : w.heap[g]? = some (.cells #[a, b, c] 184 (0, 0))) (u : Value) : (w.setCell ⟨g, 2, none⟩ u).heap[g]? = some (.cells #[a, b, u] 184 (0, 0)) := by
  rw [setCell_eq_setRow w g 2 _ 184 (0, 0) u h]
  exact setRow_heap w g _ _ 184 (0, 0) h
theorem Row.setG {w : World} {base g : Nat} {v : Value} {l : List El} {cs : Array Value} (h : Row w base v l) (hg : w.heap[g]? = some (.cells cs 184 (0, 0))) (p : Addr) (hp : p.block = g) (u : Value) : Row (w.setCell p u) base v l := by
  refine World.ownsRow.kept (row := some g) h ⟨rfl, rfl, rfl, (((Below.refl 0 w).setCell (p := p) (Nat.zero_le _) u).size), fun k hk hne => Below.heap_setCell w p u k (by rw [hp]; exact fun e => hne (by rw [e]))⟩ ?_
  cases hv : v.ownBlock with
  | none => exact .inl rfl
  | some k =>
    refine .inr fun e => ?_
    obtain ⟨_, cs', h2⟩ := h.blk hv
    rw [Option.some.inj e, hg] at h2
    simp at h2
theorem grown_blk {w wa : World} {base g : Nat} {v : Value} {l : List El} {cs : Array Value} (hg : w.grownBy wa v.ownBlock) (hr : Row w base v l) (h : w.heap[g]? = some (.cells cs 184 (0, 0))) : wa.heap[g]? = some (.cells cs 184 (0, 0)) :=
  (hg.block g (blk_lt h) (fun e => by
    obtain ⟨_, cs', h2⟩ := hr.blk e.symm
    rw [h] at h2
    simp at h2)).trans h
theorem flat_set : ∀ (l : List El) (k : Nat) (y : ByteArray), k < l.length → (flat l).set (k * 3 + 1) (.string y) = flat (l.set k ⟨(nth l k).f0, y, (nth l k).f2⟩) := by
  intro l
  induction l with
  | nil => intro k y h; simp at h
  | cons x l ih =>
    intro k y h
    cases k with
    | zero => simp [flat_cons, enc, nth]
    | succ k =>
      rw [flat_cons, List.set_cons_succ, flat_cons]
      have e : (k + 1) * 3 + 1 = (enc x).length + (k * 3 + 1) := by simp [enc]; omega
      rw [e, List.set_append_right _ _ (by omega)]
      congr 1
      rw [show (enc x).length + (k * 3 + 1) - (enc x).length = k * 3 + 1 by omega, ih k y (by simpa using h)]
      rfl
theorem Row.setW {w : World} {base : Nat} {v : Value} {l : List El} (h : Row w base v l) {k : Nat} (hk : k < l.length) (y : ByteArray) :
    ∃ g' c, v = .slice (some ⟨g', 0, none⟩) l.length c ∧ w.frozen? ⟨g', k * 3 + 1, none⟩ = false ∧ Row (w.setCell ⟨g', k * 3 + 1, none⟩ (.string y)) base v (l.set k ⟨(nth l k).f0, y, (nth l k).f2⟩) ∧ w.grownBy (w.setCell ⟨g', k * 3 + 1, none⟩ (.string y)) v.ownBlock := by
  obtain ⟨hl, ⟨_, h0⟩ | ⟨g', cap, cur, rfl, hb, hg, hn, hc, hs, hx⟩⟩ := h
  · omega
  · refine ⟨g', cap, rfl, blk_frozen hg _, ?_, ?_⟩
    · rw [setCell_eq_setRow w g' _ cur 103 (0, 0) _ hg]
      unfold Row
      refine ⟨by rw [flat_len], .inr ⟨g', cap, _, by simp, hb, setRow_heap w g' _ _ 103 (0, 0) hg, by simpa using hn, hc, by simpa using hs, ?_⟩⟩
      rw [← flat_set l k y hk, ← hx, Array.toList_setIfInBounds, List.length_set, List.take_set]
    · rw [setCell_eq_setRow w g' _ cur 103 (0, 0) _ hg]
      exact grown_setRow w g' _
set_option maxHeartbeats 8000000 in
set_option maxRecDepth 100000 in
theorem putQ (w : World) (base g : Nat) (v : Value) (s : QS) (key : Int) (d : ByteArray) (hs : Rising s.rs) (hlen : s.rs.length ≤ 256) (hd : d.size ≤ 100000) (hc0 : 0 ≤ s.clock) (hsm : s.clock ≤ 1000000) (hb : base ≤ w.heap.size) (h : IsQ w base g v s) :
    Calls Tryz.prog 49 #[PT g, .int .i64 key, .string d] w fun e w' => ∃ v', e = .returned (.int .i64 (putE s key d)) ∧ IsQ w' base g v' (putS s key d) ∧ Kp base g w w' := by
  have K := Lib.hid (findP w base g v s key hs (by omega) h)
  have KF := Lib.hid (fun w h => fullQ w base g v s h)
  have H := Lib.hid h
  have hn := nil24
  clear h
  by_cases hr : key < 0 ∨ 1099511627776 ≤ key
  · have hE : putE s key d = 3 := by unfold putE; rw [if_pos hr]
    have hS : putS s key d = s := by unfold putS; rw [hE]; simp
    rw [hE, hS]
    clear hE hS K KF
    by_cases h0 : key < 0
    · have d0 : decide (key < 0) = true := by simpa using h0
      go_enter Tryz.func49, Tryz.ntmps49
      go_wp2_with fail
      go_ret
      first | exact ⟨v, rfl, H.out, Kp.refl _ _ _⟩ | exact ⟨rfl, ⟨v, H.out⟩, Kp.refl _ _ _⟩
    · have d0 : decide (key < 0) = false := by simpa using h0
      have d1 : decide (1099511627776 ≤ key) = true := by simp; omega
      have d2 : decide (key ≥ 1099511627776) = true := by simp; omega
      go_enter Tryz.func49, Tryz.ntmps49
      go_wp2_with fail
      go_ret
      first | exact ⟨v, rfl, H.out, Kp.refl _ _ _⟩ | exact ⟨rfl, ⟨v, H.out⟩, Kp.refl _ _ _⟩
  have d0 : decide (key < 0) = false := by simp; omega
  have d1 : decide (1099511627776 ≤ key) = false := by simp; omega
  have d2 : decide (key ≥ 1099511627776) = false := by simp; omega
  by_cases h64 : d.size ≠ 64
  · have hE : putE s key d = 4 := by unfold putE; rw [if_neg hr, if_pos h64]
    have hS : putS s key d = s := by unfold putS; rw [hE]; simp
    have d3 : decide ((d.size : Int) = 64) = false := by simp; omega
    have d4 : ((d.size : Int) == 64) = false := by simp; omega
    have d5 : ((d.size : Int) != 64) = true := by simp; omega
    rw [hE, hS]
    clear hE hS K KF
    go_enter Tryz.func49, Tryz.ntmps49
    go_wp2_with fail
    go_ret
    first | exact ⟨v, rfl, H.out, Kp.refl _ _ _⟩ | exact ⟨rfl, ⟨v, H.out⟩, Kp.refl _ _ _⟩
  have h64' : d.size = 64 := by omega
  have hw1 : IntKind.i64.wrap (s.clock + 1) = s.clock + 1 := w64i (by omega) (by omega)
  have hpl : pos s.rs key ≤ s.rs.length := (pos_find s.rs key hs).1
  have hin : has s key = true → pos s.rs key < s.rs.length := fun h => by unfold has isAt at h; simp at h; exact h.1
  cases hh : has s key
  · rw [hh] at K
    cases hfu : fullP s
    · have hE : putE s key d = 0 := by unfold putE; rw [if_neg hr, if_neg h64, if_neg (by simp [hh]), if_neg (by simp [hfu])]
      have hS : putS s key d = { s with rs := s.rs.take (pos s.rs key) ++ ⟨key, d, s.clock⟩ :: s.rs.drop (pos s.rs key), clock := s.clock + 1 } := by unfold putS putR; rw [if_pos hE, if_neg (by simp [hh])]
      have HI := Lib.hid (fun w1 vb (hr : Row w1 base v s.rs) (hb : base ≤ w1.heap.size) (hvb : w1.heap[vb]? = some (.cells (enc ⟨key, d, s.clock⟩).toArray 103 (0, 0))) (hne : some vb ≠ v.ownBlock) => insRow w1 base vb (pos s.rs key) v s.rs ⟨key, d, s.clock⟩ hr hpl hb (by omega) hvb hne)
      rw [hfu] at KF
      rw [hE, hS]
      clear hE hS hr hin hs hfu
      obtain ⟨A, c, rfl⟩ := H.out.row.len
      generalize hrs : s.rs.length = n at *
      go_enter Tryz.func49, Tryz.ntmps49
      go_wp2_with fail
      refine K.out.mono ?_
      rintro e w0 ⟨rfl, hb0⟩
      have H0 := Lib.hid (H.out.bel hb0)
      have HB0 := Lib.hid hb0
      clear hb0 K H
      go_wp2_with fail
      refine (KF.out _ H0.out).mono ?_
      rintro e w1 ⟨rfl, hb1⟩
      have H1 := Lib.hid (H0.out.bel hb1)
      have HB1 := Lib.hid (HB0.out.trans hb1)
      have c2 := blk_cell H1.out.blk 1
      have c3 := blk_cell H1.out.blk 2
      clear hb1 KF H0 HB0
      have hne : some w1.heap.size ≠ (Value.slice A n c).ownBlock := fun e => by
        obtain ⟨_, cs, h2⟩ := H1.out.row.blk e.symm
        have := blk_lt h2
        omega
      have HNe := Lib.hid hne
      have HRow : Hid (Row (w1.drew.alloc (.cells #[.int .i64 key, .string d, .int .i64 s.clock] 103)) base (.slice A n c) s.rs) := Lib.hid (H1.out.row.bel ((Bel.drew _).trans (Bel.alloc _ _)))
      have HVb : Hid ((w1.drew.alloc (.cells #[.int .i64 key, .string d, .int .i64 s.clock] 103)).heap[w1.heap.size]? = some (.cells (enc ⟨key, d, s.clock⟩).toArray 103 (0, 0))) := Lib.hid (heap_alloc_new w1.drew _)
      have HBs : Hid (base ≤ (w1.drew.alloc (.cells #[.int .i64 key, .string d, .int .i64 s.clock] 103)).heap.size) := Lib.hid (Nat.le_trans hb ((HB1.out.trans (Bel.drew w1)).trans (Bel.alloc _ _)).size)
      have HBlk : Hid (∀ wa, (w1.drew.alloc (.cells #[.int .i64 key, .string d, .int .i64 s.clock] 103)).grownBy wa (Value.slice A n c).ownBlock → wa.heap[g]? = some (.cells #[.int .i64 s.most, .slice A n c, .int .i64 s.clock] 184 (0, 0))) := Lib.hid (fun wa hg => by
        have h1 := blk_below H1.out.blk ((Bel.drew w1).trans (Bel.alloc w1.drew (.cells #[.int .i64 key, .string d, .int .i64 s.clock] 103)))
        exact (hg.block g (blk_lt h1) (fun e => by
          obtain ⟨_, cs, h2⟩ := H1.out.row.blk e.symm
          rw [H1.out.blk] at h2
          simp at h2)).trans h1)
      clear hne
      go_wp2_with fail
      refine start_ (n := 18) (S := fun w' => w'.cell? ⟨g, 1, none⟩ = some (.slice A n c) ∧ w'.cell? ⟨g, 2, none⟩ = some (.int .i64 s.clock)) (ds := [14, 17]) #[false, false, false, false, false, false, false, false, false, false, false, false, false, false, false, false, false, false] (by kernel_rfl) rfl rfl (⟨c2, c3⟩) (fun hHeld => ?_)
      refine with_tabW putT.tab8 putT.bits8 (fun HT_ HW_ => ?_)
      refine pure_ (i := 0) (N := some 29) (v := ?_) (a' := ?_) #[true, false, false, false, false, false, false, false, false, false, false, false, false, false, false, false, false, false] rfl rfl (any_of HT_.out (by kernel_rfl)) (fun _ _ _ h => h) (Or.inl ⟨by rfl, ?_⟩) ?_ ?_
      rotate_left
      · intro w'
        go_simp
        with_reducible rfl
      rotate_left
      · simp only [Act.put, List.setIfInBounds_toArray, List.set_cons_zero, List.set_cons_succ, i64_w, i32_w]
        rfl
      refine pure_ (i := 1) (N := some 30) (v := ?_) (a' := ?_) #[true, true, false, false, false, false, false, false, false, false, false, false, false, false, false, false, false, false] rfl rfl (any_of HT_.out (by kernel_rfl)) (fun _ _ _ h => h) (Or.inl ⟨by rfl, ?_⟩) ?_ ?_
      rotate_left
      · intro w'
        go_simp
        with_reducible rfl
      rotate_left
      · simp only [Act.put, List.setIfInBounds_toArray, List.set_cons_zero, List.set_cons_succ, i64_w, i32_w]
        rfl
      refine pure_ (i := 2) (N := some 31) (v := ?_) (a' := ?_) #[true, true, true, false, false, false, false, false, false, false, false, false, false, false, false, false, false, false] rfl rfl (any_of HT_.out (by kernel_rfl)) (fun _ _ _ h => h) (Or.inl ⟨by rfl, ?_⟩) ?_ ?_
      rotate_left
      · intro w'
        go_simp
        with_reducible rfl
      rotate_left
      · simp only [Act.put, List.setIfInBounds_toArray, List.set_cons_zero, List.set_cons_succ, i64_w, i32_w]
        rfl
      refine pure_ (i := 3) (N := some 32) (v := ?_) (a' := ?_) #[true, true, true, true, false, false, false, false, false, false, false, false, false, false, false, false, false, false] rfl rfl (any_of HT_.out (by kernel_rfl)) (fun _ _ _ h => h) (Or.inl ⟨by rfl, ?_⟩) ?_ ?_
      rotate_left
      · intro w'
        go_simp
        with_reducible rfl
      rotate_left
      · simp only [Act.put, List.setIfInBounds_toArray, List.set_cons_zero, List.set_cons_succ, i64_w, i32_w]
        rfl
      refine pure_ (i := 5) (N := some 34) (v := ?_) (a' := ?_) #[true, true, true, true, false, true, false, false, false, false, false, false, false, false, false, false, false, false] rfl rfl (any_of HT_.out (by kernel_rfl)) (fun _ _ _ h => h) (Or.inl ⟨by rfl, ?_⟩) ?_ ?_
      rotate_left
      · intro w'
        go_simp
        with_reducible rfl
      rotate_left
      · simp only [Act.put, List.setIfInBounds_toArray, List.set_cons_zero, List.set_cons_succ, i64_w, i32_w]
        rfl
      refine pure_ (i := 6) (N := some 35) (v := ?_) (a' := ?_) #[true, true, true, true, false, true, true, false, false, false, false, false, false, false, false, false, false, false] rfl rfl (any_of HT_.out (by kernel_rfl)) (fun _ _ _ h => h) (Or.inl ⟨by rfl, ?_⟩) ?_ ?_
      rotate_left
      · intro w'
        go_simp
        with_reducible rfl
      rotate_left
      · simp only [Act.put, List.setIfInBounds_toArray, List.set_cons_zero, List.set_cons_succ, i64_w, i32_w]
        rfl
      refine pure_ (i := 7) (N := some 36) (v := ?_) (a' := ?_) #[true, true, true, true, false, true, true, true, false, false, false, false, false, false, false, false, false, false] rfl rfl (any_of HT_.out (by kernel_rfl)) (fun _ _ _ h => h) (Or.inl ⟨by rfl, ?_⟩) ?_ ?_
      rotate_left
      · intro w'
        go_simp
        with_reducible rfl
      rotate_left
      · simp only [Act.put, List.setIfInBounds_toArray, List.set_cons_zero, List.set_cons_succ, i64_w, i32_w]
        rfl
      refine pure_ (i := 8) (N := some 37) (v := ?_) (a' := ?_) #[true, true, true, true, false, true, true, true, true, false, false, false, false, false, false, false, false, false] rfl rfl (any_of HT_.out (by kernel_rfl)) (fun _ _ _ h => h) (Or.inl ⟨by rfl, ?_⟩) ?_ ?_
      rotate_left
      · intro w'
        go_simp
        with_reducible rfl
      rotate_left
      · simp only [Act.put, List.setIfInBounds_toArray, List.set_cons_zero, List.set_cons_succ, i64_w, i32_w]
        rfl
      refine pure_ (i := 9) (N := some 38) (v := ?_) (a' := ?_) #[true, true, true, true, false, true, true, true, true, true, false, false, false, false, false, false, false, false] rfl rfl (any_of HT_.out (by kernel_rfl)) (fun _ _ _ h => h) (Or.inl ⟨by rfl, ?_⟩) ?_ ?_
      rotate_left
      · intro w'
        go_simp
        with_reducible rfl
      rotate_left
      · simp only [Act.put, List.setIfInBounds_toArray, List.set_cons_zero, List.set_cons_succ, i64_w, i32_w]
        rfl
      refine pure_ (i := 10) (N := some 39) (v := ?_) (a' := ?_) #[true, true, true, true, false, true, true, true, true, true, true, false, false, false, false, false, false, false] rfl rfl (any_of HT_.out (by kernel_rfl)) (fun _ _ _ h => h) (Or.inl ⟨by rfl, ?_⟩) ?_ ?_
      rotate_left
      · intro w'
        go_simp
        with_reducible rfl
      rotate_left
      · simp only [Act.put, List.setIfInBounds_toArray, List.set_cons_zero, List.set_cons_succ, i64_w, i32_w]
        rfl
      refine take_ (i := 4) (N := some 33) (v := ?_) (a' := ?_) #[true, true, true, true, true, true, true, true, true, true, true, false, false, false, false, false, false, false] rfl rfl (take_ofW HT_.out HW_.out (by kernel_rfl)) (fun _ _ _ h => h) (Or.inl ⟨by rfl, ?_⟩) hHeld ?_ ?_
      rotate_left
      · rintro w' ⟨s0, s1⟩
        go_simp
        with_reducible rfl
      rotate_left
      · simp only [Act.put, List.setIfInBounds_toArray, List.set_cons_zero, List.set_cons_succ, i64_w, i32_w]
        rfl
      refine take_ (i := 11) (N := some 40) (v := ?_) (a' := ?_) #[true, true, true, true, true, true, true, true, true, true, true, true, false, false, false, false, false, false] rfl rfl (take_ofW HT_.out HW_.out (by kernel_rfl)) (fun _ _ _ h => h) (Or.inl ⟨by rfl, ?_⟩) hHeld ?_ ?_
      rotate_left
      · rintro w' ⟨s0, s1⟩
        go_simp
        with_reducible rfl
      rotate_left
      · simp only [Act.put, List.setIfInBounds_toArray, List.set_cons_zero, List.set_cons_succ, i64_w, i32_w]
        rfl
      refine pure_ (i := 12) (N := some 41) (v := ?_) (a' := ?_) #[true, true, true, true, true, true, true, true, true, true, true, true, true, false, false, false, false, false] rfl rfl (any_of HT_.out (by kernel_rfl)) (fun _ _ _ h => h) (Or.inl ⟨by rfl, ?_⟩) ?_ ?_
      rotate_left
      · intro w'
        go_simp
        with_reducible rfl
      rotate_left
      · simp only [Act.put, List.setIfInBounds_toArray, List.set_cons_zero, List.set_cons_succ, i64_w, i32_w]
        rfl
      refine one_ (i := 13) (N := some 42) #[true, true, true, true, true, true, true, true, true, true, true, true, true, true, false, false, false, false] rfl rfl (one_of HT_.out (by kernel_rfl)) (by decide) (fun K hK => ?_)
      refine value_ (w1 := ?_) (v := ?_) (by rfl) rfl ?_ ?_
      rotate_left 2
      · go_simp
        constructor
        · rfl
        · rfl
      refine hK.out _ _ (⟨cellB (Bel.alloc _ _) hHeld.1, cellB (Bel.alloc _ _) hHeld.2⟩) (fun hHeld => ?_)
      clear hK K
      refine norm_ (a' := ?_) ?_ ?_
      rotate_left
      · show Act.put _ (some 42) _ = _
        simp only [Act.put, List.setIfInBounds_toArray, List.set_cons_zero, List.set_cons_succ, i64_w, i32_w]
        rfl
      refine last_ (i := 14) (N := some 43) #[true, true, true, true, true, true, true, true, true, true, true, true, true, true, true, false, false, false] rfl rfl (one_of HT_.out (by kernel_rfl)) (by decide) (fun K hK => ?_)
      refine goes_ Tryz.func104 (by kernel_rfl) rfl #[.slice A n c, .int .i64 (pos s.rs key), .slice (some ⟨w1.heap.size, 0, none⟩) 1 1] (by rfl) rfl rfl (by simp only [List.map_toArray, List.map_cons, List.map_nil]; rfl) ?_
      refine (HI.out _ _ HRow.out HBs.out HVb.out HNe.out).mono ?_
      rintro e wa ⟨v', rfl, hrow, hgr⟩
      obtain ⟨A', c', rfl⟩ : ∃ A' c', v' = .slice A' (n + 1) c' := by obtain ⟨A', c', h⟩ := hrow.len; exact ⟨A', c', by rw [h]; congr 1; simp; omega⟩
      have HR5 := Lib.hid hrow
      have HG5 := Lib.hid hgr
      have hb5 := HBlk.out wa hgr
      have c5 := blk_cell hb5 1
      have f5 := blk_frozen hb5 1
      have HB5 := Lib.hid hb5
      clear hrow hgr hb5
      refine ⟨_, rfl, ?_⟩
      refine hK.out _ _ ?_
      clear hK K
      refine norm_ (a' := ?_) ?_ ?_
      rotate_left
      · show Act.put _ (some 43) _ = _
        simp only [Act.put, List.setIfInBounds_toArray, List.set_cons_zero, List.set_cons_succ, i64_w, i32_w]
        rfl
      refine pure_ (i := 15) (N := some 44) (v := ?_) (a' := ?_) #[true, true, true, true, true, true, true, true, true, true, true, true, true, true, true, true, false, false] rfl rfl (any_of HT_.out (by kernel_rfl)) (fun _ _ _ h => h) (Or.inl ⟨by rfl, ?_⟩) ?_ ?_
      rotate_left
      · intro w'
        go_simp
        with_reducible rfl
      rotate_left
      · simp only [Act.put, List.setIfInBounds_toArray, List.set_cons_zero, List.set_cons_succ, i64_w, i32_w]
        rfl
      refine pure_ (i := 16) (N := some 45) (v := ?_) (a' := ?_) #[true, true, true, true, true, true, true, true, true, true, true, true, true, true, true, true, true, false] rfl rfl (any_of HT_.out (by kernel_rfl)) (fun _ _ _ h => h) (Or.inl ⟨by rfl, ?_⟩) ?_ ?_
      rotate_left
      · intro w'
        go_simp
        with_reducible rfl
      rotate_left
      · simp only [Act.put, List.setIfInBounds_toArray, List.set_cons_zero, List.set_cons_succ, i64_w, i32_w]
        rfl
      refine last_ (i := 17) (N := none) #[true, true, true, true, true, true, true, true, true, true, true, true, true, true, true, true, true, true] rfl rfl (one_of HT_.out (by kernel_rfl)) (by decide) (fun K hK => ?_)
      refine skip_ (w1 := ?_) (by rfl) rfl ?_ ?_
      rotate_left
      · go_simp
        rfl
      refine hK.out _ _ ?_
      clear hK K
      refine done_ (done_of HT_.out (by kernel_rfl)) ?_
      clear c2 c3 c5 f5
      refine inb_gen (fun W => W.heap[g]? = some (.cells #[.int .i64 s.most, .slice A' (n + 1) c', .int .i64 s.clock] 184 (0, 0)) ∧ Row W base (.slice A' (n + 1) c') (s.rs.take (pos s.rs key) ++ ⟨key, d, s.clock⟩ :: s.rs.drop (pos s.rs key)) ∧ Kp base g w W) ⟨set1 HB5.out _, HR5.out.setG HB5.out ⟨g, 1, none⟩ rfl _, ?kp⟩ ?_
      case kp => exact (Kp.of_bel (HB1.out.trans ((Bel.drew w1).trans (Bel.alloc w1.drew _)))).trans ((Kp.of_grown HG5.out HRow.out).trans (Kp.of_set ⟨g, 1, none⟩ rfl _))
      rintro W6 ⟨h6, hr6, hk6⟩
      have c3 := blk_cell h6 2
      have f3 := blk_frozen h6 2
      have H6 := Lib.hid h6
      have HR6 := Lib.hid hr6
      have HK6 := Lib.hid hk6
      clear h6 hr6 hk6 HR5 HG5 HB5 HNe HRow HVb HBs HBlk HI H1 HB1
      go_wp2_with fail
      go_ret
      exact ⟨_, rfl, ⟨set2 H6.out _, HR6.out.setG H6.out ⟨g, 2, none⟩ rfl _⟩, HK6.out.trans (Kp.of_set ⟨g, 2, none⟩ rfl _)⟩
    · have hE : putE s key d = 10 := by unfold putE; rw [if_neg hr, if_neg h64, if_neg (by simp [hh]), if_pos hfu]
      have hS : putS s key d = s := by unfold putS; rw [hE]; simp
      rw [hfu] at KF
      rw [hE, hS]
      clear hE hS hr hin
      go_enter Tryz.func49, Tryz.ntmps49
      go_wp2_with fail
      refine K.out.mono ?_
      rintro e w0 ⟨rfl, hb0⟩
      have H0 := Lib.hid (H.out.bel hb0)
      have HB0 := Lib.hid hb0
      clear hb0 K H
      go_wp2_with fail
      refine (KF.out _ H0.out).mono ?_
      rintro e w1 ⟨rfl, hb1⟩
      have HF := Lib.hid (And.intro (H0.out.bel hb1) (HB0.out.trans hb1))
      clear hb1 KF H0 HB0
      go_wp2_with fail
      go_ret
      first | exact ⟨v, rfl, HF.out.1, Kp.of_bel HF.out.2⟩ | exact ⟨rfl, ⟨v, HF.out.1⟩, Kp.of_bel HF.out.2⟩
  · have hi := hin hh
    have hE : putE s key d = 0 := by unfold putE; rw [if_neg hr, if_neg h64, if_pos hh]
    have hS : putS s key d = { s with rs := s.rs.set (pos s.rs key) ⟨(nth s.rs (pos s.rs key)).f0, d, (nth s.rs (pos s.rs key)).f2⟩, clock := s.clock + 1 } := by unfold putS putR; rw [if_pos hE, if_pos hh]
    rw [hE, hS]
    rw [hh] at K
    clear hE hS hr hin KF
    generalize hpp : pos s.rs key = i at *
    go_enter Tryz.func49, Tryz.ntmps49
    go_wp2_with fail
    refine K.out.mono ?_
    rintro e w1 ⟨rfl, hb1⟩
    have H1 := Lib.hid (H.out.bel hb1)
    have HB1 := Lib.hid hb1
    clear hb1 K H
    obtain ⟨A, c, hv, hc, hR⟩ := H1.out.row.reads
    obtain ⟨ad, hA, y0, y1, y2⟩ := hR i hi
    subst hA
    subst hv
    have c2 := blk_cell H1.out.blk 1
    obtain ⟨g', c'', e2, hfz, hrw, hgr⟩ := H1.out.row.setW hi d
    simp only [Value.slice.injEq, Option.some.injEq] at e2
    have hp : (⟨(ad.add (i * 3)).block, (ad.add (i * 3)).off + 1, none⟩ : Addr) = ⟨g', i * 3 + 1, none⟩ := by rw [e2.1, cells_add]; simp
    rw [← hp] at hfz hrw hgr
    have hb4 := grown_blk hgr H1.out.row H1.out.blk
    have HX : Hid ((w1.setCell ⟨(ad.add (i * 3)).block, (ad.add (i * 3)).off + 1, none⟩ (.string d)).heap[g]? = some (.cells #[.int .i64 s.most, .slice (some ad) s.rs.length c, .int .i64 s.clock] 184 (0, 0)) ∧ Row (w1.setCell ⟨(ad.add (i * 3)).block, (ad.add (i * 3)).off + 1, none⟩ (.string d)) base (.slice (some ad) s.rs.length c) (s.rs.set i ⟨(nth s.rs i).f0, d, (nth s.rs i).f2⟩) ∧ Kp base g w (w1.setCell ⟨(ad.add (i * 3)).block, (ad.add (i * 3)).off + 1, none⟩ (.string d))) := Lib.hid ⟨hb4, hrw, (Kp.of_bel HB1.out).trans (Kp.of_grown hgr H1.out.row)⟩
    have c5 := blk_cell hb4 2
    have f5 := blk_frozen hb4 2
    clear hrw hgr hp e2 hR y0 y2 H1 HB1 hb4
    go_wp2_with fail
    go_ret
    have hfin : IsQ (_ : World) base g (.slice (some ad) s.rs.length c) { s with rs := s.rs.set i ⟨(nth s.rs i).f0, d, (nth s.rs i).f2⟩, clock := s.clock + 1 } := ⟨set2 HX.out.1 (.int .i64 (s.clock + 1)), HX.out.2.1.setG HX.out.1 ⟨g, 2, none⟩ rfl _⟩
    have hk := HX.out.2.2.trans (Kp.of_set ⟨g, 2, none⟩ rfl (.int .i64 (s.clock + 1)) : Kp base g _ _)
    first | exact ⟨_, rfl, hfin, hk⟩ | exact ⟨rfl, ⟨_, hfin⟩, hk⟩
end Go.Proofs.YtgpkpheejefiiaaGreatDoor.Q20
end
