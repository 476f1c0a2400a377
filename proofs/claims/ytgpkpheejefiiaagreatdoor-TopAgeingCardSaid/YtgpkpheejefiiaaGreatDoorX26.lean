/- Lift: what it holds; its calls that only read. | Lift: a key is added, dropped. | Lift: a key is dropped; who is late, who is chosen. -/
import Derived.Test.YtgpkpheejefiiaaGreatDoorX25
import Derived.Deep.DeepCutAuto
import Derived.Deep.RegionHeld3
import Derived.RegionTactic
import Derived.ChangeAlike
import Derived.BigRegion
import Derived.Test.YtgpkpheejefiiaaGreatDoorWLast
import Derived.Test.YtgpkpheejefiiaaGreatDoorWTab
section
set_option linter.unusedVariables false
set_option linter.unusedSimpArgs false
namespace Go.Proofs.YtgpkpheejefiiaaGreatDoor.L21
set_option maxRecDepth 100000
open Go.RowKit
structure LS where
  age : Int
  head : Int
  added : Int
  rs : List El
structure IsL (w : World) (base g : Nat) (v : Value) (s : LS) : Prop where
  blk : w.heap[g]? = some (.cells #[.int .i64 s.age, .int .i64 s.head, v, .int .i64 s.added] 179 (0, 0))
  row : Row w base v s.rs
theorem IsL.bel {w w1 : World} {base g : Nat} {v : Value} {s : LS} (h : IsL w base g v s) (k : Bel w w1) : IsL w1 base g v s := ⟨blk_below h.blk k, h.row.bel k⟩
theorem ptr23 : Tryz.prog.underlying 91 = some (.pointer 179) := by kernel_rfl
theorem nil23 (w : World) (p : Option Addr) : (binOp .eql 91 (.pointer p) (.pointer none)).run Tryz.prog w = .ok (.bool p.isNone) w := run_eql_pointer_nil (P := Tryz.prog) w 91 p ptr23
abbrev PT (g : Nat) : Value := .pointer (some ⟨g, 0, none⟩)
theorem newL (age : Int) (w : World) : Calls Tryz.prog 83 #[.int .i64 age] w fun e w' => e = .returned (PT w.heap.size) ∧ Bel w w' ∧ w.heap.size < w'.heap.size ∧ ∀ base, IsL w' base w.heap.size (.slice none 0 0) ⟨max 1 (min age 65536), 0, 0, []⟩ := by
  go_enter Tryz.func83, Tryz.ntmps83
  go_wp2_with fail
  go_ret
  exact ⟨rfl, Bel.alloc _ _, by simp, fun base => ⟨heap_alloc_new _ _, Row.nil _ _⟩⟩
theorem lenL (w : World) (base g : Nat) (v : Value) (s : LS) (h : IsL w base g v s) : Calls Tryz.prog 86 #[PT g] w fun e w' => e = .returned (.int .i64 s.rs.length) ∧ Bel w w' := by
  obtain ⟨A, c, rfl⟩ := h.row.len
  have h2 := blk_cell h.blk 2
  have hn := nil23
  clear h
  go_enter Tryz.func86, Tryz.ntmps86
  go_wp2_with fail
  go_ret
  exact ⟨rfl, Bel.refl _⟩
theorem lenN (w : World) : Calls Tryz.prog 86 #[.pointer none] w fun e w' => e = .returned (.int .i64 0) ∧ Bel w w' := by
  have hn := nil23
  go_enter Tryz.func86, Tryz.ntmps86
  go_wp2_with fail
  go_ret
  exact ⟨rfl, Bel.refl _⟩
theorem findL (w : World) (base g : Nat) (v : Value) (s : LS) (key : Int) (hs : Rising s.rs) (hlen : s.rs.length ≤ 1000000) (h : IsL w base g v s) :
    Calls Tryz.prog 96 #[PT g, .int .i64 key] w fun e w' => ∃ i : Nat, e = .returned (.tuple #[.int .i64 i, .bool (isAt s.rs key i)]) ∧ FindAt s.rs key i ∧ Bel w w' := by
  obtain ⟨A, c, rfl, hc, hR⟩ := h.row.reads
  have h2 := blk_cell h.blk 2
  have K := Lib.hid (bsf A c s.rs key hs hlen w hR)
  clear h hR hs
  go_enter Tryz.func96, Tryz.ntmps96
  go_wp2_with fail
  refine K.out.mono ?_
  rintro e w1 ⟨i, rfl, hf, hb⟩
  have HF := Lib.hid (And.intro hf hb)
  clear hf hb K
  go_wp2_with fail
  go_ret2
  exact ⟨i, rfl, HF.out.1, HF.out.2⟩
theorem find_unique {l : List El} {t : Int} {i j : Nat} (h : FindAt l t i) (k : FindAt l t j) : i = j := by
  obtain ⟨h1, h2, h3⟩ := h
  obtain ⟨k1, k2, k3⟩ := k
  rcases Nat.lt_trichotomy i j with hl | rfl | hl
  · have := k2 i hl; have := h3 i (Nat.le_refl _) (by omega); omega
  · rfl
  · have := h2 j hl; have := k3 j (Nat.le_refl _) (by omega); omega
/-- The place of a key. -/
def pos : List El → Int → Nat
  | [], _ => 0
  | x :: r, t => if x.f0 < t then pos r t + 1 else 0
theorem rising_tail {x : El} {r : List El} (h : Rising (x :: r)) : Rising r := fun i j hij hj => by
  have := h (i + 1) (j + 1) (by omega) (by simp; omega)
  simpa [nth] using this
theorem pos_find : ∀ (l : List El) (t : Int), Rising l → FindAt l t (pos l t) := by
  intro l t
  induction l with
  | nil => intro _; exact ⟨by simp [pos], fun j hj => by simp [pos] at hj, fun j _ hj => by simp at hj⟩
  | cons x r ih =>
    intro h
    obtain ⟨h1, h2, h3⟩ := ih (rising_tail h)
    unfold pos
    by_cases hx : x.f0 < t
    · rw [if_pos hx]
      refine ⟨by simp; omega, fun j hj => ?_, fun j hj hj2 => ?_⟩
      · cases j with
        | zero => exact hx
        | succ j => have := h2 j (by omega); simpa [nth] using this
      · cases j with
        | zero => omega
        | succ j => have := h3 j (by omega) (by simpa using hj2); simpa [nth] using this
    · rw [if_neg hx]
      refine ⟨by omega, fun j hj => by omega, fun j _ hj2 => ?_⟩
      cases j with
      | zero => simp [nth]; omega
      | succ j =>
        have := h 0 (j + 1) (by omega) hj2
        simp [nth] at this ⊢
        omega
theorem findP (w : World) (base g : Nat) (v : Value) (s : LS) (key : Int) (hs : Rising s.rs) (hlen : s.rs.length ≤ 1000000) (h : IsL w base g v s) :
    Calls Tryz.prog 96 #[PT g, .int .i64 key] w fun e w' => e = .returned (.tuple #[.int .i64 (pos s.rs key), .bool (isAt s.rs key (pos s.rs key))]) ∧ Bel w w' := by
  refine (findL w base g v s key hs hlen h).mono ?_
  rintro e w' ⟨i, rfl, hf, hb⟩
  obtain rfl := find_unique hf (pos_find s.rs key hs)
  exact ⟨rfl, hb⟩
/-- Does the key wait? -/
def has (s : LS) (key : Int) : Bool := isAt s.rs key (pos s.rs key)
end Go.Proofs.YtgpkpheejefiiaaGreatDoor.L21
end
section
set_option linter.unusedVariables false
set_option linter.unusedSimpArgs false
namespace Go.Proofs.YtgpkpheejefiiaaGreatDoor.L21
set_option maxRecDepth 100000
open Go.RowKit Go.Proofs.YtgpkpheejefiiaaGreatDoorW.PrintLast
def addT.T10 : Bool × List (List Nat × List Nat) := (true, [([], []), ([], []), ([1], [1]), ([2], [2]), ([3], [3]), ([], []), ([], []), ([], []), ([7], [7]), ([8], [8]), ([9], [9]), ([6, 10], [6, 10]), ([11], [11]), ([4, 5, 12], [4, 5, 12]), ([0, 0, 1, 2, 3, 4, 5, 6, 7, 8, 9, 10, 11, 12, 13], [0]), ([14, 0, 1, 2, 3, 4, 5, 6, 7, 8, 9, 10, 11, 12, 13], [14]), ([15, 13, 13, 0, 1, 2, 3, 4, 5, 6, 7, 8, 9, 10, 11, 12, 13], [13, 15])])
def addT.B10 : List Nat := [0, 0, 2, 6, 14, 0, 0, 0, 128, 384, 896, 1984, 4032, 8190, 16383, 32767, 65535]
theorem addT.tab10 : rtab .any (opsOf Tryz.f41 10) = addT.T10 := by kernel_rfl
theorem addT.bits10 : waitsOk addT.T10.2 addT.B10 = true := by kernel_rfl
theorem then_gen {K : Act → World → Prop} {Q : Exit → Act → World → Prop} {x : Exit} {a : Act} {w : World} (Φ : World → Prop) (hΦ : Φ w) (h : ∀ W, Φ W → Exit.then K Q x a W) : Exit.then K Q x a w := h w hΦ
/-- What may be: keys rise, not too many, small numbers. -/
structure Ok (s : LS) : Prop where
  up : Rising s.rs
  len : s.rs.length ≤ 256
  key : ∀ x ∈ s.rs, 0 ≤ x.f0 ∧ x.f0 < 1099511627776
  age : 1 ≤ s.age ∧ s.age ≤ 65536
  wt : ∀ x ∈ s.rs, 0 ≤ x.f1
  add : 0 ≤ s.added
  came : ∀ x ∈ s.rs, 0 ≤ x.f2 ∧ x.f2 < s.added
/-- Small numbers. -/
def Small (B : Int) (s : LS) : Prop := s.added ≤ B ∧ ∀ x ∈ s.rs, x.f1 ≤ B
def addE (s : LS) (key : Int) : Int := if key < 0 ∨ 1099511627776 ≤ key then 3 else if has s key = true then 11 else if 256 ≤ s.rs.length then 10 else 0
def addS (s : LS) (key : Int) : LS := if addE s key = 0 then { s with rs := s.rs.take (pos s.rs key) ++ ⟨key, 0, s.added⟩ :: s.rs.drop (pos s.rs key), added := s.added + 1 } else s
theorem set2 {w : World} {g : Nat} {a b c d : Value} (h : w.heap[g]? = some (.cells #[a, b, c, d] 179 (0, 0))) (u : Value) : (w.setCell ⟨g, 2, none⟩ u).heap[g]? = some (.cells #[a, b, u, d] 179 (0, 0)) := by
  rw [setCell_eq_setRow w g 2 _ 179 (0, 0) u h]
  exact setRow_heap w g _ _ 179 (0, 0) h
theorem set3 {w : World} {g : Nat} {a b c d : Value} (h : w.heap[g]? = some (.cells #[a, b, c, d] 179 (0, 0))) (u : Value) : (w.setCell ⟨g, 3, none⟩ u).heap[g]? = some (.cells #[a, b, c, u] 179 (0, 0)) := by
  rw [setCell_eq_setRow w g 3 _ 179 (0, 0) u h]
  exact setRow_heap w g _ _ 179 (0, 0) h
theorem set1 {w : World} {g : Nat} {a b c d : Value} (h : w.heap[g]? = some (.cells #[a, b, c, d] 179 (0, 0))) (u : Value) : (w.setCell ⟨g, 1, none⟩ u).heap[g]? = some (.cells #[a, u, c, d] 179 (0, 0)) := by
  rw [setCell_eq_setRow w g 1 _ 179 (0, 0) u h]
  exact setRow_heap w g _ _ 179 (0, 0) h
theorem Row.setG {w : World} {base g : Nat} {v : Value} {l : List El} {cs : Array Value} (h : Row w base v l) (hg : w.heap[g]? = some (.cells cs 179 (0, 0))) (p : Addr) (hp : p.block = g) (u : Value) : Row (w.setCell p u) base v l := by
  refine World.ownsRow.kept (row := some g) h ⟨rfl, rfl, rfl, (((Below.refl 0 w).setCell (p := p) (Nat.zero_le _) u).size), fun k hk hne => Below.heap_setCell w p u k (by rw [hp]; exact fun e => hne (by rw [e]))⟩ ?_
  cases hv : v.ownBlock with
  | none => exact .inl rfl
  | some k =>
    refine .inr fun e => ?_
    obtain ⟨_, cs', h2⟩ := h.blk hv
    rw [Option.some.inj e, hg] at h2
    simp at h2
set_option maxHeartbeats 8000000 in
set_option maxRecDepth 100000 in
theorem addL (w : World) (base g : Nat) (v : Value) (s : LS) (key : Int) (hok : Ok s) (hsm : s.added ≤ 1000000) (hb : base ≤ w.heap.size) (h : IsL w base g v s) :
    Calls Tryz.prog 41 #[PT g, .int .i64 key] w fun e w' => ∃ v', e = .returned (.int .i64 (addE s key)) ∧ IsL w' base g v' (addS s key) ∧ Kp base g w w' := by
  have K := Lib.hid (findP w base g v s key hok.up (by have := hok.len; omega) h)
  change Hid (Calls Tryz.prog 96 #[PT g, .int .i64 key] w fun e w' => e = .returned (.tuple #[.int .i64 (pos s.rs key), .bool (has s key)]) ∧ Bel w w') at K
  have H := Lib.hid h
  have hn := nil23
  have hlen := hok.len
  have hadd := hok.add
  clear h
  by_cases hr : key < 0 ∨ 1099511627776 ≤ key
  · have hE : addE s key = 3 := by unfold addE; rw [if_pos hr]
    have hS : addS s key = s := by unfold addS; rw [hE]; simp
    rw [hE, hS]
    clear hE hS K
    by_cases h0 : key < 0
    · have d0 : decide (key < 0) = true := by simpa using h0
      go_enter Tryz.func41, Tryz.ntmps41
      go_wp2_with fail
      go_ret
      first | exact ⟨v, rfl, H.out, Kp.refl _ _ _⟩ | exact ⟨rfl, ⟨v, H.out⟩, Kp.refl _ _ _⟩
    · have d0 : decide (key < 0) = false := by simpa using h0
      have d1 : decide (1099511627776 ≤ key) = true := by simp; omega
      have d2 : decide (key ≥ 1099511627776) = true := by simp; omega
      go_enter Tryz.func41, Tryz.ntmps41
      go_wp2_with fail
      go_ret
      first | exact ⟨v, rfl, H.out, Kp.refl _ _ _⟩ | exact ⟨rfl, ⟨v, H.out⟩, Kp.refl _ _ _⟩
  have d0 : decide (key < 0) = false := by simp; omega
  have d1 : decide (1099511627776 ≤ key) = false := by simp; omega
  have d2 : decide (key ≥ 1099511627776) = false := by simp; omega
  cases hh : has s key
  · rw [hh] at K
    by_cases hf : 256 ≤ s.rs.length
    · have hE : addE s key = 10 := by unfold addE; rw [if_neg hr, if_neg (by simp [hh]), if_pos hf]
      have hS : addS s key = s := by unfold addS; rw [hE]; simp
      rw [hE, hS]
      clear hE hS
      have hlf : s.rs.length = 256 := by omega
      obtain ⟨A, c, hv⟩ := H.out.row.len
      go_enter Tryz.func41, Tryz.ntmps41
      go_wp2_with fail
      refine K.out.mono ?_
      rintro e w1 ⟨rfl, hb1⟩
      have H1 := H.out.bel hb1
      have c2 := blk_cell H1.blk 2
      rw [hv, hlf] at c2
      have HF := Lib.hid (And.intro H1 hb1)
      clear H1 hb1 K H
      go_wp2_with fail
      go_ret
      first | exact ⟨v, rfl, HF.out.1, Kp.of_bel HF.out.2⟩ | exact ⟨rfl, ⟨v, HF.out.1⟩, Kp.of_bel HF.out.2⟩
    · have hE : addE s key = 0 := by unfold addE; rw [if_neg hr, if_neg (by simp [hh]), if_neg hf]
      have hS : addS s key = { s with rs := s.rs.take (pos s.rs key) ++ ⟨key, 0, s.added⟩ :: s.rs.drop (pos s.rs key), added := s.added + 1 } := by unfold addS; rw [if_pos hE]
      have hpl : pos s.rs key ≤ s.rs.length := (pos_find s.rs key hok.up).1
      have HI := Lib.hid (fun w1 vb (hr : Row w1 base v s.rs) (hb : base ≤ w1.heap.size) (hvb : w1.heap[vb]? = some (.cells (enc ⟨key, 0, s.added⟩).toArray 176 (0, 0))) (hne : some vb ≠ v.ownBlock) => insRow w1 base vb (pos s.rs key) v s.rs ⟨key, 0, s.added⟩ hr hpl hb (by omega) hvb hne)
      rw [hE, hS]
      clear hE hS hr hok
      obtain ⟨A, c, rfl⟩ := H.out.row.len
      generalize hrs : s.rs.length = n at *
      have hlt : decide ((n : Int) ≥ 256) = false := by simp; omega
      have hlt' : decide (256 ≤ (n : Int)) = false := by simp; omega
      have hw1 : IntKind.i64.wrap (s.added + 1) = s.added + 1 := w64i (by omega) (by omega)
      go_enter Tryz.func41, Tryz.ntmps41
      go_wp2_with fail
      refine K.out.mono ?_
      rintro e w1 ⟨rfl, hb1⟩
      have H1 := Lib.hid (H.out.bel hb1)
      have HB1 := Lib.hid hb1
      have c2 := blk_cell H1.out.blk 2
      have c3 := blk_cell H1.out.blk 3
      have hne : some w1.heap.size ≠ (Value.slice A n c).ownBlock := fun e => by
        obtain ⟨_, cs, h2⟩ := H1.out.row.blk e.symm
        have := blk_lt h2
        omega
      have HNe := Lib.hid hne
      have HRow : Hid (Row (w1.drew.alloc (.cells #[.int .i64 key, .int .i64 0, .int .i64 s.added] 176)) base (.slice A n c) s.rs) := Lib.hid (H1.out.row.bel ((Bel.drew _).trans (Bel.alloc _ _)))
      have HVb : Hid ((w1.drew.alloc (.cells #[.int .i64 key, .int .i64 0, .int .i64 s.added] 176)).heap[w1.heap.size]? = some (.cells (enc ⟨key, 0, s.added⟩).toArray 176 (0, 0))) := Lib.hid (heap_alloc_new w1.drew _)
      have HBs : Hid (base ≤ (w1.drew.alloc (.cells #[.int .i64 key, .int .i64 0, .int .i64 s.added] 176)).heap.size) := Lib.hid (Nat.le_trans hb ((HB1.out.trans (Bel.drew w1)).trans (Bel.alloc _ _)).size)
      have HBlk : Hid (∀ wa, (w1.drew.alloc (.cells #[.int .i64 key, .int .i64 0, .int .i64 s.added] 176)).grownBy wa (Value.slice A n c).ownBlock → wa.heap[g]? = some (.cells #[.int .i64 s.age, .int .i64 s.head, .slice A n c, .int .i64 s.added] 179 (0, 0))) := Lib.hid (fun wa hg => by
        have h1 := blk_below H1.out.blk ((Bel.drew w1).trans (Bel.alloc w1.drew (.cells #[.int .i64 key, .int .i64 0, .int .i64 s.added] 176)))
        exact (hg.block g (blk_lt h1) (fun e => by
          obtain ⟨_, cs, h2⟩ := H1.out.row.blk e.symm
          rw [H1.out.blk] at h2
          simp at h2)).trans h1)
      clear hb1 K H hne
      go_wp2_with fail
      refine start_ (n := 17) (S := fun w' => w'.cell? ⟨g, 2, none⟩ = some (.slice A n c) ∧ w'.cell? ⟨g, 3, none⟩ = some (.int .i64 s.added)) (ds := [13, 16]) #[false, false, false, false, false, false, false, false, false, false, false, false, false, false, false, false, false] (by kernel_rfl) rfl rfl (⟨c2, c3⟩) (fun hHeld => ?_)
      refine with_tabW addT.tab10 addT.bits10 (fun HT_ HW_ => ?_)
      refine pure_ (i := 0) (N := some 32) (v := ?_) (a' := ?_) #[true, false, false, false, false, false, false, false, false, false, false, false, false, false, false, false, false] rfl rfl (any_of HT_.out (by kernel_rfl)) (fun _ _ _ h => h) (Or.inl ⟨by rfl, ?_⟩) ?_ ?_
      rotate_left
      · intro w'
        go_simp
        with_reducible rfl
      rotate_left
      · simp only [Act.put, List.setIfInBounds_toArray, List.set_cons_zero, List.set_cons_succ, i64_w, i32_w]
        rfl
      refine pure_ (i := 1) (N := some 33) (v := ?_) (a' := ?_) #[true, true, false, false, false, false, false, false, false, false, false, false, false, false, false, false, false] rfl rfl (any_of HT_.out (by kernel_rfl)) (fun _ _ _ h => h) (Or.inl ⟨by rfl, ?_⟩) ?_ ?_
      rotate_left
      · intro w'
        go_simp
        with_reducible rfl
      rotate_left
      · simp only [Act.put, List.setIfInBounds_toArray, List.set_cons_zero, List.set_cons_succ, i64_w, i32_w]
        rfl
      refine pure_ (i := 2) (N := some 34) (v := ?_) (a' := ?_) #[true, true, true, false, false, false, false, false, false, false, false, false, false, false, false, false, false] rfl rfl (any_of HT_.out (by kernel_rfl)) (fun _ _ _ h => h) (Or.inl ⟨by rfl, ?_⟩) ?_ ?_
      rotate_left
      · intro w'
        go_simp
        with_reducible rfl
      rotate_left
      · simp only [Act.put, List.setIfInBounds_toArray, List.set_cons_zero, List.set_cons_succ, i64_w, i32_w]
        rfl
      refine pure_ (i := 3) (N := some 35) (v := ?_) (a' := ?_) #[true, true, true, true, false, false, false, false, false, false, false, false, false, false, false, false, false] rfl rfl (any_of HT_.out (by kernel_rfl)) (fun _ _ _ h => h) (Or.inl ⟨by rfl, ?_⟩) ?_ ?_
      rotate_left
      · intro w'
        go_simp
        with_reducible rfl
      rotate_left
      · simp only [Act.put, List.setIfInBounds_toArray, List.set_cons_zero, List.set_cons_succ, i64_w, i32_w]
        rfl
      refine pure_ (i := 5) (N := some 37) (v := ?_) (a' := ?_) #[true, true, true, true, false, true, false, false, false, false, false, false, false, false, false, false, false] rfl rfl (any_of HT_.out (by kernel_rfl)) (fun _ _ _ h => h) (Or.inl ⟨by rfl, ?_⟩) ?_ ?_
      rotate_left
      · intro w'
        go_simp
        with_reducible rfl
      rotate_left
      · simp only [Act.put, List.setIfInBounds_toArray, List.set_cons_zero, List.set_cons_succ, i64_w, i32_w]
        rfl
      refine pure_ (i := 6) (N := some 38) (v := ?_) (a' := ?_) #[true, true, true, true, false, true, true, false, false, false, false, false, false, false, false, false, false] rfl rfl (any_of HT_.out (by kernel_rfl)) (fun _ _ _ h => h) (Or.inl ⟨by rfl, ?_⟩) ?_ ?_
      rotate_left
      · intro w'
        go_simp
        with_reducible rfl
      rotate_left
      · simp only [Act.put, List.setIfInBounds_toArray, List.set_cons_zero, List.set_cons_succ, i64_w, i32_w]
        rfl
      refine pure_ (i := 7) (N := some 39) (v := ?_) (a' := ?_) #[true, true, true, true, false, true, true, true, false, false, false, false, false, false, false, false, false] rfl rfl (any_of HT_.out (by kernel_rfl)) (fun _ _ _ h => h) (Or.inl ⟨by rfl, ?_⟩) ?_ ?_
      rotate_left
      · intro w'
        go_simp
        with_reducible rfl
      rotate_left
      · simp only [Act.put, List.setIfInBounds_toArray, List.set_cons_zero, List.set_cons_succ, i64_w, i32_w]
        rfl
      refine pure_ (i := 8) (N := some 40) (v := ?_) (a' := ?_) #[true, true, true, true, false, true, true, true, true, false, false, false, false, false, false, false, false] rfl rfl (any_of HT_.out (by kernel_rfl)) (fun _ _ _ h => h) (Or.inl ⟨by rfl, ?_⟩) ?_ ?_
      rotate_left
      · intro w'
        go_simp
        with_reducible rfl
      rotate_left
      · simp only [Act.put, List.setIfInBounds_toArray, List.set_cons_zero, List.set_cons_succ, i64_w, i32_w]
        rfl
      refine pure_ (i := 9) (N := some 41) (v := ?_) (a' := ?_) #[true, true, true, true, false, true, true, true, true, true, false, false, false, false, false, false, false] rfl rfl (any_of HT_.out (by kernel_rfl)) (fun _ _ _ h => h) (Or.inl ⟨by rfl, ?_⟩) ?_ ?_
      rotate_left
      · intro w'
        go_simp
        with_reducible rfl
      rotate_left
      · simp only [Act.put, List.setIfInBounds_toArray, List.set_cons_zero, List.set_cons_succ, i64_w, i32_w]
        rfl
      refine take_ (i := 4) (N := some 36) (v := ?_) (a' := ?_) #[true, true, true, true, true, true, true, true, true, true, false, false, false, false, false, false, false] rfl rfl (take_ofW HT_.out HW_.out (by kernel_rfl)) (fun _ _ _ h => h) (Or.inl ⟨by rfl, ?_⟩) hHeld ?_ ?_
      rotate_left
      · rintro w' ⟨s0, s1⟩
        go_simp
        with_reducible rfl
      rotate_left
      · simp only [Act.put, List.setIfInBounds_toArray, List.set_cons_zero, List.set_cons_succ, i64_w, i32_w]
        rfl
      refine take_ (i := 10) (N := some 42) (v := ?_) (a' := ?_) #[true, true, true, true, true, true, true, true, true, true, true, false, false, false, false, false, false] rfl rfl (take_ofW HT_.out HW_.out (by kernel_rfl)) (fun _ _ _ h => h) (Or.inl ⟨by rfl, ?_⟩) hHeld ?_ ?_
      rotate_left
      · rintro w' ⟨s0, s1⟩
        go_simp
        with_reducible rfl
      rotate_left
      · simp only [Act.put, List.setIfInBounds_toArray, List.set_cons_zero, List.set_cons_succ, i64_w, i32_w]
        rfl
      refine pure_ (i := 11) (N := some 43) (v := ?_) (a' := ?_) #[true, true, true, true, true, true, true, true, true, true, true, true, false, false, false, false, false] rfl rfl (any_of HT_.out (by kernel_rfl)) (fun _ _ _ h => h) (Or.inl ⟨by rfl, ?_⟩) ?_ ?_
      rotate_left
      · intro w'
        go_simp
        with_reducible rfl
      rotate_left
      · simp only [Act.put, List.setIfInBounds_toArray, List.set_cons_zero, List.set_cons_succ, i64_w, i32_w]
        rfl
      refine one_ (i := 12) (N := some 44) #[true, true, true, true, true, true, true, true, true, true, true, true, true, false, false, false, false] rfl rfl (one_of HT_.out (by kernel_rfl)) (by decide) (fun K hK => ?_)
      refine value_ (w1 := ?_) (v := ?_) (by rfl) rfl ?_ ?_
      rotate_left 2
      · go_simp
        constructor
        · rfl
        · rfl
      refine hK.out _ _ (⟨cellB (Bel.alloc _ _) hHeld.1, cellB (Bel.alloc _ _) hHeld.2⟩) (fun hHeld => ?_)
      clear hK K
      refine norm_ (a' := ?_) ?_ ?_
      rotate_left
      · show Act.put _ (some 44) _ = _
        simp only [Act.put, List.setIfInBounds_toArray, List.set_cons_zero, List.set_cons_succ, i64_w, i32_w]
        rfl
      refine last_ (i := 13) (N := some 45) #[true, true, true, true, true, true, true, true, true, true, true, true, true, true, false, false, false] rfl rfl (one_of HT_.out (by kernel_rfl)) (by decide) (fun K hK => ?_)
      refine goes_ Tryz.func97 (by kernel_rfl) rfl #[.slice A n c, .int .i64 (pos s.rs key), .slice (some ⟨w1.heap.size, 0, none⟩) 1 1] (by rfl) rfl rfl (by simp only [List.map_toArray, List.map_cons, List.map_nil]; rfl) ?_
      refine (HI.out _ _ HRow.out HBs.out HVb.out HNe.out).mono ?_
      rintro e wa ⟨v', rfl, hrow, hgr⟩
      obtain ⟨A', c', rfl⟩ : ∃ A' c', v' = .slice A' (n + 1) c' := by obtain ⟨A', c', h⟩ := hrow.len; exact ⟨A', c', by rw [h]; congr 1; simp; omega⟩
      have HR5 := Lib.hid hrow
      have HG5 := Lib.hid hgr
      have hb5 := HBlk.out wa hgr
      have c5 := blk_cell hb5 2
      have f5 := blk_frozen hb5 2
      have HB5 := Lib.hid hb5
      clear hrow hgr hb5
      refine ⟨_, rfl, ?_⟩
      refine hK.out _ _ ?_
      clear hK K
      refine norm_ (a' := ?_) ?_ ?_
      rotate_left
      · show Act.put _ (some 45) _ = _
        simp only [Act.put, List.setIfInBounds_toArray, List.set_cons_zero, List.set_cons_succ, i64_w, i32_w]
        rfl
      refine pure_ (i := 14) (N := some 46) (v := ?_) (a' := ?_) #[true, true, true, true, true, true, true, true, true, true, true, true, true, true, true, false, false] rfl rfl (any_of HT_.out (by kernel_rfl)) (fun _ _ _ h => h) (Or.inl ⟨by rfl, ?_⟩) ?_ ?_
      rotate_left
      · intro w'
        go_simp
        with_reducible rfl
      rotate_left
      · simp only [Act.put, List.setIfInBounds_toArray, List.set_cons_zero, List.set_cons_succ, i64_w, i32_w]
        rfl
      refine pure_ (i := 15) (N := some 47) (v := ?_) (a' := ?_) #[true, true, true, true, true, true, true, true, true, true, true, true, true, true, true, true, false] rfl rfl (any_of HT_.out (by kernel_rfl)) (fun _ _ _ h => h) (Or.inl ⟨by rfl, ?_⟩) ?_ ?_
      rotate_left
      · intro w'
        go_simp
        with_reducible rfl
      rotate_left
      · simp only [Act.put, List.setIfInBounds_toArray, List.set_cons_zero, List.set_cons_succ, i64_w, i32_w]
        rfl
      refine last_ (i := 16) (N := none) #[true, true, true, true, true, true, true, true, true, true, true, true, true, true, true, true, true] rfl rfl (one_of HT_.out (by kernel_rfl)) (by decide) (fun K hK => ?_)
      refine skip_ (w1 := ?_) (by rfl) rfl ?_ ?_
      rotate_left
      · go_simp
        rfl
      refine hK.out _ _ ?_
      clear hK K
      refine done_ (done_of HT_.out (by kernel_rfl)) ?_
      clear c2 c3 c5 f5
      refine then_gen (fun W => W.heap[g]? = some (.cells #[.int .i64 s.age, .int .i64 s.head, .slice A' (n + 1) c', .int .i64 s.added] 179 (0, 0)) ∧ Row W base (.slice A' (n + 1) c') (s.rs.take (pos s.rs key) ++ ⟨key, 0, s.added⟩ :: s.rs.drop (pos s.rs key)) ∧ Kp base g w W) ⟨set2 HB5.out _, HR5.out.setG HB5.out ⟨g, 2, none⟩ rfl _, ?kp⟩ ?_
      case kp => exact (Kp.of_bel (HB1.out.trans ((Bel.drew w1).trans (Bel.alloc w1.drew _)))).trans ((Kp.of_grown HG5.out HRow.out).trans (Kp.of_set ⟨g, 2, none⟩ rfl _))
      rintro W6 ⟨h6, hr6, hk6⟩
      have c3 := blk_cell h6 3
      have f3 := blk_frozen h6 3
      have H6 := Lib.hid h6
      have HR6 := Lib.hid hr6
      have HK6 := Lib.hid hk6
      clear h6 hr6 hk6 HR5 HG5 HB5 HNe HRow HVb HBs HBlk HI H1 HB1
      go_wp2_with fail
      go_ret
      exact ⟨_, rfl, ⟨set3 H6.out _, HR6.out.setG H6.out ⟨g, 3, none⟩ rfl _⟩, HK6.out.trans (Kp.of_set ⟨g, 3, none⟩ rfl _)⟩
  · have hE : addE s key = 11 := by unfold addE; rw [if_neg hr, if_pos hh]
    have hS : addS s key = s := by unfold addS; rw [hE]; simp
    rw [hE, hS]
    rw [hh] at K
    clear hE hS
    go_enter Tryz.func41, Tryz.ntmps41
    go_wp2_with fail
    refine K.out.mono ?_
    rintro e w1 ⟨rfl, hb1⟩
    have HF := Lib.hid (And.intro (H.out.bel hb1) hb1)
    clear hb1 K H
    go_wp2_with fail
    go_ret
    first | exact ⟨v, rfl, HF.out.1, Kp.of_bel HF.out.2⟩ | exact ⟨rfl, ⟨v, HF.out.1⟩, Kp.of_bel HF.out.2⟩
end Go.Proofs.YtgpkpheejefiiaaGreatDoor.L21
end
section
set_option linter.unusedVariables false
set_option linter.unusedSimpArgs false
namespace Go.Proofs.YtgpkpheejefiiaaGreatDoor.L21
set_option maxRecDepth 100000
open Go.RowKit
def cut (l : List El) (i : Nat) : List El := l.take i ++ l.drop (i + 1)
theorem cut_len {l : List El} {i : Nat} (h : i < l.length) : (cut l i).length = l.length - 1 := by unfold cut; simp; omega
def dropS (s : LS) (key : Int) : LS := if has s key = true then { s with rs := cut s.rs (pos s.rs key) } else s
theorem grown_blk {w wa : World} {base g : Nat} {v : Value} {l : List El} {cs : Array Value} (hg : w.grownBy wa v.ownBlock) (hr : Row w base v l) (h : w.heap[g]? = some (.cells cs 179 (0, 0))) : wa.heap[g]? = some (.cells cs 179 (0, 0)) :=
  (hg.block g (blk_lt h) (fun e => by
    obtain ⟨_, cs', h2⟩ := hr.blk e.symm
    rw [h] at h2
    simp at h2)).trans h
theorem addN (w : World) (key : Int) : Calls Tryz.prog 41 #[.pointer none, .int .i64 key] w fun e w' => e = .returned (.int .i64 1) ∧ Bel w w' := by
  have hn := nil23
  go_enter Tryz.func41, Tryz.ntmps41
  go_wp2_with fail
  go_ret
  exact ⟨rfl, Bel.refl _⟩
/-! ### who is late -/
def lateStep (s : LS) (b : Nat × Bool) (i : Nat) : Nat × Bool := if s.age ≤ (nth s.rs i).f1 ∧ (b.2 = false ∨ (nth s.rs i).f2 < (nth s.rs b.1).f2) then (i, true) else b
def lateK (s : LS) : Nat → Nat × Bool
  | 0 => (0, false)
  | k + 1 => lateStep s (lateK s k) k
theorem lateK_lt (s : LS) : ∀ k, (lateK s k).2 = true → (lateK s k).1 < k := by
  intro k
  induction k with
  | zero => intro h; simp [lateK] at h
  | succ k ih =>
    intro h
    unfold lateK lateStep at h ⊢
    split
    · simp
    · rename_i hc
      rw [if_neg hc] at h
      have := ih h; omega
theorem lateK_zero (s : LS) : ∀ k, (lateK s k).2 = false → (lateK s k).1 = 0 := by
  intro k
  induction k with
  | zero => intro h; rfl
  | succ k ih =>
    intro h
    unfold lateK lateStep at h ⊢
    split
    · rename_i hc; rw [if_pos hc] at h; simp at h
    · rename_i hc; rw [if_neg hc] at h; exact ih h
set_option maxHeartbeats 8000000 in
set_option maxRecDepth 100000 in
theorem lateL (w : World) (base g : Nat) (v : Value) (s : LS) (hlen : s.rs.length ≤ 256) (h : IsL w base g v s) :
    Calls Tryz.prog 146 #[PT g] w fun e w' => e = .returned (.tuple #[.int .i64 (lateK s s.rs.length).1, .bool (lateK s s.rs.length).2]) ∧ Bel w w' := by
  obtain ⟨A, c, rfl⟩ := h.row.len
  have H := Lib.hid h
  have HC : Hid (RC w A s.rs) := Lib.hid (by
    obtain ⟨A', c', e, _, hR⟩ := h.row.reads
    simp only [Value.slice.injEq] at e
    rw [e.1]; exact hR)
  have c2 := blk_cell h.blk 2
  have hlt0 : ∀ k, (lateK s k).2 = true → (lateK s k).1 < k := lateK_lt s
  have HE : Hid (∀ r, r = lateK s s.rs.length → r = lateK s s.rs.length) := Lib.hid (fun r h => h)
  clear h
  obtain ⟨fin, hfin⟩ : ∃ fin, fin = lateK s s.rs.length := ⟨_, rfl⟩
  rw [← hfin]
  have HFi := Lib.hid hfin
  clear hfin
  generalize hrs : s.rs.length = n at *
  go_enter Tryz.func146, Tryz.ntmps146
  go_wp2_with fail
  go_loopw [4, 5, 13] (fun v4 v5 v13 wr => ∃ (k : Nat), v13 = .int .i64 k ∧ k ≤ n ∧ v4 = .int .i64 (lateK s k).1 ∧ v5 = .bool (lateK s k).2 ∧ Hid (Bel w wr)) (fun _ _ v13 _ => n - (intOf v13).toNat)
  case atStart => exact ⟨0, rfl, by omega, rfl, rfl, Lib.hid (Bel.refl _)⟩
  case round =>
    obtain ⟨wo, rfl⟩ : ∃ wo : World, wo = wr := ⟨_, rfl⟩
    obtain ⟨k, rfl, hk, rfl, rfl, HI⟩ := hrel
    by_cases hlt : k < n
    · have H1 := H.out.bel HI.out
      obtain ⟨ad, rfl, x0, x1, x2⟩ := (HC.out.below HI.out) k (by omega)
      have hlk := hlt0 k
      have hbest : ∀ (_ : (lateK s k).2 = true), wo.cell? ⟨(ad.add ((lateK s k).1 * 3)).block, (ad.add ((lateK s k).1 * 3)).off + 2, none⟩ = some (.int .i64 (nth s.rs (lateK s k).1).f2) := fun hb => by
        obtain ⟨ad', e, _, _, y2⟩ := (HC.out.below HI.out) (lateK s k).1 (by have := hlk hb; omega)
        obtain rfl : ad = ad' := by simpa using e
        exact y2
      have hz := lateK_zero s k
      have HY : Hid (∀ b, lateStep s b k = if s.age ≤ (nth s.rs k).f1 ∧ (b.2 = false ∨ (nth s.rs k).f2 < (nth s.rs b.1).f2) then (k, true) else b) := Lib.hid (fun b => rfl)
      generalize hyy : nth s.rs k = y at *
      obtain ⟨y0, y1, y2⟩ := y
      simp only [] at x0 x1 x2 HY
      go_wp2_with fail
      have c0 := blk_cell H1.blk 0
      refine wp_gen (fun W => Bel wo W ∧ W.heap[wo.heap.size]? = some (.cells #[.int .i64 y0, .int .i64 y1, .int .i64 y2] 176 (0, 0))) ⟨Bel.alloc _ _, heap_alloc_new _ _⟩ ?_
      rintro W2 ⟨hB2, q0⟩
      have HB2 := Lib.hid (HI.out.trans hB2)
      have c0 := cellB hB2 c0
      have c2' := cellB hB2 (blk_cell H1.blk 2)
      have hbest2 := fun h => cellB hB2 (hbest h)
      clear HI hB2 x0 x1 x2 hbest H1 c2
      have HSK : Hid (lateK s (k + 1) = lateStep s (lateK s k) k) := Lib.hid rfl
      generalize lateK s k = bk at *
      obtain ⟨b, fd⟩ := bk
      simp only [] at hlk hbest2 hz
      by_cases hla : s.age ≤ y1
      · have d1 : decide (s.age ≤ y1) = true := by simpa using hla
        have d1' : decide (y1 ≥ s.age) = true := by simpa using hla
        cases fd
        · have HN : Hid (lateK s (k + 1) = (k, true)) := Lib.hid (by rw [HSK.out, HY.out, if_pos ⟨hla, .inl rfl⟩])
          clear HSK HY hbest2 hlk hz
          have hq0 := blk_cell q0 0
          have hq1 := blk_cell q0 1
          have hq2 := blk_cell q0 2
          clear q0
          go_region
          have hfin : Hid (Bel w (W2.drew)) := Lib.hid (HB2.out.trans (Bel.drew W2))
          clear hq0 hq1 hq2 HB2 c0 c2'
          generalize W2.drew = W3 at *
          go_wp2_with fail
          exact ⟨⟨k + 1, by congr 1, by omega, by rw [HN.out], by rw [HN.out], hfin⟩, by simp [intOf]; omega⟩
        · have hbc := hbest2 rfl
          have hbk := hlk rfl
          have hbn : b < n := by omega
          have hbn' : (b : Int) < (n : Int) := by omega
          clear hbest2 hlk hz
          by_cases hlt2 : y2 < (nth s.rs b).f2
          · have HN : Hid (lateK s (k + 1) = (k, true)) := Lib.hid (by rw [HSK.out, HY.out, if_pos ⟨hla, .inr hlt2⟩])
            have d2 : decide (y2 < (nth s.rs b).f2) = true := by simpa using hlt2
            clear HSK HY
            have hq0 := blk_cell q0 0
            have hq1 := blk_cell q0 1
            have hq2 := blk_cell q0 2
            clear q0
            go_region
            have hfin : Hid (Bel w (W2.drew)) := Lib.hid (HB2.out.trans (Bel.drew W2))
            clear hq0 hq1 hq2 HB2 c0 c2'
            generalize W2.drew = W3 at *
            go_wp2_with fail
            exact ⟨⟨k + 1, by congr 1, by omega, by rw [HN.out], by rw [HN.out], hfin⟩, by simp [intOf]; omega⟩
          · have HN : Hid (lateK s (k + 1) = (b, true)) := Lib.hid (by rw [HSK.out, HY.out, if_neg (by rintro ⟨_, h | h⟩ <;> first | (simp at h; done) | exact hlt2 h)])
            have d2 : decide (y2 < (nth s.rs b).f2) = false := by simpa using hlt2
            clear HSK HY
            have hq0 := blk_cell q0 0
            have hq1 := blk_cell q0 1
            have hq2 := blk_cell q0 2
            clear q0
            go_region
            have hfin : Hid (Bel w (W2.drew)) := Lib.hid (HB2.out.trans (Bel.drew W2))
            clear hq0 hq1 hq2 HB2 c0 c2'
            generalize W2.drew = W3 at *
            go_wp2_with fail
            exact ⟨⟨k + 1, by congr 1, by omega, by rw [HN.out], by rw [HN.out], hfin⟩, by simp [intOf]; omega⟩
      · have d1 : decide (s.age ≤ y1) = false := by simpa using hla
        have d1' : decide (y1 ≥ s.age) = false := by simpa using hla
        have HN : Hid (lateK s (k + 1) = (b, fd)) := Lib.hid (by rw [HSK.out, HY.out, if_neg (fun h => hla h.1)])
        clear HSK HY hbest2 hlk hz
        have hq0 := blk_cell q0 0
        have hq1 := blk_cell q0 1
        have hq2 := blk_cell q0 2
        clear q0
        go_region
        have hfin : Hid (Bel w (W2.drew)) := Lib.hid (HB2.out.trans (Bel.drew W2))
        clear hq0 hq1 hq2 HB2 c0 c2'
        generalize W2.drew = W3 at *
        go_wp2_with fail
        exact ⟨⟨k + 1, by congr 1, by omega, by rw [HN.out], by rw [HN.out], hfin⟩, by simp [intOf]; omega⟩
    · have hkn : k = n := by omega
      subst hkn
      have hf1 : (lateK s k).1 = fin.1 := by rw [HFi.out]
      have hf2 : (lateK s k).2 = fin.2 := by rw [HFi.out]
      have hbw := HI.out
      rw [hf1, hf2]
      clear HI hf1 hf2 HC H
      go_wp2_with fail
      go_ret2
      exact ⟨rfl, hbw⟩
end Go.Proofs.YtgpkpheejefiiaaGreatDoor.L21
end
