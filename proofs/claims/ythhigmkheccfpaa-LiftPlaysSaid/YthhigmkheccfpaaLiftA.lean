/- Lift: a key is added, dropped. -/
import Derived.Test.YthhigmkheccfpaaLift
import Derived.Deep.DeepCutAuto
import Derived.Deep.RegionHeld3
import Derived.RegionTactic
import Derived.ChangeAlike
import Derived.BigRegion
import Derived.Test.YthhigmkheccfpaaWLast
import Derived.Test.YthhigmkheccfpaaWTab
set_option linter.unusedVariables false
set_option linter.unusedSimpArgs false
namespace Go.Proofs.Ythhigmkheccfpaa
open Go.RowKit Go.Proofs.YthhigmkheccfpaaW.PrintLast
def addT.T10 : Bool × List (List Nat × List Nat) := (true, [([], []), ([], []), ([1], [1]), ([2], [2]), ([3], [3]), ([], []), ([], []), ([], []), ([7], [7]), ([8], [8]), ([9], [9]), ([6, 10], [6, 10]), ([11], [11]), ([4, 5, 12], [4, 5, 12]), ([0, 0, 1, 2, 3, 4, 5, 6, 7, 8, 9, 10, 11, 12, 13], [0]), ([14, 0, 1, 2, 3, 4, 5, 6, 7, 8, 9, 10, 11, 12, 13], [14]), ([15, 13, 13, 0, 1, 2, 3, 4, 5, 6, 7, 8, 9, 10, 11, 12, 13], [13, 15])])
def addT.B10 : List Nat := [0, 0, 2, 6, 14, 0, 0, 0, 128, 384, 896, 1984, 4032, 8190, 16383, 32767, 65535]
theorem addT.tab10 : rtab .any (opsOf Try.f11 10) = addT.T10 := by kernel_rfl
theorem addT.bits10 : waitsOk addT.T10.2 addT.B10 = true := by kernel_rfl
theorem then_gen {K : Act → World → Prop} {Q : Exit → Act → World → Prop} {x : Exit} {a : Act} {w : World} (Φ : World → Prop) (hΦ : Φ w) (h : ∀ W, Φ W → Exit.then K Q x a W) : Exit.then K Q x a w := h w hΦ
/-- What may be: keys rise, not too many, small numbers. -/
structure Ok (s : LS) : Prop where
  up : Rising s.rs
  len : s.rs.length ≤ 256
  key : ∀ x ∈ s.rs, 0 ≤ x.f0 ∧ x.f0 < 1099511627776
  age : 1 ≤ s.age ∧ s.age ≤ 65536
  wt : ∀ x ∈ s.rs, 0 ≤ x.f1
  add : 0 ≤ s.added
  came : ∀ x ∈ s.rs, 0 ≤ x.f2 ∧ x.f2 < s.added
/-- Small numbers. -/
def Small (B : Int) (s : LS) : Prop := s.added ≤ B ∧ ∀ x ∈ s.rs, x.f1 ≤ B
def addE (s : LS) (key : Int) : Int := if key < 0 ∨ 1099511627776 ≤ key then 3 else if has s key = true then 11 else if 256 ≤ s.rs.length then 10 else 0
def addS (s : LS) (key : Int) : LS := if addE s key = 0 then { s with rs := s.rs.take (pos s.rs key) ++ ⟨key, 0, s.added⟩ :: s.rs.drop (pos s.rs key), added := s.added + 1 } else s
theorem set2 {w : World} {g : Nat} {a b c d : Value} (h : w.heap[g]? = some (.cells #[a, b, c, d] 49 (0, 0))) (u : Value) : (w.setCell ⟨g, 2, none⟩ u).heap[g]? = some (.cells #[a, b, u, d] 49 (0, 0)) := by
  rw [setCell_eq_setRow w g 2 _ 49 (0, 0) u h]
  exact setRow_heap w g _ _ 49 (0, 0) h
theorem set3 {w : World} {g : Nat} {a b c d : Value} (h : w.heap[g]? = some (.cells #[a, b, c, d] 49 (0, 0))) (u : Value) : (w.setCell ⟨g, 3, none⟩ u).heap[g]? = some (.cells #[a, b, c, u] 49 (0, 0)) := by
  rw [setCell_eq_setRow w g 3 _ 49 (0, 0) u h]
  exact setRow_heap w g _ _ 49 (0, 0) h
theorem set1 {w : World} {g : Nat} {a b c d : Value} (h : w.heap[g]? = some (.cells #[a, b, c, d] 49 (0, 0))) (u : Value) : (w.setCell ⟨g, 1, none⟩ u).heap[g]? = some (.cells #[a, u, c, d] 49 (0, 0)) := by
  rw [setCell_eq_setRow w g 1 _ 49 (0, 0) u h]
  exact setRow_heap w g _ _ 49 (0, 0) h
theorem Row.setG {w : World} {base g : Nat} {v : Value} {l : List El} {cs : Array Value} (h : Row w base v l) (hg : w.heap[g]? = some (.cells cs 49 (0, 0))) (p : Addr) (hp : p.block = g) (u : Value) : Row (w.setCell p u) base v l := by
  refine World.ownsRow.kept (row := some g) h ⟨rfl, rfl, rfl, (((Below.refl 0 w).setCell (p := p) (Nat.zero_le _) u).size), fun k hk hne => Below.heap_setCell w p u k (by rw [hp]; exact fun e => hne (by rw [e]))⟩ ?_
  cases hv : v.ownBlock with
  | none => exact .inl rfl
  | some k =>
    refine .inr fun e => ?_
    obtain ⟨_, cs', h2⟩ := h.blk hv
    rw [Option.some.inj e, hg] at h2
    simp at h2
set_option maxHeartbeats 8000000 in
set_option maxRecDepth 100000 in
theorem addL (w : World) (base g : Nat) (v : Value) (s : LS) (key : Int) (hok : Ok s) (hsm : s.added ≤ 1000000) (hb : base ≤ w.heap.size) (h : IsL w base g v s) :
    Calls Try.prog 11 #[PT g, .int .i64 key] w fun e w' => ∃ v', e = .returned (.int .i64 (addE s key)) ∧ IsL w' base g v' (addS s key) ∧ Kp base g w w' := by
  have K := Lib.hid (findP w base g v s key hok.up (by have := hok.len; omega) h)
  change Hid (Calls Try.prog 24 #[PT g, .int .i64 key] w fun e w' => e = .returned (.tuple #[.int .i64 (pos s.rs key), .bool (has s key)]) ∧ Bel w w') at K
  have H := Lib.hid h
  have hn := nil23
  have hlen := hok.len
  have hadd := hok.add
  clear h
  by_cases hr : key < 0 ∨ 1099511627776 ≤ key
  · have hE : addE s key = 3 := by unfold addE; rw [if_pos hr]
    have hS : addS s key = s := by unfold addS; rw [hE]; simp
    rw [hE, hS]
    clear hE hS K
    by_cases h0 : key < 0
    · have d0 : decide (key < 0) = true := by simpa using h0
      go_enter Try.func11, Try.ntmps11
      go_wp2_with fail
      go_ret
      first | exact ⟨v, rfl, H.out, Kp.refl _ _ _⟩ | exact ⟨rfl, ⟨v, H.out⟩, Kp.refl _ _ _⟩
    · have d0 : decide (key < 0) = false := by simpa using h0
      have d1 : decide (1099511627776 ≤ key) = true := by simp; omega
      have d2 : decide (key ≥ 1099511627776) = true := by simp; omega
      go_enter Try.func11, Try.ntmps11
      go_wp2_with fail
      go_ret
      first | exact ⟨v, rfl, H.out, Kp.refl _ _ _⟩ | exact ⟨rfl, ⟨v, H.out⟩, Kp.refl _ _ _⟩
  have d0 : decide (key < 0) = false := by simp; omega
  have d1 : decide (1099511627776 ≤ key) = false := by simp; omega
  have d2 : decide (key ≥ 1099511627776) = false := by simp; omega
  cases hh : has s key
  · rw [hh] at K
    by_cases hf : 256 ≤ s.rs.length
    · have hE : addE s key = 10 := by unfold addE; rw [if_neg hr, if_neg (by simp [hh]), if_pos hf]
      have hS : addS s key = s := by unfold addS; rw [hE]; simp
      rw [hE, hS]
      clear hE hS
      have hlf : s.rs.length = 256 := by omega
      obtain ⟨A, c, hv⟩ := H.out.row.len
      go_enter Try.func11, Try.ntmps11
      go_wp2_with fail
      refine K.out.mono ?_
      rintro e w1 ⟨rfl, hb1⟩
      have H1 := H.out.bel hb1
      have c2 := blk_cell H1.blk 2
      rw [hv, hlf] at c2
      have HF := Lib.hid (And.intro H1 hb1)
      clear H1 hb1 K H
      go_wp2_with fail
      go_ret
      first | exact ⟨v, rfl, HF.out.1, Kp.of_bel HF.out.2⟩ | exact ⟨rfl, ⟨v, HF.out.1⟩, Kp.of_bel HF.out.2⟩
    · have hE : addE s key = 0 := by unfold addE; rw [if_neg hr, if_neg (by simp [hh]), if_neg hf]
      have hS : addS s key = { s with rs := s.rs.take (pos s.rs key) ++ ⟨key, 0, s.added⟩ :: s.rs.drop (pos s.rs key), added := s.added + 1 } := by unfold addS; rw [if_pos hE]
      have hpl : pos s.rs key ≤ s.rs.length := (pos_find s.rs key hok.up).1
      have HI := Lib.hid (fun w1 vb (hr : Row w1 base v s.rs) (hb : base ≤ w1.heap.size) (hvb : w1.heap[vb]? = some (.cells (enc ⟨key, 0, s.added⟩).toArray 51 (0, 0))) (hne : some vb ≠ v.ownBlock) => insRow w1 base vb (pos s.rs key) v s.rs ⟨key, 0, s.added⟩ hr hpl hb (by omega) hvb hne)
      rw [hE, hS]
      clear hE hS hr hok
      obtain ⟨A, c, rfl⟩ := H.out.row.len
      generalize hrs : s.rs.length = n at *
      have hlt : decide ((n : Int) ≥ 256) = false := by simp; omega
      have hlt' : decide (256 ≤ (n : Int)) = false := by simp; omega
      have hw1 : IntKind.i64.wrap (s.added + 1) = s.added + 1 := w64i (by omega) (by omega)
      go_enter Try.func11, Try.ntmps11
      go_wp2_with fail
      refine K.out.mono ?_
      rintro e w1 ⟨rfl, hb1⟩
      have H1 := Lib.hid (H.out.bel hb1)
      have HB1 := Lib.hid hb1
      have c2 := blk_cell H1.out.blk 2
      have c3 := blk_cell H1.out.blk 3
      have hne : some w1.heap.size ≠ (Value.slice A n c).ownBlock := fun e => by
        obtain ⟨_, cs, h2⟩ := H1.out.row.blk e.symm
        have := blk_lt h2
        omega
      have HNe := Lib.hid hne
      have HRow : Hid (Row (w1.drew.alloc (.cells #[.int .i64 key, .int .i64 0, .int .i64 s.added] 51)) base (.slice A n c) s.rs) := Lib.hid (H1.out.row.bel ((Bel.drew _).trans (Bel.alloc _ _)))
      have HVb : Hid ((w1.drew.alloc (.cells #[.int .i64 key, .int .i64 0, .int .i64 s.added] 51)).heap[w1.heap.size]? = some (.cells (enc ⟨key, 0, s.added⟩).toArray 51 (0, 0))) := Lib.hid (heap_alloc_new w1.drew _)
      have HBs : Hid (base ≤ (w1.drew.alloc (.cells #[.int .i64 key, .int .i64 0, .int .i64 s.added] 51)).heap.size) := Lib.hid (Nat.le_trans hb ((HB1.out.trans (Bel.drew w1)).trans (Bel.alloc _ _)).size)
      have HBlk : Hid (∀ wa, (w1.drew.alloc (.cells #[.int .i64 key, .int .i64 0, .int .i64 s.added] 51)).grownBy wa (Value.slice A n c).ownBlock → wa.heap[g]? = some (.cells #[.int .i64 s.age, .int .i64 s.head, .slice A n c, .int .i64 s.added] 49 (0, 0))) := Lib.hid (fun wa hg => by
        have h1 := blk_below H1.out.blk ((Bel.drew w1).trans (Bel.alloc w1.drew (.cells #[.int .i64 key, .int .i64 0, .int .i64 s.added] 51)))
        exact (hg.block g (blk_lt h1) (fun e => by
          obtain ⟨_, cs, h2⟩ := H1.out.row.blk e.symm
          rw [H1.out.blk] at h2
          simp at h2)).trans h1)
      clear hb1 K H hne
      go_wp2_with fail
      refine start_ (n := 17) (S := fun w' => w'.cell? ⟨g, 2, none⟩ = some (.slice A n c) ∧ w'.cell? ⟨g, 3, none⟩ = some (.int .i64 s.added)) (ds := [13, 16]) #[false, false, false, false, false, false, false, false, false, false, false, false, false, false, false, false, false] (by kernel_rfl) rfl rfl (⟨c2, c3⟩) (fun hHeld => ?_)
      refine with_tabW addT.tab10 addT.bits10 (fun HT_ HW_ => ?_)
      refine pure_ (i := 0) (N := some 32) (v := ?_) (a' := ?_) #[true, false, false, false, false, false, false, false, false, false, false, false, false, false, false, false, false] rfl rfl (any_of HT_.out (by kernel_rfl)) (fun _ _ _ h => h) (Or.inl ⟨by rfl, ?_⟩) ?_ ?_
      rotate_left
      · intro w'
        go_simp
        with_reducible rfl
      rotate_left
      · simp only [Act.put, List.setIfInBounds_toArray, List.set_cons_zero, List.set_cons_succ, i64_w, i32_w]
        rfl
      refine pure_ (i := 1) (N := some 33) (v := ?_) (a' := ?_) #[true, true, false, false, false, false, false, false, false, false, false, false, false, false, false, false, false] rfl rfl (any_of HT_.out (by kernel_rfl)) (fun _ _ _ h => h) (Or.inl ⟨by rfl, ?_⟩) ?_ ?_
      rotate_left
      · intro w'
        go_simp
        with_reducible rfl
      rotate_left
      · simp only [Act.put, List.setIfInBounds_toArray, List.set_cons_zero, List.set_cons_succ, i64_w, i32_w]
        rfl
      refine pure_ (i := 2) (N := some 34) (v := ?_) (a' := ?_) #[true, true, true, false, false, false, false, false, false, false, false, false, false, false, false, false, false] rfl rfl (any_of HT_.out (by kernel_rfl)) (fun _ _ _ h => h) (Or.inl ⟨by rfl, ?_⟩) ?_ ?_
      rotate_left
      · intro w'
        go_simp
        with_reducible rfl
      rotate_left
      · simp only [Act.put, List.setIfInBounds_toArray, List.set_cons_zero, List.set_cons_succ, i64_w, i32_w]
        rfl
      refine pure_ (i := 3) (N := some 35) (v := ?_) (a' := ?_) #[true, true, true, true, false, false, false, false, false, false, false, false, false, false, false, false, false] rfl rfl (any_of HT_.out (by kernel_rfl)) (fun _ _ _ h => h) (Or.inl ⟨by rfl, ?_⟩) ?_ ?_
      rotate_left
      · intro w'
        go_simp
        with_reducible rfl
      rotate_left
      · simp only [Act.put, List.setIfInBounds_toArray, List.set_cons_zero, List.set_cons_succ, i64_w, i32_w]
        rfl
      refine pure_ (i := 5) (N := some 37) (v := ?_) (a' := ?_) #[true, true, true, true, false, true, false, false, false, false, false, false, false, false, false, false, false] rfl rfl (any_of HT_.out (by kernel_rfl)) (fun _ _ _ h => h) (Or.inl ⟨by rfl, ?_⟩) ?_ ?_
      rotate_left
      · intro w'
        go_simp
        with_reducible rfl
      rotate_left
      · simp only [Act.put, List.setIfInBounds_toArray, List.set_cons_zero, List.set_cons_succ, i64_w, i32_w]
        rfl
      refine pure_ (i := 6) (N := some 38) (v := ?_) (a' := ?_) #[true, true, true, true, false, true, true, false, false, false, false, false, false, false, false, false, false] rfl rfl (any_of HT_.out (by kernel_rfl)) (fun _ _ _ h => h) (Or.inl ⟨by rfl, ?_⟩) ?_ ?_
      rotate_left
      · intro w'
        go_simp
        with_reducible rfl
      rotate_left
      · simp only [Act.put, List.setIfInBounds_toArray, List.set_cons_zero, List.set_cons_succ, i64_w, i32_w]
        rfl
      refine pure_ (i := 7) (N := some 39) (v := ?_) (a' := ?_) #[true, true, true, true, false, true, true, true, false, false, false, false, false, false, false, false, false] rfl rfl (any_of HT_.out (by kernel_rfl)) (fun _ _ _ h => h) (Or.inl ⟨by rfl, ?_⟩) ?_ ?_
      rotate_left
      · intro w'
        go_simp
        with_reducible rfl
      rotate_left
      · simp only [Act.put, List.setIfInBounds_toArray, List.set_cons_zero, List.set_cons_succ, i64_w, i32_w]
        rfl
      refine pure_ (i := 8) (N := some 40) (v := ?_) (a' := ?_) #[true, true, true, true, false, true, true, true, true, false, false, false, false, false, false, false, false] rfl rfl (any_of HT_.out (by kernel_rfl)) (fun _ _ _ h => h) (Or.inl ⟨by rfl, ?_⟩) ?_ ?_
      rotate_left
      · intro w'
        go_simp
        with_reducible rfl
      rotate_left
      · simp only [Act.put, List.setIfInBounds_toArray, List.set_cons_zero, List.set_cons_succ, i64_w, i32_w]
        rfl
      refine pure_ (i := 9) (N := some 41) (v := ?_) (a' := ?_) #[true, true, true, true, false, true, true, true, true, true, false, false, false, false, false, false, false] rfl rfl (any_of HT_.out (by kernel_rfl)) (fun _ _ _ h => h) (Or.inl ⟨by rfl, ?_⟩) ?_ ?_
      rotate_left
      · intro w'
        go_simp
        with_reducible rfl
      rotate_left
      · simp only [Act.put, List.setIfInBounds_toArray, List.set_cons_zero, List.set_cons_succ, i64_w, i32_w]
        rfl
      refine take_ (i := 4) (N := some 36) (v := ?_) (a' := ?_) #[true, true, true, true, true, true, true, true, true, true, false, false, false, false, false, false, false] rfl rfl (take_ofW HT_.out HW_.out (by kernel_rfl)) (fun _ _ _ h => h) (Or.inl ⟨by rfl, ?_⟩) hHeld ?_ ?_
      rotate_left
      · rintro w' ⟨s0, s1⟩
        go_simp
        with_reducible rfl
      rotate_left
      · simp only [Act.put, List.setIfInBounds_toArray, List.set_cons_zero, List.set_cons_succ, i64_w, i32_w]
        rfl
      refine take_ (i := 10) (N := some 42) (v := ?_) (a' := ?_) #[true, true, true, true, true, true, true, true, true, true, true, false, false, false, false, false, false] rfl rfl (take_ofW HT_.out HW_.out (by kernel_rfl)) (fun _ _ _ h => h) (Or.inl ⟨by rfl, ?_⟩) hHeld ?_ ?_
      rotate_left
      · rintro w' ⟨s0, s1⟩
        go_simp
        with_reducible rfl
      rotate_left
      · simp only [Act.put, List.setIfInBounds_toArray, List.set_cons_zero, List.set_cons_succ, i64_w, i32_w]
        rfl
      refine pure_ (i := 11) (N := some 43) (v := ?_) (a' := ?_) #[true, true, true, true, true, true, true, true, true, true, true, true, false, false, false, false, false] rfl rfl (any_of HT_.out (by kernel_rfl)) (fun _ _ _ h => h) (Or.inl ⟨by rfl, ?_⟩) ?_ ?_
      rotate_left
      · intro w'
        go_simp
        with_reducible rfl
      rotate_left
      · simp only [Act.put, List.setIfInBounds_toArray, List.set_cons_zero, List.set_cons_succ, i64_w, i32_w]
        rfl
      refine one_ (i := 12) (N := some 44) #[true, true, true, true, true, true, true, true, true, true, true, true, true, false, false, false, false] rfl rfl (one_of HT_.out (by kernel_rfl)) (by decide) (fun K hK => ?_)
      refine value_ (w1 := ?_) (v := ?_) (by rfl) rfl ?_ ?_
      rotate_left 2
      · go_simp
        constructor
        · rfl
        · rfl
      refine hK.out _ _ (⟨cellB (Bel.alloc _ _) hHeld.1, cellB (Bel.alloc _ _) hHeld.2⟩) (fun hHeld => ?_)
      clear hK K
      refine norm_ (a' := ?_) ?_ ?_
      rotate_left
      · show Act.put _ (some 44) _ = _
        simp only [Act.put, List.setIfInBounds_toArray, List.set_cons_zero, List.set_cons_succ, i64_w, i32_w]
        rfl
      refine last_ (i := 13) (N := some 45) #[true, true, true, true, true, true, true, true, true, true, true, true, true, true, false, false, false] rfl rfl (one_of HT_.out (by kernel_rfl)) (by decide) (fun K hK => ?_)
      refine goes_ Try.func25 (by kernel_rfl) rfl #[.slice A n c, .int .i64 (pos s.rs key), .slice (some ⟨w1.heap.size, 0, none⟩) 1 1] (by rfl) rfl rfl (by simp only [List.map_toArray, List.map_cons, List.map_nil]; rfl) ?_
      refine (HI.out _ _ HRow.out HBs.out HVb.out HNe.out).mono ?_
      rintro e wa ⟨v', rfl, hrow, hgr⟩
      obtain ⟨A', c', rfl⟩ : ∃ A' c', v' = .slice A' (n + 1) c' := by obtain ⟨A', c', h⟩ := hrow.len; exact ⟨A', c', by rw [h]; congr 1; simp; omega⟩
      have HR5 := Lib.hid hrow
      have HG5 := Lib.hid hgr
      have hb5 := HBlk.out wa hgr
      have c5 := blk_cell hb5 2
      have f5 := blk_frozen hb5 2
      have HB5 := Lib.hid hb5
      clear hrow hgr hb5
      refine ⟨_, rfl, ?_⟩
      refine hK.out _ _ ?_
      clear hK K
      refine norm_ (a' := ?_) ?_ ?_
      rotate_left
      · show Act.put _ (some 45) _ = _
        simp only [Act.put, List.setIfInBounds_toArray, List.set_cons_zero, List.set_cons_succ, i64_w, i32_w]
        rfl
      refine pure_ (i := 14) (N := some 46) (v := ?_) (a' := ?_) #[true, true, true, true, true, true, true, true, true, true, true, true, true, true, true, false, false] rfl rfl (any_of HT_.out (by kernel_rfl)) (fun _ _ _ h => h) (Or.inl ⟨by rfl, ?_⟩) ?_ ?_
      rotate_left
      · intro w'
        go_simp
        with_reducible rfl
      rotate_left
      · simp only [Act.put, List.setIfInBounds_toArray, List.set_cons_zero, List.set_cons_succ, i64_w, i32_w]
        rfl
      refine pure_ (i := 15) (N := some 47) (v := ?_) (a' := ?_) #[true, true, true, true, true, true, true, true, true, true, true, true, true, true, true, true, false] rfl rfl (any_of HT_.out (by kernel_rfl)) (fun _ _ _ h => h) (Or.inl ⟨by rfl, ?_⟩) ?_ ?_
      rotate_left
      · intro w'
        go_simp
        with_reducible rfl
      rotate_left
      · simp only [Act.put, List.setIfInBounds_toArray, List.set_cons_zero, List.set_cons_succ, i64_w, i32_w]
        rfl
      refine last_ (i := 16) (N := none) #[true, true, true, true, true, true, true, true, true, true, true, true, true, true, true, true, true] rfl rfl (one_of HT_.out (by kernel_rfl)) (by decide) (fun K hK => ?_)
      refine skip_ (w1 := ?_) (by rfl) rfl ?_ ?_
      rotate_left
      · go_simp
        rfl
      refine hK.out _ _ ?_
      clear hK K
      refine done_ (done_of HT_.out (by kernel_rfl)) ?_
      clear c2 c3 c5 f5
      refine then_gen (fun W => W.heap[g]? = some (.cells #[.int .i64 s.age, .int .i64 s.head, .slice A' (n + 1) c', .int .i64 s.added] 49 (0, 0)) ∧ Row W base (.slice A' (n + 1) c') (s.rs.take (pos s.rs key) ++ ⟨key, 0, s.added⟩ :: s.rs.drop (pos s.rs key)) ∧ Kp base g w W) ⟨set2 HB5.out _, HR5.out.setG HB5.out ⟨g, 2, none⟩ rfl _, ?kp⟩ ?_
      case kp => exact (Kp.of_bel (HB1.out.trans ((Bel.drew w1).trans (Bel.alloc w1.drew _)))).trans ((Kp.of_grown HG5.out HRow.out).trans (Kp.of_set ⟨g, 2, none⟩ rfl _))
      rintro W6 ⟨h6, hr6, hk6⟩
      have c3 := blk_cell h6 3
      have f3 := blk_frozen h6 3
      have H6 := Lib.hid h6
      have HR6 := Lib.hid hr6
      have HK6 := Lib.hid hk6
      clear h6 hr6 hk6 HR5 HG5 HB5 HNe HRow HVb HBs HBlk HI H1 HB1
      go_wp2_with fail
      go_ret
      exact ⟨_, rfl, ⟨set3 H6.out _, HR6.out.setG H6.out ⟨g, 3, none⟩ rfl _⟩, HK6.out.trans (Kp.of_set ⟨g, 3, none⟩ rfl _)⟩
  · have hE : addE s key = 11 := by unfold addE; rw [if_neg hr, if_pos hh]
    have hS : addS s key = s := by unfold addS; rw [hE]; simp
    rw [hE, hS]
    rw [hh] at K
    clear hE hS
    go_enter Try.func11, Try.ntmps11
    go_wp2_with fail
    refine K.out.mono ?_
    rintro e w1 ⟨rfl, hb1⟩
    have HF := Lib.hid (And.intro (H.out.bel hb1) hb1)
    clear hb1 K H
    go_wp2_with fail
    go_ret
    first | exact ⟨v, rfl, HF.out.1, Kp.of_bel HF.out.2⟩ | exact ⟨rfl, ⟨v, HF.out.1⟩, Kp.of_bel HF.out.2⟩
end Go.Proofs.Ythhigmkheccfpaa
