/- Ahead: Note's contract. -/
import Derived.Test.YtfbibiiiepgdaaaDoorState
import Derived.Deep.RegionHeld3
import Derived.Deep.DeepCutAuto
set_option linter.unusedVariables false
set_option linter.unusedSimpArgs false
namespace Go.Proofs.YtfbibiiiepgdaaaDoor
open Go.RowKit Go.Proofs.YtfbibiiiepgdaaaDoorW.PrintWords Go.Proofs.YtfbibiiiepgdaaaDoorW.PrintMore
open PAheadPlays
open Go.Proofs.YtfbibiiiepgdaaaDoorW.PrintLast
theorem kb_trans {a b c : World} {g : Nat} (h : KeepBut a b g none) (k : KeepBut b c g none) : KeepBut a c g none := ⟨Nat.le_trans h.1 k.1, fun i hi hg hr => (k.2 i (Nat.lt_of_lt_of_le hi h.1) hg hr).trans (h.2 i hi hg hr)⟩
theorem kbcell {w w1 : World} {g : Nat} (h : KeepBut w w1 g none) : (∀ b o, b < w.heap.size → b ≠ g → w1.cell? ⟨b, o, none⟩ = w.cell? ⟨b, o, none⟩) ∧ (∀ b o, b < w.heap.size → b ≠ g → w1.frozen? ⟨b, o, none⟩ = w.frozen? ⟨b, o, none⟩) := ⟨fun b o hb hn => World.cell?_of_block (a := ⟨b, o, none⟩) (h.2 b hb hn (by simp)), fun b o hb hn => World.frozen?_of_block (a := ⟨b, o, none⟩) (h.2 b hb hn (by simp))⟩
theorem kb_alloc {a b : World} {g : Nat} (h : KeepBut a b g none) (o : Obj) : KeepBut a (b.alloc o) g none := kb_trans h (KeepBut.of_below ((Below.refl _ _).alloc (Nat.le_refl _) _) _ _)
theorem kb_drew {a b : World} {g : Nat} (h : KeepBut a b g none) : KeepBut a b.drew g none := h
theorem kb_below {a b c : World} {g : Nat} (h : KeepBut a b g none) (k : Below b.heap.size b c) : KeepBut a c g none := kb_trans h (KeepBut.of_below k _ _)
theorem kb_set {a b : World} {g : Nat} (h : KeepBut a b g none) {p : Addr} (hp : a.heap.size ≤ p.block ∨ p.block = g) (u : Value) : KeepBut a (b.setCell p u) g none :=
  ⟨by simpa [World.setCell] using h.1, fun i hi hg hr => (Below.heap_setCell b p u i (by rcases hp with hp | hp <;> omega)).trans (h.2 i hi hg hr)⟩
/-- A planner's state, and all that the call keeps. -/
structure St (w0 w : World) (g : Nat) (B R M nx run win en : Int) (W : World) : Prop where
  p : IsP w0 W g B R M nx run win en
  b : Below w0.heap.size w0 W
  k : KeepBut w W g none
  r : W.heap[w.heap.size]? = some (.cells #[.int .i64 0, .int .i64 0] 30 (0, 0))
section
variable {w0 w W W' : World} {g : Nat} {B R M nx run win en : Int}
theorem St.drew (h : St w0 w g B R M nx run win en W) : St w0 w g B R M nx run win en W.drew := ⟨h.p.drew, h.b.drew, kb_drew h.k, h.r⟩
theorem St.alloc (h : St w0 w g B R M nx run win en W) (o : Obj) : St w0 w g B R M nx run win en (W.alloc o) := ⟨h.p.alloc o, h.b.alloc h.b.size o, kb_alloc h.k o, (Below.heap_alloc W o _ (blk_lt h.r)).trans h.r⟩
theorem St.below (h : St w0 w g B R M nx run win en W) (k : Below W.heap.size W W') : St w0 w g B R M nx run win en W' := ⟨h.p.below k, below_then h.b h.b.size k, kb_below h.k k, (k.block _ (blk_lt h.r)).trans h.r⟩
/-- A method's call upon g. -/
theorem St.call {nx' run' win' en' : Int} (h : St w0 w g B R M nx run win en W) (hg : g < w.heap.size) (p : IsP w0 W' g B R M nx' run' win' en') (b : Below w0.heap.size w0 W') (k : KeepBut W W' g none) : St w0 w g B R M nx' run' win' en' W' :=
  ⟨p, b, kb_trans h.k k, (k.2 _ (blk_lt h.r) (by omega) (by simp)).trans h.r⟩
theorem St.set (h : St w0 w g B R M nx run win en W) (hg : g < w.heap.size) {p : Addr} (hp : w.heap.size < p.block) (u : Value) : St w0 w g B R M nx run win en (W.setCell p u) :=
  ⟨h.p.far (by omega) u, h.b.setCell (Nat.le_of_lt (Nat.lt_of_le_of_lt h.p.2 (by omega))) u, kb_set h.k (.inl (by omega)) u, (Below.heap_setCell W p u _ (by omega)).trans h.r⟩
end
theorem switch_ {P : Program} {ops : Array Oper} {Q : Exit → Act → World → Prop} {md : Region.Mode} {S : World → Prop} {ds : List Nat} : ∀ {fuel : Nat} {l : Array Bool} {a : Act} {w : World}, S w → (S w → wpAnyLast P md ops Q S ds fuel l a w) → wpAnyLast P md ops Q (fun _ => True) [] fuel l a w := by
  intro fuel
  have : ∀ (fuel : Nat) (l : Array Bool) (a : Act) (w : World), wpAnyLast P md ops Q S ds fuel l a w → wpAnyLast P md ops Q (fun _ => True) [] fuel l a w := by
    intro fuel
    induction fuel with
    | zero => intro l a w h; exact h
    | succ n ih => intro l a w h; exact ⟨h.1, fun i hi => wpOp_mono (fun a' w' hh => ⟨fun _ _ => trivial, ih _ _ _ hh.2⟩) (h.2 i hi)⟩
  intro l a w hS h
  exact this _ _ _ _ (h hS)
def note.T3 : Bool × List (List Nat × List Nat) := (true, [([], []), ([], []), ([0, 1], [0, 1]), ([2], [2]), ([3, 2], [3]), ([4], [4]), ([5, 4], [4, 5]), ([6, 4], [4, 6]), ([7, 4], [4, 7]), ([8, 4], [4, 8]), ([4], [4]), ([10, 4], [4, 10]), ([11, 4], [4, 11]), ([12, 4], [4, 12]), ([13, 4], [4, 13]), ([9, 14, 4], [4, 9, 14]), ([4], [4]), ([16, 4], [4, 16]), ([17, 4], [4, 17]), ([18, 4], [4, 18]), ([19, 4], [4, 19]), ([20, 4], [4, 20]), ([15, 21, 4], [4, 15, 21]), ([4, 22], [4, 22])])
def note.B3 : List Nat := [0, 0, 3, 7, 15, 31, 63, 127, 255, 511, 31, 1055, 3103, 7199, 15391, 32767, 31, 65567, 196639, 458783, 983071, 2031647, 4194303, 8388607]
theorem note.tab3 : rtab .any (opsOf Tryd.f9 3) = note.T3 := by kernel_rfl
theorem note.bits3 : waitsOk note.T3.2 note.B3 = true := by kernel_rfl
def note.T6 : Bool × List (List Nat × List Nat) := (true, [([], []), ([0], [0]), ([1], [1]), ([2], [2]), ([3], [3]), ([], []), ([5], [5]), ([6], [6]), ([7], [7]), ([8], [8]), ([4, 9], [4, 9]), ([], []), ([], []), ([12], [12]), ([13], [13]), ([14], [14]), ([15], [15]), ([], []), ([17], [17]), ([18], [18]), ([19], [19]), ([20], [20]), ([16, 21], [16, 21]), ([11, 22], [11, 22]), ([10, 23], [10, 23]), ([], []), ([25, 24, 23, 0, 1, 2, 3, 4, 5, 6, 7, 8, 9, 10, 11, 12, 13, 14, 15, 16, 17, 18, 19, 20, 21, 22, 23, 24, 25], [24, 25])])
def note.B6 : List Nat := [0, 1, 3, 7, 15, 0, 32, 96, 224, 480, 1023, 0, 0, 4096, 12288, 28672, 61440, 0, 131072, 393216, 917504, 1966080, 4190208, 8386560, 16777215, 0, 67108863]
theorem note.tab6 : rtab .any (opsOf Tryd.f9 6) = note.T6 := by kernel_rfl
theorem note.bits6 : waitsOk note.T6.2 note.B6 = true := by kernel_rfl
theorem ptr23 : Tryd.prog.underlying 23 = some (.pointer (Tryd.prog.pointee 23)) := by kernel_rfl
set_option maxHeartbeats 4000000 in
set_option maxRecDepth 100000 in
theorem noteP {B R M nx run win en : Int} (b : Int) (hv : Valid B R M nx run win en) (g : Nat) (w0 w : World) (hI : IsP w0 w g B R M nx run win en) (hB : Below w0.heap.size w0 w) :
    Calls Tryd.prog 9 #[.pointer (some ⟨g, 0, none⟩), .int .i64 b] w fun e w' => e = .returned (.tuple #[.agg #[.int .i64 (noteF B R M nx run win en b).1.1, .int .i64 (noteF B R M nx run win en b).1.2.1], .bool (noteF B R M nx run win en b).1.2.2]) ∧
      IsP w0 w' g B R M (noteF B R M nx run win en b).2.1 (noteF B R M nx run win en b).2.2.1 (noteF B R M nx run win en b).2.2.2.1 (noteF B R M nx run win en b).2.2.2.2 ∧ Below w0.heap.size w0 w' ∧ KeepBut w w' g none := by
  have hnil := fun (w : World) (p : Option Addr) => run_eql_pointer_nil (P := Tryd.prog) w 23 p ptr23
  have hN : Hid (∀ x, x = noteF B R M nx run win en b → x = noteF B R M nx run win en b) := Lib.hid (fun _ h => h)
  have HI := Lib.hid hI
  have HB := Lib.hid hB
  have HV := Lib.hid hv
  by_cases h0 : b < 0
  · have hF : noteF B R M nx run win en b = ((0, 0, false), (nx, run, win, en)) := by unfold noteF; rw [if_pos (.inl h0)]
    rw [hF]
    clear hN hF hI hB hv
    go_enter Tryd.func9, Tryd.ntmps9
    go_wp2_with fail
    exact bodyPost_ret (v := .tuple #[.agg #[.int .i64 0, .int .i64 0], .bool false]) (by simp [results, Tryd.results9, go_sem]) rfl ⟨rfl, HI.out.alloc _, HB.out.alloc HB.out.size _, KeepBut.of_below ((Below.refl _ _).alloc (Nat.le_refl _) _) _ _⟩
  · obtain ⟨hb4, hgz⟩ := HI.out
    have hglt := HI.out.lt
    have c0 := fun o => cellS52_0 (HI.out.alloc o).1
    by_cases h1 : B ≤ b
    · have hF : noteF B R M nx run win en b = ((0, 0, false), (nx, run, win, en)) := by unfold noteF; rw [if_pos (.inr h1)]
      rw [hF]
      have h1' : decide (B ≤ b) = true := by simpa using h1
      clear hN hF hI hB hv hb4
      go_enter Tryd.func9, Tryd.ntmps9
      go_wp2_with fail
      exact bodyPost_ret (v := .tuple #[.agg #[.int .i64 0, .int .i64 0], .bool false]) (by simp [results, Tryd.results9, go_sem]) rfl ⟨rfl, HI.out.alloc _, HB.out.alloc HB.out.size _, KeepBut.of_below ((Below.refl _ _).alloc (Nat.le_refl _) _) _ _⟩
    · unfold noteF
      rw [if_neg (show ¬ (b < 0 ∨ B ≤ b) by omega)]
      clear hN
      have hfol := fun wx hi hb => followsB (w := wx) b hv (by omega) (by omega) g w0 hi hb
      have hr : 1 ≤ (if b = nx then run + 1 else 1) ∧ (if b = nx then run + 1 else 1) ≤ b + 1 + 1 := by have := hv.u1; have := hv.u2; split <;> omega
      have hw : 0 ≤ (if b = nx then win else 0) ∧ (if b = nx then win else 0) ≤ 64 := by have := hv.w1; have := hv.w2; split <;> omega
      have he : 0 ≤ (if b = nx then en else b + 1) ∧ (if b = nx then en else b + 1) ≤ B := by have := hv.e1; have := hv.e2; split <;> omega
      dsimp only
      generalize (if b = nx then run + 1 else 1) = r1 at *
      generalize (if b = nx then win else 0) = w1 at *
      generalize (if b = nx then en else b + 1) = e1 at *
      have b2 := hv.b2
      have hm1 := hv.m1
      have hm2 := hv.m2
      have hr1 := hv.r1
      have hr2 := hv.r2
      have HW := Lib.hid (fun wx hi hb => widerB (B := B) (R := R) (M := M) (nx := b + 1) (run := r1) (win := w1) (en := e1) hw g w0 wx hi hb)
      have HG := Lib.hid goodB
      clear hI hB hv hb4
      by_cases h2 : r1 < 2
      · have h2' : decide (2 ≤ r1) = false := by simpa using h2
        rw [if_pos h2]
        rw [h2'] at hfol
        have HF := Lib.hid hfol
        clear hfol h2'
        go_enter Tryd.func9, Tryd.ntmps9
        go_wp2_with fail
        refine start_ (n := 24) (S := fun w' => True) (ds := []) #[false, false, false, false, false, false, false, false, false, false, false, false, false, false, false, false, false, false, false, false, false, false, false, false] (by kernel_rfl) rfl rfl (trivial) (fun hHeld => ?_)
        refine with_tabW note.tab3 note.bits3 (fun HT_ HW_ => ?_)
        refine pure_ (i := 0) (N := some 22) (v := ?_) (a' := ?_) #[true, false, false, false, false, false, false, false, false, false, false, false, false, false, false, false, false, false, false, false, false, false, false, false] rfl rfl (any_of HT_.out (by kernel_rfl)) (fun _ _ _ h => h) (Or.inl ⟨by rfl, ?_⟩) ?_ ?_
        rotate_left
        · intro w'
          go_simp
          with_reducible rfl
        rotate_left
        · simp only [Act.put, List.setIfInBounds_toArray, List.set_cons_zero, List.set_cons_succ, i64_w, i32_w]
          rfl
        refine pure_ (i := 1) (N := some 23) (v := ?_) (a' := ?_) #[true, true, false, false, false, false, false, false, false, false, false, false, false, false, false, false, false, false, false, false, false, false, false, false] rfl rfl (any_of HT_.out (by kernel_rfl)) (fun _ _ _ h => h) (Or.inl ⟨by rfl, ?_⟩) ?_ ?_
        rotate_left
        · intro w'
          go_simp
          with_reducible rfl
        rotate_left
        · simp only [Act.put, List.setIfInBounds_toArray, List.set_cons_zero, List.set_cons_succ, i64_w, i32_w]
          rfl
        refine one_ (i := 2) (N := some 24) #[true, true, true, false, false, false, false, false, false, false, false, false, false, false, false, false, false, false, false, false, false, false, false, false] rfl rfl (one_of HT_.out (by kernel_rfl)) (by decide) (fun K hK => ?_)
        refine goes_ Tryd.func18 (by kernel_rfl) rfl #[.pointer (some ⟨g, 0, none⟩), .int .i64 b] (by rfl) rfl rfl (by simp only [List.map_toArray, List.map_cons, List.map_nil]; rfl) ?_
        refine (HF.out _ (by repeat (first | exact HI.out | apply IsS52.drew | apply IsS52.alloc)) (by repeat (first | exact HB.out | apply Below.drew | refine Below.alloc ?_ HB.out.size _))).mono ?_
        rintro e wa ⟨rfl, hia, hba, hka⟩
        refine ⟨_, rfl, ?_⟩
        have HIA := Lib.hid hia
        have HBA := Lib.hid hba
        have HKA := Lib.hid hka
        clear hia hba hka
        refine hK.out _ _ (trivial) (fun hHeld => ?_)
        clear hK K
        refine norm_ (a' := ?_) ?_ ?_
        rotate_left
        · show Act.put _ (some 24) _ = _
          simp only [Act.put, List.setIfInBounds_toArray, List.set_cons_zero, List.set_cons_succ, i64_w, i32_w]
          rfl
        refine pure_ (i := 3) (N := some 25) (v := ?_) (a' := ?_) #[true, true, true, true, false, false, false, false, false, false, false, false, false, false, false, false, false, false, false, false, false, false, false, false] rfl rfl (any_of HT_.out (by kernel_rfl)) (fun _ _ _ h => h) (Or.inl ⟨by rfl, ?_⟩) ?_ ?_
        rotate_left
        · intro w'
          go_simp
          with_reducible rfl
        rotate_left
        · simp only [Act.put, List.setIfInBounds_toArray, List.set_cons_zero, List.set_cons_succ, i64_w, i32_w]
          rfl
        refine pure_ (i := 4) (N := some 26) (v := ?_) (a' := ?_) #[true, true, true, true, true, false, false, false, false, false, false, false, false, false, false, false, false, false, false, false, false, false, false, false] rfl rfl (any_of HT_.out (by kernel_rfl)) (fun _ _ _ h => h) (Or.inl ⟨by rfl, ?_⟩) ?_ ?_
        rotate_left
        · intro w'
          go_simp
          with_reducible rfl
        rotate_left
        · simp only [Act.put, List.setIfInBounds_toArray, List.set_cons_zero, List.set_cons_succ, i64_w, i32_w]
          rfl
        refine pure_ (i := 5) (N := some 27) (v := undef) (a' := ?_) #[true, true, true, true, true, true, false, false, false, false, false, false, false, false, false, false, false, false, false, false, false, false, false, false] rfl rfl (any_of HT_.out (by kernel_rfl)) (fun _ _ _ h => h) (Or.inr ⟨by rfl, rfl⟩) ?_ ?_
        rotate_left
        · simp only [Act.put, List.setIfInBounds_toArray, List.set_cons_zero, List.set_cons_succ, i64_w, i32_w]
          rfl
        refine pure_ (i := 6) (N := some 28) (v := undef) (a' := ?_) #[true, true, true, true, true, true, true, false, false, false, false, false, false, false, false, false, false, false, false, false, false, false, false, false] rfl rfl (any_of HT_.out (by kernel_rfl)) (fun _ _ _ h => h) (Or.inr ⟨by rfl, rfl⟩) ?_ ?_
        rotate_left
        · simp only [Act.put, List.setIfInBounds_toArray, List.set_cons_zero, List.set_cons_succ, i64_w, i32_w]
          rfl
        refine pure_ (i := 7) (N := some 29) (v := undef) (a' := ?_) #[true, true, true, true, true, true, true, true, false, false, false, false, false, false, false, false, false, false, false, false, false, false, false, false] rfl rfl (any_of HT_.out (by kernel_rfl)) (fun _ _ _ h => h) (Or.inr ⟨by rfl, rfl⟩) ?_ ?_
        rotate_left
        · simp only [Act.put, List.setIfInBounds_toArray, List.set_cons_zero, List.set_cons_succ, i64_w, i32_w]
          rfl
        refine pure_ (i := 8) (N := some 30) (v := undef) (a' := ?_) #[true, true, true, true, true, true, true, true, true, false, false, false, false, false, false, false, false, false, false, false, false, false, false, false] rfl rfl (any_of HT_.out (by kernel_rfl)) (fun _ _ _ h => h) (Or.inr ⟨by rfl, rfl⟩) ?_ ?_
        rotate_left
        · simp only [Act.put, List.setIfInBounds_toArray, List.set_cons_zero, List.set_cons_succ, i64_w, i32_w]
          rfl
        refine pure_ (i := 9) (N := some 31) (v := undef) (a' := ?_) #[true, true, true, true, true, true, true, true, true, true, false, false, false, false, false, false, false, false, false, false, false, false, false, false] rfl rfl (any_of HT_.out (by kernel_rfl)) (fun _ _ _ h => h) (Or.inr ⟨by rfl, rfl⟩) ?_ ?_
        rotate_left
        · simp only [Act.put, List.setIfInBounds_toArray, List.set_cons_zero, List.set_cons_succ, i64_w, i32_w]
          rfl
        refine pure_ (i := 10) (N := some 32) (v := undef) (a' := ?_) #[true, true, true, true, true, true, true, true, true, true, true, false, false, false, false, false, false, false, false, false, false, false, false, false] rfl rfl (any_of HT_.out (by kernel_rfl)) (fun _ _ _ h => h) (Or.inr ⟨by rfl, rfl⟩) ?_ ?_
        rotate_left
        · simp only [Act.put, List.setIfInBounds_toArray, List.set_cons_zero, List.set_cons_succ, i64_w, i32_w]
          rfl
        refine pure_ (i := 11) (N := some 33) (v := undef) (a' := ?_) #[true, true, true, true, true, true, true, true, true, true, true, true, false, false, false, false, false, false, false, false, false, false, false, false] rfl rfl (any_of HT_.out (by kernel_rfl)) (fun _ _ _ h => h) (Or.inr ⟨by rfl, rfl⟩) ?_ ?_
        rotate_left
        · simp only [Act.put, List.setIfInBounds_toArray, List.set_cons_zero, List.set_cons_succ, i64_w, i32_w]
          rfl
        refine pure_ (i := 12) (N := some 34) (v := undef) (a' := ?_) #[true, true, true, true, true, true, true, true, true, true, true, true, true, false, false, false, false, false, false, false, false, false, false, false] rfl rfl (any_of HT_.out (by kernel_rfl)) (fun _ _ _ h => h) (Or.inr ⟨by rfl, rfl⟩) ?_ ?_
        rotate_left
        · simp only [Act.put, List.setIfInBounds_toArray, List.set_cons_zero, List.set_cons_succ, i64_w, i32_w]
          rfl
        refine pure_ (i := 13) (N := some 35) (v := undef) (a' := ?_) #[true, true, true, true, true, true, true, true, true, true, true, true, true, true, false, false, false, false, false, false, false, false, false, false] rfl rfl (any_of HT_.out (by kernel_rfl)) (fun _ _ _ h => h) (Or.inr ⟨by rfl, rfl⟩) ?_ ?_
        rotate_left
        · simp only [Act.put, List.setIfInBounds_toArray, List.set_cons_zero, List.set_cons_succ, i64_w, i32_w]
          rfl
        refine pure_ (i := 14) (N := some 36) (v := undef) (a' := ?_) #[true, true, true, true, true, true, true, true, true, true, true, true, true, true, true, false, false, false, false, false, false, false, false, false] rfl rfl (any_of HT_.out (by kernel_rfl)) (fun _ _ _ h => h) (Or.inr ⟨by rfl, rfl⟩) ?_ ?_
        rotate_left
        · simp only [Act.put, List.setIfInBounds_toArray, List.set_cons_zero, List.set_cons_succ, i64_w, i32_w]
          rfl
        refine pure_ (i := 15) (N := some 37) (v := undef) (a' := ?_) #[true, true, true, true, true, true, true, true, true, true, true, true, true, true, true, true, false, false, false, false, false, false, false, false] rfl rfl (any_of HT_.out (by kernel_rfl)) (fun _ _ _ h => h) (Or.inr ⟨by rfl, rfl⟩) ?_ ?_
        rotate_left
        · simp only [Act.put, List.setIfInBounds_toArray, List.set_cons_zero, List.set_cons_succ, i64_w, i32_w]
          rfl
        refine pure_ (i := 16) (N := some 38) (v := undef) (a' := ?_) #[true, true, true, true, true, true, true, true, true, true, true, true, true, true, true, true, true, false, false, false, false, false, false, false] rfl rfl (any_of HT_.out (by kernel_rfl)) (fun _ _ _ h => h) (Or.inr ⟨by rfl, rfl⟩) ?_ ?_
        rotate_left
        · simp only [Act.put, List.setIfInBounds_toArray, List.set_cons_zero, List.set_cons_succ, i64_w, i32_w]
          rfl
        refine pure_ (i := 17) (N := some 39) (v := undef) (a' := ?_) #[true, true, true, true, true, true, true, true, true, true, true, true, true, true, true, true, true, true, false, false, false, false, false, false] rfl rfl (any_of HT_.out (by kernel_rfl)) (fun _ _ _ h => h) (Or.inr ⟨by rfl, rfl⟩) ?_ ?_
        rotate_left
        · simp only [Act.put, List.setIfInBounds_toArray, List.set_cons_zero, List.set_cons_succ, i64_w, i32_w]
          rfl
        refine pure_ (i := 18) (N := some 40) (v := undef) (a' := ?_) #[true, true, true, true, true, true, true, true, true, true, true, true, true, true, true, true, true, true, true, false, false, false, false, false] rfl rfl (any_of HT_.out (by kernel_rfl)) (fun _ _ _ h => h) (Or.inr ⟨by rfl, rfl⟩) ?_ ?_
        rotate_left
        · simp only [Act.put, List.setIfInBounds_toArray, List.set_cons_zero, List.set_cons_succ, i64_w, i32_w]
          rfl
        refine pure_ (i := 19) (N := some 41) (v := undef) (a' := ?_) #[true, true, true, true, true, true, true, true, true, true, true, true, true, true, true, true, true, true, true, true, false, false, false, false] rfl rfl (any_of HT_.out (by kernel_rfl)) (fun _ _ _ h => h) (Or.inr ⟨by rfl, rfl⟩) ?_ ?_
        rotate_left
        · simp only [Act.put, List.setIfInBounds_toArray, List.set_cons_zero, List.set_cons_succ, i64_w, i32_w]
          rfl
        refine pure_ (i := 20) (N := some 42) (v := undef) (a' := ?_) #[true, true, true, true, true, true, true, true, true, true, true, true, true, true, true, true, true, true, true, true, true, false, false, false] rfl rfl (any_of HT_.out (by kernel_rfl)) (fun _ _ _ h => h) (Or.inr ⟨by rfl, rfl⟩) ?_ ?_
        rotate_left
        · simp only [Act.put, List.setIfInBounds_toArray, List.set_cons_zero, List.set_cons_succ, i64_w, i32_w]
          rfl
        refine pure_ (i := 21) (N := some 43) (v := undef) (a' := ?_) #[true, true, true, true, true, true, true, true, true, true, true, true, true, true, true, true, true, true, true, true, true, true, false, false] rfl rfl (any_of HT_.out (by kernel_rfl)) (fun _ _ _ h => h) (Or.inr ⟨by rfl, rfl⟩) ?_ ?_
        rotate_left
        · simp only [Act.put, List.setIfInBounds_toArray, List.set_cons_zero, List.set_cons_succ, i64_w, i32_w]
          rfl
        refine pure_ (i := 22) (N := some 44) (v := undef) (a' := ?_) #[true, true, true, true, true, true, true, true, true, true, true, true, true, true, true, true, true, true, true, true, true, true, true, false] rfl rfl (any_of HT_.out (by kernel_rfl)) (fun _ _ _ h => h) (Or.inr ⟨by rfl, rfl⟩) ?_ ?_
        rotate_left
        · simp only [Act.put, List.setIfInBounds_toArray, List.set_cons_zero, List.set_cons_succ, i64_w, i32_w]
          rfl
        refine pure_ (i := 23) (N := some 45) (v := ?_) (a' := ?_) #[true, true, true, true, true, true, true, true, true, true, true, true, true, true, true, true, true, true, true, true, true, true, true, true] rfl rfl (any_of HT_.out (by kernel_rfl)) (fun _ _ _ h => h) (Or.inl ⟨by rfl, ?_⟩) ?_ ?_
        rotate_left
        · intro w'
          go_simp
          with_reducible rfl
        rotate_left
        · simp only [Act.put, List.setIfInBounds_toArray, List.set_cons_zero, List.set_cons_succ, i64_w, i32_w]
          rfl
        refine done_ (done_of HT_.out (by kernel_rfl)) ?_
        have HS := Lib.hid (St.call (W := (w.alloc (.cells #[.int .i64 0, .int .i64 0] 30)).drew) ⟨HI.out.alloc _, (HB.out.alloc HB.out.size _).drew, kb_drew (kb_alloc (KeepBut.refl _ _ _) _), heap_alloc_new w _⟩ hglt HIA.out HBA.out HKA.out)
        clear HIA HBA HKA
        have d0 := blk_cell HS.out.r 0
        have d1 := blk_cell HS.out.r 1
        have f0 := blk_frozen HS.out.r 0
        have f1 := blk_frozen HS.out.r 1
        go_wp2_with fail
        exact bodyPost_ret (v := .tuple #[.agg #[.int .i64 0, .int .i64 0], .bool false]) (by simp [results, Tryd.results9, go_sem, d0, d1]) rfl ⟨rfl, (HS.out.p.far (p := ⟨w.heap.size, 0, none⟩) (by show g ≠ w.heap.size; omega) _).far (p := ⟨w.heap.size, 1, none⟩) (by show g ≠ w.heap.size; omega) _, (HS.out.b.setCell (p := ⟨w.heap.size, 0, none⟩) HB.out.size _).setCell (p := ⟨w.heap.size, 1, none⟩) HB.out.size _, kb_set (p := ⟨w.heap.size, 1, none⟩) (kb_set (p := ⟨w.heap.size, 0, none⟩) HS.out.k (.inl (Nat.le_refl _)) _) (.inl (Nat.le_refl _)) _⟩
      · have h2' : decide (2 ≤ r1) = true := by simp; omega
        rw [if_neg h2]
        rw [h2'] at hfol
        have HF := Lib.hid hfol
        clear hfol h2'
        by_cases h3 : e1 - (b + 1) > w1 / 2
        · rw [if_pos h3]
          have h3' : decide (w1 / 2 < e1 - (b + 1)) = true := by simpa using h3
          clear h3
          go_enter Tryd.func9, Tryd.ntmps9
          go_wp2_with fail
          have x1 : IntKind.i64.wrap (e1 - (b + 1)) = e1 - (b + 1) := IntWalk.i64_in _ (by omega)
          have x2 : w1.tdiv 2 = w1 / 2 := Int.tdiv_eq_ediv_of_nonneg (by omega)
          have x3 : IntKind.i64.wrap (w1 / 2) = w1 / 2 := IntWalk.i64_in _ (by omega)
          refine start_ (n := 24) (S := fun w' => True) (ds := []) #[false, false, false, false, false, false, false, false, false, false, false, false, false, false, false, false, false, false, false, false, false, false, false, false] (by kernel_rfl) rfl rfl (trivial) (fun hHeld => ?_)
          refine with_tabW note.tab3 note.bits3 (fun HT_ HW_ => ?_)
          refine pure_ (i := 0) (N := some 22) (v := ?_) (a' := ?_) #[true, false, false, false, false, false, false, false, false, false, false, false, false, false, false, false, false, false, false, false, false, false, false, false] rfl rfl (any_of HT_.out (by kernel_rfl)) (fun _ _ _ h => h) (Or.inl ⟨by rfl, ?_⟩) ?_ ?_
          rotate_left
          · intro w'
            go_simp
            with_reducible rfl
          rotate_left
          · simp only [Act.put, List.setIfInBounds_toArray, List.set_cons_zero, List.set_cons_succ, i64_w, i32_w]
            rfl
          refine pure_ (i := 1) (N := some 23) (v := ?_) (a' := ?_) #[true, true, false, false, false, false, false, false, false, false, false, false, false, false, false, false, false, false, false, false, false, false, false, false] rfl rfl (any_of HT_.out (by kernel_rfl)) (fun _ _ _ h => h) (Or.inl ⟨by rfl, ?_⟩) ?_ ?_
          rotate_left
          · intro w'
            go_simp
            with_reducible rfl
          rotate_left
          · simp only [Act.put, List.setIfInBounds_toArray, List.set_cons_zero, List.set_cons_succ, i64_w, i32_w]
            rfl
          refine one_ (i := 2) (N := some 24) #[true, true, true, false, false, false, false, false, false, false, false, false, false, false, false, false, false, false, false, false, false, false, false, false] rfl rfl (one_of HT_.out (by kernel_rfl)) (by decide) (fun K hK => ?_)
          refine goes_ Tryd.func18 (by kernel_rfl) rfl #[.pointer (some ⟨g, 0, none⟩), .int .i64 b] (by rfl) rfl rfl (by simp only [List.map_toArray, List.map_cons, List.map_nil]; rfl) ?_
          refine (HF.out _ (by repeat (first | exact HI.out | apply IsS52.drew | apply IsS52.alloc)) (by repeat (first | exact HB.out | apply Below.drew | refine Below.alloc ?_ HB.out.size _))).mono ?_
          rintro e wa ⟨rfl, hia, hba, hka⟩
          refine ⟨_, rfl, ?_⟩
          have HIA := Lib.hid hia
          have HBA := Lib.hid hba
          have HKA := Lib.hid hka
          clear hia hba hka
          refine hK.out _ _ (trivial) (fun hHeld => ?_)
          clear hK K
          refine norm_ (a' := ?_) ?_ ?_
          rotate_left
          · show Act.put _ (some 24) _ = _
            simp only [Act.put, List.setIfInBounds_toArray, List.set_cons_zero, List.set_cons_succ, i64_w, i32_w]
            rfl
          refine switch_ (S := fun w' => w'.cell? ⟨g, 6, none⟩ = some (.int .i64 e1) ∧ w'.cell? ⟨g, 3, none⟩ = some (.int .i64 (b + 1)) ∧ w'.cell? ⟨g, 5, none⟩ = some (.int .i64 w1)) (ds := []) (⟨cellS52_6 HIA.out.1, cellS52_3 HIA.out.1, cellS52_5 HIA.out.1⟩) (fun hHeld => ?_)
          refine pure_ (i := 3) (N := some 25) (v := ?_) (a' := ?_) #[true, true, true, true, false, false, false, false, false, false, false, false, false, false, false, false, false, false, false, false, false, false, false, false] rfl rfl (any_of HT_.out (by kernel_rfl)) (fun _ _ _ h => h) (Or.inl ⟨by rfl, ?_⟩) ?_ ?_
          rotate_left
          · intro w'
            go_simp
            with_reducible rfl
          rotate_left
          · simp only [Act.put, List.setIfInBounds_toArray, List.set_cons_zero, List.set_cons_succ, i64_w, i32_w]
            rfl
          refine pure_ (i := 4) (N := some 26) (v := ?_) (a' := ?_) #[true, true, true, true, true, false, false, false, false, false, false, false, false, false, false, false, false, false, false, false, false, false, false, false] rfl rfl (any_of HT_.out (by kernel_rfl)) (fun _ _ _ h => h) (Or.inl ⟨by rfl, ?_⟩) ?_ ?_
          rotate_left
          · intro w'
            go_simp
            with_reducible rfl
          rotate_left
          · simp only [Act.put, List.setIfInBounds_toArray, List.set_cons_zero, List.set_cons_succ, i64_w, i32_w]
            rfl
          refine pure_ (i := 5) (N := some 27) (v := ?_) (a' := ?_) #[true, true, true, true, true, true, false, false, false, false, false, false, false, false, false, false, false, false, false, false, false, false, false, false] rfl rfl (any_of HT_.out (by kernel_rfl)) (fun _ _ _ h => h) (Or.inl ⟨by rfl, ?_⟩) ?_ ?_
          rotate_left
          · intro w'
            go_simp
            with_reducible rfl
          rotate_left
          · simp only [Act.put, List.setIfInBounds_toArray, List.set_cons_zero, List.set_cons_succ, i64_w, i32_w]
            rfl
          refine pure_ (i := 6) (N := some 28) (v := ?_) (a' := ?_) #[true, true, true, true, true, true, true, false, false, false, false, false, false, false, false, false, false, false, false, false, false, false, false, false] rfl rfl (any_of HT_.out (by kernel_rfl)) (fun _ _ _ h => h) (Or.inl ⟨by rfl, ?_⟩) ?_ ?_
          rotate_left
          · intro w'
            go_simp
            with_reducible rfl
          rotate_left
          · simp only [Act.put, List.setIfInBounds_toArray, List.set_cons_zero, List.set_cons_succ, i64_w, i32_w]
            rfl
          refine pure_ (i := 7) (N := some 29) (v := ?_) (a' := ?_) #[true, true, true, true, true, true, true, true, false, false, false, false, false, false, false, false, false, false, false, false, false, false, false, false] rfl rfl (any_of HT_.out (by kernel_rfl)) (fun _ _ _ h => h) (Or.inl ⟨by rfl, ?_⟩) ?_ ?_
          rotate_left
          · intro w'
            go_simp
            with_reducible rfl
          rotate_left
          · simp only [Act.put, List.setIfInBounds_toArray, List.set_cons_zero, List.set_cons_succ, i64_w, i32_w]
            rfl
          refine pure_ (i := 8) (N := some 30) (v := ?_) (a' := ?_) #[true, true, true, true, true, true, true, true, true, false, false, false, false, false, false, false, false, false, false, false, false, false, false, false] rfl rfl (any_of HT_.out (by kernel_rfl)) (fun _ _ _ h => h) (Or.inl ⟨by rfl, ?_⟩) ?_ ?_
          rotate_left
          · intro w'
            go_simp
            with_reducible rfl
          rotate_left
          · simp only [Act.put, List.setIfInBounds_toArray, List.set_cons_zero, List.set_cons_succ, i64_w, i32_w]
            rfl
          refine pure_ (i := 10) (N := some 32) (v := ?_) (a' := ?_) #[true, true, true, true, true, true, true, true, true, false, true, false, false, false, false, false, false, false, false, false, false, false, false, false] rfl rfl (any_of HT_.out (by kernel_rfl)) (fun _ _ _ h => h) (Or.inl ⟨by rfl, ?_⟩) ?_ ?_
          rotate_left
          · intro w'
            go_simp
            with_reducible rfl
          rotate_left
          · simp only [Act.put, List.setIfInBounds_toArray, List.set_cons_zero, List.set_cons_succ, i64_w, i32_w]
            rfl
          refine pure_ (i := 11) (N := some 33) (v := ?_) (a' := ?_) #[true, true, true, true, true, true, true, true, true, false, true, true, false, false, false, false, false, false, false, false, false, false, false, false] rfl rfl (any_of HT_.out (by kernel_rfl)) (fun _ _ _ h => h) (Or.inl ⟨by rfl, ?_⟩) ?_ ?_
          rotate_left
          · intro w'
            go_simp
            with_reducible rfl
          rotate_left
          · simp only [Act.put, List.setIfInBounds_toArray, List.set_cons_zero, List.set_cons_succ, i64_w, i32_w]
            rfl
          refine pure_ (i := 12) (N := some 34) (v := ?_) (a' := ?_) #[true, true, true, true, true, true, true, true, true, false, true, true, true, false, false, false, false, false, false, false, false, false, false, false] rfl rfl (any_of HT_.out (by kernel_rfl)) (fun _ _ _ h => h) (Or.inl ⟨by rfl, ?_⟩) ?_ ?_
          rotate_left
          · intro w'
            go_simp
            with_reducible rfl
          rotate_left
          · simp only [Act.put, List.setIfInBounds_toArray, List.set_cons_zero, List.set_cons_succ, i64_w, i32_w]
            rfl
          refine pure_ (i := 13) (N := some 35) (v := ?_) (a' := ?_) #[true, true, true, true, true, true, true, true, true, false, true, true, true, true, false, false, false, false, false, false, false, false, false, false] rfl rfl (any_of HT_.out (by kernel_rfl)) (fun _ _ _ h => h) (Or.inl ⟨by rfl, ?_⟩) ?_ ?_
          rotate_left
          · intro w'
            go_simp
            with_reducible rfl
          rotate_left
          · simp only [Act.put, List.setIfInBounds_toArray, List.set_cons_zero, List.set_cons_succ, i64_w, i32_w]
            rfl
          refine pure_ (i := 16) (N := some 38) (v := ?_) (a' := ?_) #[true, true, true, true, true, true, true, true, true, false, true, true, true, true, false, false, true, false, false, false, false, false, false, false] rfl rfl (any_of HT_.out (by kernel_rfl)) (fun _ _ _ h => h) (Or.inl ⟨by rfl, ?_⟩) ?_ ?_
          rotate_left
          · intro w'
            go_simp
            with_reducible rfl
          rotate_left
          · simp only [Act.put, List.setIfInBounds_toArray, List.set_cons_zero, List.set_cons_succ, i64_w, i32_w]
            rfl
          refine pure_ (i := 17) (N := some 39) (v := ?_) (a' := ?_) #[true, true, true, true, true, true, true, true, true, false, true, true, true, true, false, false, true, true, false, false, false, false, false, false] rfl rfl (any_of HT_.out (by kernel_rfl)) (fun _ _ _ h => h) (Or.inl ⟨by rfl, ?_⟩) ?_ ?_
          rotate_left
          · intro w'
            go_simp
            with_reducible rfl
          rotate_left
          · simp only [Act.put, List.setIfInBounds_toArray, List.set_cons_zero, List.set_cons_succ, i64_w, i32_w]
            rfl
          refine pure_ (i := 18) (N := some 40) (v := ?_) (a' := ?_) #[true, true, true, true, true, true, true, true, true, false, true, true, true, true, false, false, true, true, true, false, false, false, false, false] rfl rfl (any_of HT_.out (by kernel_rfl)) (fun _ _ _ h => h) (Or.inl ⟨by rfl, ?_⟩) ?_ ?_
          rotate_left
          · intro w'
            go_simp
            with_reducible rfl
          rotate_left
          · simp only [Act.put, List.setIfInBounds_toArray, List.set_cons_zero, List.set_cons_succ, i64_w, i32_w]
            rfl
          refine pure_ (i := 19) (N := some 41) (v := ?_) (a' := ?_) #[true, true, true, true, true, true, true, true, true, false, true, true, true, true, false, false, true, true, true, true, false, false, false, false] rfl rfl (any_of HT_.out (by kernel_rfl)) (fun _ _ _ h => h) (Or.inl ⟨by rfl, ?_⟩) ?_ ?_
          rotate_left
          · intro w'
            go_simp
            with_reducible rfl
          rotate_left
          · simp only [Act.put, List.setIfInBounds_toArray, List.set_cons_zero, List.set_cons_succ, i64_w, i32_w]
            rfl
          refine take_ (i := 9) (N := some 31) (v := ?_) (a' := ?_) #[true, true, true, true, true, true, true, true, true, true, true, true, true, true, false, false, true, true, true, true, false, false, false, false] rfl rfl (take_ofW HT_.out HW_.out (by kernel_rfl)) (fun _ _ _ h => h) (Or.inl ⟨by rfl, ?_⟩) hHeld ?_ ?_
          rotate_left
          · rintro w' ⟨s0, s1, s2⟩
            go_simp
            with_reducible rfl
          rotate_left
          · simp only [Act.put, List.setIfInBounds_toArray, List.set_cons_zero, List.set_cons_succ, i64_w, i32_w]
            rfl
          refine take_ (i := 14) (N := some 36) (v := ?_) (a' := ?_) #[true, true, true, true, true, true, true, true, true, true, true, true, true, true, true, false, true, true, true, true, false, false, false, false] rfl rfl (take_ofW HT_.out HW_.out (by kernel_rfl)) (fun _ _ _ h => h) (Or.inl ⟨by rfl, ?_⟩) hHeld ?_ ?_
          rotate_left
          · rintro w' ⟨s0, s1, s2⟩
            go_simp
            with_reducible rfl
          rotate_left
          · simp only [Act.put, List.setIfInBounds_toArray, List.set_cons_zero, List.set_cons_succ, i64_w, i32_w]
            rfl
          refine pure_ (i := 15) (N := some 37) (v := ?_) (a' := ?_) #[true, true, true, true, true, true, true, true, true, true, true, true, true, true, true, true, true, true, true, true, false, false, false, false] rfl rfl (any_of HT_.out (by kernel_rfl)) (fun _ _ _ h => h) (Or.inl ⟨by rfl, ?_⟩) ?_ ?_
          rotate_left
          · intro w'
            go_simp
            with_reducible rfl
          rotate_left
          · simp only [Act.put, List.setIfInBounds_toArray, List.set_cons_zero, List.set_cons_succ, i64_w, i32_w]
            rfl
          refine take_ (i := 20) (N := some 42) (v := ?_) (a' := ?_) #[true, true, true, true, true, true, true, true, true, true, true, true, true, true, true, true, true, true, true, true, true, false, false, false] rfl rfl (take_ofW HT_.out HW_.out (by kernel_rfl)) (fun _ _ _ h => h) (Or.inl ⟨by rfl, ?_⟩) hHeld ?_ ?_
          rotate_left
          · rintro w' ⟨s0, s1, s2⟩
            go_simp
            with_reducible rfl
          rotate_left
          · simp only [Act.put, List.setIfInBounds_toArray, List.set_cons_zero, List.set_cons_succ, i64_w, i32_w]
            rfl
          refine pure_ (i := 21) (N := some 43) (v := ?_) (a' := ?_) #[true, true, true, true, true, true, true, true, true, true, true, true, true, true, true, true, true, true, true, true, true, true, false, false] rfl rfl (any_of HT_.out (by kernel_rfl)) (fun _ _ _ h => h) (Or.inl ⟨by rfl, ?_⟩) ?_ ?_
          rotate_left
          · intro w'
            go_simp
            with_reducible rfl
          rotate_left
          · simp only [Act.put, List.setIfInBounds_toArray, List.set_cons_zero, List.set_cons_succ, i64_w, i32_w]
            rfl
          refine pure_ (i := 22) (N := some 44) (v := ?_) (a' := ?_) #[true, true, true, true, true, true, true, true, true, true, true, true, true, true, true, true, true, true, true, true, true, true, true, false] rfl rfl (any_of HT_.out (by kernel_rfl)) (fun _ _ _ h => h) (Or.inl ⟨by rfl, ?_⟩) ?_ ?_
          rotate_left
          · intro w'
            go_simp
            with_reducible rfl
          rotate_left
          · simp only [Act.put, List.setIfInBounds_toArray, List.set_cons_zero, List.set_cons_succ, i64_w, i32_w]
            rfl
          refine pure_ (i := 23) (N := some 45) (v := ?_) (a' := ?_) #[true, true, true, true, true, true, true, true, true, true, true, true, true, true, true, true, true, true, true, true, true, true, true, true] rfl rfl (any_of HT_.out (by kernel_rfl)) (fun _ _ _ h => h) (Or.inl ⟨by rfl, ?_⟩) ?_ ?_
          rotate_left
          · intro w'
            go_simp
            with_reducible rfl
          rotate_left
          · simp only [Act.put, List.setIfInBounds_toArray, List.set_cons_zero, List.set_cons_succ, i64_w, i32_w]
            rfl
          refine done_ (done_of HT_.out (by kernel_rfl)) ?_
          have HS := Lib.hid (St.call (W := (w.alloc (.cells #[.int .i64 0, .int .i64 0] 30)).drew) ⟨HI.out.alloc _, (HB.out.alloc HB.out.size _).drew, kb_drew (kb_alloc (KeepBut.refl _ _ _) _), heap_alloc_new w _⟩ hglt HIA.out HBA.out HKA.out)
          clear HIA HBA HKA
          have d0 := blk_cell HS.out.r 0
          have d1 := blk_cell HS.out.r 1
          have f0 := blk_frozen HS.out.r 0
          have f1 := blk_frozen HS.out.r 1
          clear h3' x1 x2 x3
          go_wp2_with fail
          exact bodyPost_ret (v := .tuple #[.agg #[.int .i64 0, .int .i64 0], .bool false]) (by simp [results, Tryd.results9, go_sem, d0, d1]) rfl ⟨rfl, (HS.out.p.far (p := ⟨w.heap.size, 0, none⟩) (by show g ≠ w.heap.size; omega) _).far (p := ⟨w.heap.size, 1, none⟩) (by show g ≠ w.heap.size; omega) _, (HS.out.b.setCell (p := ⟨w.heap.size, 0, none⟩) HB.out.size _).setCell (p := ⟨w.heap.size, 1, none⟩) HB.out.size _, kb_set (p := ⟨w.heap.size, 1, none⟩) (kb_set (p := ⟨w.heap.size, 0, none⟩) HS.out.k (.inl (Nat.le_refl _)) _) (.inl (Nat.le_refl _)) _⟩
        · rw [if_neg h3]
          obtain ⟨r, hr⟩ : ∃ r, r = (if max e1 (b + 1) < min B ((b + 1 + (if w1 = 0 then min 2 M else min (2 * w1) M) + R - 1) / R * R) then ((max e1 (b + 1), min B ((b + 1 + (if w1 = 0 then min 2 M else min (2 * w1) M) + R - 1) / R * R), true), (b + 1, r1, (if w1 = 0 then min 2 M else min (2 * w1) M), min B ((b + 1 + (if w1 = 0 then min 2 M else min (2 * w1) M) + R - 1) / R * R))) else ((0, 0, false), (b + 1, r1, (if w1 = 0 then min 2 M else min (2 * w1) M), e1))) := ⟨_, rfl⟩
          rw [← hr]
          have HR := Lib.hid hr
          clear hr
          have h3' : decide (w1 / 2 < e1 - (b + 1)) = false := by simp; omega
          clear h3
          go_enter Tryd.func9, Tryd.ntmps9
          go_wp2_with fail
          have x1 : IntKind.i64.wrap (e1 - (b + 1)) = e1 - (b + 1) := IntWalk.i64_in _ (by omega)
          have x2 : w1.tdiv 2 = w1 / 2 := Int.tdiv_eq_ediv_of_nonneg (by omega)
          have x3 : IntKind.i64.wrap (w1 / 2) = w1 / 2 := IntWalk.i64_in _ (by omega)
          refine start_ (n := 24) (S := fun w' => True) (ds := []) #[false, false, false, false, false, false, false, false, false, false, false, false, false, false, false, false, false, false, false, false, false, false, false, false] (by kernel_rfl) rfl rfl (trivial) (fun hHeld => ?_)
          refine with_tabW note.tab3 note.bits3 (fun HT_ HW_ => ?_)
          refine pure_ (i := 0) (N := some 22) (v := ?_) (a' := ?_) #[true, false, false, false, false, false, false, false, false, false, false, false, false, false, false, false, false, false, false, false, false, false, false, false] rfl rfl (any_of HT_.out (by kernel_rfl)) (fun _ _ _ h => h) (Or.inl ⟨by rfl, ?_⟩) ?_ ?_
          rotate_left
          · intro w'
            go_simp
            with_reducible rfl
          rotate_left
          · simp only [Act.put, List.setIfInBounds_toArray, List.set_cons_zero, List.set_cons_succ, i64_w, i32_w]
            rfl
          refine pure_ (i := 1) (N := some 23) (v := ?_) (a' := ?_) #[true, true, false, false, false, false, false, false, false, false, false, false, false, false, false, false, false, false, false, false, false, false, false, false] rfl rfl (any_of HT_.out (by kernel_rfl)) (fun _ _ _ h => h) (Or.inl ⟨by rfl, ?_⟩) ?_ ?_
          rotate_left
          · intro w'
            go_simp
            with_reducible rfl
          rotate_left
          · simp only [Act.put, List.setIfInBounds_toArray, List.set_cons_zero, List.set_cons_succ, i64_w, i32_w]
            rfl
          refine one_ (i := 2) (N := some 24) #[true, true, true, false, false, false, false, false, false, false, false, false, false, false, false, false, false, false, false, false, false, false, false, false] rfl rfl (one_of HT_.out (by kernel_rfl)) (by decide) (fun K hK => ?_)
          refine goes_ Tryd.func18 (by kernel_rfl) rfl #[.pointer (some ⟨g, 0, none⟩), .int .i64 b] (by rfl) rfl rfl (by simp only [List.map_toArray, List.map_cons, List.map_nil]; rfl) ?_
          refine (HF.out _ (by repeat (first | exact HI.out | apply IsS52.drew | apply IsS52.alloc)) (by repeat (first | exact HB.out | apply Below.drew | refine Below.alloc ?_ HB.out.size _))).mono ?_
          rintro e wa ⟨rfl, hia, hba, hka⟩
          refine ⟨_, rfl, ?_⟩
          have HIA := Lib.hid hia
          have HBA := Lib.hid hba
          have HKA := Lib.hid hka
          clear hia hba hka
          refine hK.out _ _ (trivial) (fun hHeld => ?_)
          clear hK K
          refine norm_ (a' := ?_) ?_ ?_
          rotate_left
          · show Act.put _ (some 24) _ = _
            simp only [Act.put, List.setIfInBounds_toArray, List.set_cons_zero, List.set_cons_succ, i64_w, i32_w]
            rfl
          refine switch_ (S := fun w' => w'.cell? ⟨g, 6, none⟩ = some (.int .i64 e1) ∧ w'.cell? ⟨g, 3, none⟩ = some (.int .i64 (b + 1)) ∧ w'.cell? ⟨g, 5, none⟩ = some (.int .i64 w1)) (ds := []) (⟨cellS52_6 HIA.out.1, cellS52_3 HIA.out.1, cellS52_5 HIA.out.1⟩) (fun hHeld => ?_)
          refine pure_ (i := 3) (N := some 25) (v := ?_) (a' := ?_) #[true, true, true, true, false, false, false, false, false, false, false, false, false, false, false, false, false, false, false, false, false, false, false, false] rfl rfl (any_of HT_.out (by kernel_rfl)) (fun _ _ _ h => h) (Or.inl ⟨by rfl, ?_⟩) ?_ ?_
          rotate_left
          · intro w'
            go_simp
            with_reducible rfl
          rotate_left
          · simp only [Act.put, List.setIfInBounds_toArray, List.set_cons_zero, List.set_cons_succ, i64_w, i32_w]
            rfl
          refine pure_ (i := 4) (N := some 26) (v := ?_) (a' := ?_) #[true, true, true, true, true, false, false, false, false, false, false, false, false, false, false, false, false, false, false, false, false, false, false, false] rfl rfl (any_of HT_.out (by kernel_rfl)) (fun _ _ _ h => h) (Or.inl ⟨by rfl, ?_⟩) ?_ ?_
          rotate_left
          · intro w'
            go_simp
            with_reducible rfl
          rotate_left
          · simp only [Act.put, List.setIfInBounds_toArray, List.set_cons_zero, List.set_cons_succ, i64_w, i32_w]
            rfl
          refine pure_ (i := 5) (N := some 27) (v := ?_) (a' := ?_) #[true, true, true, true, true, true, false, false, false, false, false, false, false, false, false, false, false, false, false, false, false, false, false, false] rfl rfl (any_of HT_.out (by kernel_rfl)) (fun _ _ _ h => h) (Or.inl ⟨by rfl, ?_⟩) ?_ ?_
          rotate_left
          · intro w'
            go_simp
            with_reducible rfl
          rotate_left
          · simp only [Act.put, List.setIfInBounds_toArray, List.set_cons_zero, List.set_cons_succ, i64_w, i32_w]
            rfl
          refine pure_ (i := 6) (N := some 28) (v := ?_) (a' := ?_) #[true, true, true, true, true, true, true, false, false, false, false, false, false, false, false, false, false, false, false, false, false, false, false, false] rfl rfl (any_of HT_.out (by kernel_rfl)) (fun _ _ _ h => h) (Or.inl ⟨by rfl, ?_⟩) ?_ ?_
          rotate_left
          · intro w'
            go_simp
            with_reducible rfl
          rotate_left
          · simp only [Act.put, List.setIfInBounds_toArray, List.set_cons_zero, List.set_cons_succ, i64_w, i32_w]
            rfl
          refine pure_ (i := 7) (N := some 29) (v := ?_) (a' := ?_) #[true, true, true, true, true, true, true, true, false, false, false, false, false, false, false, false, false, false, false, false, false, false, false, false] rfl rfl (any_of HT_.out (by kernel_rfl)) (fun _ _ _ h => h) (Or.inl ⟨by rfl, ?_⟩) ?_ ?_
          rotate_left
          · intro w'
            go_simp
            with_reducible rfl
          rotate_left
          · simp only [Act.put, List.setIfInBounds_toArray, List.set_cons_zero, List.set_cons_succ, i64_w, i32_w]
            rfl
          refine pure_ (i := 8) (N := some 30) (v := ?_) (a' := ?_) #[true, true, true, true, true, true, true, true, true, false, false, false, false, false, false, false, false, false, false, false, false, false, false, false] rfl rfl (any_of HT_.out (by kernel_rfl)) (fun _ _ _ h => h) (Or.inl ⟨by rfl, ?_⟩) ?_ ?_
          rotate_left
          · intro w'
            go_simp
            with_reducible rfl
          rotate_left
          · simp only [Act.put, List.setIfInBounds_toArray, List.set_cons_zero, List.set_cons_succ, i64_w, i32_w]
            rfl
          refine pure_ (i := 10) (N := some 32) (v := ?_) (a' := ?_) #[true, true, true, true, true, true, true, true, true, false, true, false, false, false, false, false, false, false, false, false, false, false, false, false] rfl rfl (any_of HT_.out (by kernel_rfl)) (fun _ _ _ h => h) (Or.inl ⟨by rfl, ?_⟩) ?_ ?_
          rotate_left
          · intro w'
            go_simp
            with_reducible rfl
          rotate_left
          · simp only [Act.put, List.setIfInBounds_toArray, List.set_cons_zero, List.set_cons_succ, i64_w, i32_w]
            rfl
          refine pure_ (i := 11) (N := some 33) (v := ?_) (a' := ?_) #[true, true, true, true, true, true, true, true, true, false, true, true, false, false, false, false, false, false, false, false, false, false, false, false] rfl rfl (any_of HT_.out (by kernel_rfl)) (fun _ _ _ h => h) (Or.inl ⟨by rfl, ?_⟩) ?_ ?_
          rotate_left
          · intro w'
            go_simp
            with_reducible rfl
          rotate_left
          · simp only [Act.put, List.setIfInBounds_toArray, List.set_cons_zero, List.set_cons_succ, i64_w, i32_w]
            rfl
          refine pure_ (i := 12) (N := some 34) (v := ?_) (a' := ?_) #[true, true, true, true, true, true, true, true, true, false, true, true, true, false, false, false, false, false, false, false, false, false, false, false] rfl rfl (any_of HT_.out (by kernel_rfl)) (fun _ _ _ h => h) (Or.inl ⟨by rfl, ?_⟩) ?_ ?_
          rotate_left
          · intro w'
            go_simp
            with_reducible rfl
          rotate_left
          · simp only [Act.put, List.setIfInBounds_toArray, List.set_cons_zero, List.set_cons_succ, i64_w, i32_w]
            rfl
          refine pure_ (i := 13) (N := some 35) (v := ?_) (a' := ?_) #[true, true, true, true, true, true, true, true, true, false, true, true, true, true, false, false, false, false, false, false, false, false, false, false] rfl rfl (any_of HT_.out (by kernel_rfl)) (fun _ _ _ h => h) (Or.inl ⟨by rfl, ?_⟩) ?_ ?_
          rotate_left
          · intro w'
            go_simp
            with_reducible rfl
          rotate_left
          · simp only [Act.put, List.setIfInBounds_toArray, List.set_cons_zero, List.set_cons_succ, i64_w, i32_w]
            rfl
          refine pure_ (i := 16) (N := some 38) (v := ?_) (a' := ?_) #[true, true, true, true, true, true, true, true, true, false, true, true, true, true, false, false, true, false, false, false, false, false, false, false] rfl rfl (any_of HT_.out (by kernel_rfl)) (fun _ _ _ h => h) (Or.inl ⟨by rfl, ?_⟩) ?_ ?_
          rotate_left
          · intro w'
            go_simp
            with_reducible rfl
          rotate_left
          · simp only [Act.put, List.setIfInBounds_toArray, List.set_cons_zero, List.set_cons_succ, i64_w, i32_w]
            rfl
          refine pure_ (i := 17) (N := some 39) (v := ?_) (a' := ?_) #[true, true, true, true, true, true, true, true, true, false, true, true, true, true, false, false, true, true, false, false, false, false, false, false] rfl rfl (any_of HT_.out (by kernel_rfl)) (fun _ _ _ h => h) (Or.inl ⟨by rfl, ?_⟩) ?_ ?_
          rotate_left
          · intro w'
            go_simp
            with_reducible rfl
          rotate_left
          · simp only [Act.put, List.setIfInBounds_toArray, List.set_cons_zero, List.set_cons_succ, i64_w, i32_w]
            rfl
          refine pure_ (i := 18) (N := some 40) (v := ?_) (a' := ?_) #[true, true, true, true, true, true, true, true, true, false, true, true, true, true, false, false, true, true, true, false, false, false, false, false] rfl rfl (any_of HT_.out (by kernel_rfl)) (fun _ _ _ h => h) (Or.inl ⟨by rfl, ?_⟩) ?_ ?_
          rotate_left
          · intro w'
            go_simp
            with_reducible rfl
          rotate_left
          · simp only [Act.put, List.setIfInBounds_toArray, List.set_cons_zero, List.set_cons_succ, i64_w, i32_w]
            rfl
          refine pure_ (i := 19) (N := some 41) (v := ?_) (a' := ?_) #[true, true, true, true, true, true, true, true, true, false, true, true, true, true, false, false, true, true, true, true, false, false, false, false] rfl rfl (any_of HT_.out (by kernel_rfl)) (fun _ _ _ h => h) (Or.inl ⟨by rfl, ?_⟩) ?_ ?_
          rotate_left
          · intro w'
            go_simp
            with_reducible rfl
          rotate_left
          · simp only [Act.put, List.setIfInBounds_toArray, List.set_cons_zero, List.set_cons_succ, i64_w, i32_w]
            rfl
          refine take_ (i := 9) (N := some 31) (v := ?_) (a' := ?_) #[true, true, true, true, true, true, true, true, true, true, true, true, true, true, false, false, true, true, true, true, false, false, false, false] rfl rfl (take_ofW HT_.out HW_.out (by kernel_rfl)) (fun _ _ _ h => h) (Or.inl ⟨by rfl, ?_⟩) hHeld ?_ ?_
          rotate_left
          · rintro w' ⟨s0, s1, s2⟩
            go_simp
            with_reducible rfl
          rotate_left
          · simp only [Act.put, List.setIfInBounds_toArray, List.set_cons_zero, List.set_cons_succ, i64_w, i32_w]
            rfl
          refine take_ (i := 14) (N := some 36) (v := ?_) (a' := ?_) #[true, true, true, true, true, true, true, true, true, true, true, true, true, true, true, false, true, true, true, true, false, false, false, false] rfl rfl (take_ofW HT_.out HW_.out (by kernel_rfl)) (fun _ _ _ h => h) (Or.inl ⟨by rfl, ?_⟩) hHeld ?_ ?_
          rotate_left
          · rintro w' ⟨s0, s1, s2⟩
            go_simp
            with_reducible rfl
          rotate_left
          · simp only [Act.put, List.setIfInBounds_toArray, List.set_cons_zero, List.set_cons_succ, i64_w, i32_w]
            rfl
          refine pure_ (i := 15) (N := some 37) (v := ?_) (a' := ?_) #[true, true, true, true, true, true, true, true, true, true, true, true, true, true, true, true, true, true, true, true, false, false, false, false] rfl rfl (any_of HT_.out (by kernel_rfl)) (fun _ _ _ h => h) (Or.inl ⟨by rfl, ?_⟩) ?_ ?_
          rotate_left
          · intro w'
            go_simp
            with_reducible rfl
          rotate_left
          · simp only [Act.put, List.setIfInBounds_toArray, List.set_cons_zero, List.set_cons_succ, i64_w, i32_w]
            rfl
          refine take_ (i := 20) (N := some 42) (v := ?_) (a' := ?_) #[true, true, true, true, true, true, true, true, true, true, true, true, true, true, true, true, true, true, true, true, true, false, false, false] rfl rfl (take_ofW HT_.out HW_.out (by kernel_rfl)) (fun _ _ _ h => h) (Or.inl ⟨by rfl, ?_⟩) hHeld ?_ ?_
          rotate_left
          · rintro w' ⟨s0, s1, s2⟩
            go_simp
            with_reducible rfl
          rotate_left
          · simp only [Act.put, List.setIfInBounds_toArray, List.set_cons_zero, List.set_cons_succ, i64_w, i32_w]
            rfl
          refine pure_ (i := 21) (N := some 43) (v := ?_) (a' := ?_) #[true, true, true, true, true, true, true, true, true, true, true, true, true, true, true, true, true, true, true, true, true, true, false, false] rfl rfl (any_of HT_.out (by kernel_rfl)) (fun _ _ _ h => h) (Or.inl ⟨by rfl, ?_⟩) ?_ ?_
          rotate_left
          · intro w'
            go_simp
            with_reducible rfl
          rotate_left
          · simp only [Act.put, List.setIfInBounds_toArray, List.set_cons_zero, List.set_cons_succ, i64_w, i32_w]
            rfl
          refine pure_ (i := 22) (N := some 44) (v := ?_) (a' := ?_) #[true, true, true, true, true, true, true, true, true, true, true, true, true, true, true, true, true, true, true, true, true, true, true, false] rfl rfl (any_of HT_.out (by kernel_rfl)) (fun _ _ _ h => h) (Or.inl ⟨by rfl, ?_⟩) ?_ ?_
          rotate_left
          · intro w'
            go_simp
            with_reducible rfl
          rotate_left
          · simp only [Act.put, List.setIfInBounds_toArray, List.set_cons_zero, List.set_cons_succ, i64_w, i32_w]
            rfl
          refine pure_ (i := 23) (N := some 45) (v := ?_) (a' := ?_) #[true, true, true, true, true, true, true, true, true, true, true, true, true, true, true, true, true, true, true, true, true, true, true, true] rfl rfl (any_of HT_.out (by kernel_rfl)) (fun _ _ _ h => h) (Or.inl ⟨by rfl, ?_⟩) ?_ ?_
          rotate_left
          · intro w'
            go_simp
            with_reducible rfl
          rotate_left
          · simp only [Act.put, List.setIfInBounds_toArray, List.set_cons_zero, List.set_cons_succ, i64_w, i32_w]
            rfl
          refine done_ (done_of HT_.out (by kernel_rfl)) ?_
          have HS := Lib.hid (St.call (W := (w.alloc (.cells #[.int .i64 0, .int .i64 0] 30)).drew) ⟨HI.out.alloc _, (HB.out.alloc HB.out.size _).drew, kb_drew (kb_alloc (KeepBut.refl _ _ _) _), heap_alloc_new w _⟩ hglt HIA.out HBA.out HKA.out)
          clear HIA HBA HKA
          have d0 := blk_cell HS.out.r 0
          have d1 := blk_cell HS.out.r 1
          have f0 := blk_frozen HS.out.r 0
          have f1 := blk_frozen HS.out.r 1
          clear h3' x1 x2 x3 d0 d1 f0 f1
          go_wp2_with fail
          refine (HW.out _ HS.out.p HS.out.b).mono ?_
          rintro e wb ⟨rfl, hib, hbb, hkb⟩
          have HS2 := Lib.hid (HS.out.call hglt hib hbb hkb)
          clear hib hbb hkb HS
          have hw2 : 0 ≤ (if w1 = 0 then min 2 M else min (2 * w1) M) ∧ (if w1 = 0 then min 2 M else min (2 * w1) M) ≤ 64 := by split <;> omega
          generalize (if w1 = 0 then min 2 M else min (2 * w1) M) = w2 at *
          have c5 := cellS52_5 HS2.out.p.1
          have f5 := blk_frozen HS2.out.p.1 5
          go_wp2_with fail
          clear c5 f5
          refine wp_gen (St w0 w g B R M (b + 1) r1 w2 e1) ⟨HS2.out.p.set_5 _, HS2.out.b.setCell HS2.out.p.2 _, kb_set HS2.out.k (.inr rfl) _, blk_far HS2.out.r (p := ⟨g, 5, none⟩) (by show w.heap.size ≠ g; omega) _⟩ ?_
          intro W3 hS3
          have q6 : ∀ wx, St w0 w g B R M (b + 1) r1 w2 e1 wx → wx.cell? ⟨g, 6, none⟩ = some (.int .i64 e1) := fun wx h => cellS52_6 h.p.1
          have q3 : ∀ wx, St w0 w g B R M (b + 1) r1 w2 e1 wx → wx.cell? ⟨g, 3, none⟩ = some (.int .i64 (b + 1)) := fun wx h => cellS52_3 h.p.1
          have q5 : ∀ wx, St w0 w g B R M (b + 1) r1 w2 e1 wx → wx.cell? ⟨g, 5, none⟩ = some (.int .i64 w2) := fun wx h => cellS52_5 h.p.1
          have HU := Lib.hid (fun wx (h : St w0 w g B R M (b + 1) r1 w2 e1 wx) => upB (B := B) (R := R) (M := M) (nx := b + 1) (run := r1) (win := w2) (en := e1) (b + 1 + w2) (by omega) (by omega) hr1 hr2 g w0 wx h.p h.b)
          have e2 : IntKind.i64.wrap (b + 1 + w2) = b + 1 + w2 := IntWalk.i64_in _ (by omega)
          have hl3 : w.heap.size < W3.heap.size := blk_lt hS3.r
          have hne : W3.heap.size ≠ g := by have := hS3.p.lt; omega
          go_upto_region 6 with fail
          go_cut [6] (fun s6 wx => ∃ q : Nat, s6 = .pointer (some ⟨q, 0, none⟩) ∧ St w0 w g B R M (b + 1) r1 w2 e1 wx ∧ q ≠ g ∧ q ≠ w.heap.size ∧ w.heap.size ≤ q ∧ wx.heap[q]? = some (.cells #[.int .i64 (max e1 (b + 1)), .int .i64 (min B ((b + 1 + w2 + R - 1) / R * R))] 30 (0, 0)))
          case first =>
            go_region_held3 (fun w' => St w0 w g B R M (b + 1) r1 w2 e1 w') (first | assumption | exact St.drew (by assumption) | exact St.alloc (by assumption) _ | (refine St.set (St.set (by assumption) hglt (p := ⟨_, 0, none⟩) ?_ _) hglt (p := ⟨_, 1, none⟩) ?_ _ <;> (simp only []; omega))) ((first | (go_at_call 20; refine (HU.out _ (by assumption)).mono ?_; rintro e wc ⟨rfl, hic, hbc, hkc⟩; have hsc := St.call (by assumption) hglt hic hbc hkc; obtain ⟨hz1, hz2⟩ := kbcell hkc; have hz3 := hkc.1; (try simp at hz3))))
            all_goals
              go_wp2_with fail
              go_meet
              first
                | exact ⟨wc.heap.size, rfl, by assumption, by omega, by omega, by omega, heap_alloc_new _ _⟩
                | exact ⟨W3.heap.size, rfl, by assumption, by omega, by omega, by omega, by
                    have hb : wc.heap[W3.heap.size]? = some (.cells #[.int .i64 0, .int .i64 0] 30 (0, 0)) := (hkc.2 _ (by simp) hne (by simp)).trans (heap_alloc_new _ _)
                    have := blk_set (blk_set hb 0 (.int .i64 (max e1 (b + 1)))) 1 (.int .i64 (min B ((b + 1 + w2 + R - 1) / R * R)))
                    simpa using this⟩
          case rest =>
            obtain ⟨q, rfl, hS4, hq1, hq2, hq3, hq4⟩ := hcut
            have hf0 : 0 ≤ max e1 (b + 1) := by omega
            have ht0 : min B ((b + 1 + w2 + R - 1) / R * R) ≤ B := by omega
            clear q6 q3 q5 e2 hS3 hl3 hne
            generalize max e1 (b + 1) = f at *
            generalize min B ((b + 1 + w2 + R - 1) / R * R) = t at *
            have x0 := blk_cell hq4 0
            have x1 := blk_cell hq4 1
            have HQ4 := Lib.hid hq4
            clear hq4
            go_wp2_with fail
            refine (HG.out _ _ _).mono ?_
            rintro e wd ⟨rfl, hbd⟩
            have HS5 := Lib.hid (hS4.below hbd)
            have hq5 := Lib.hid ((hbd.block q (blk_lt HQ4.out)).trans HQ4.out)
            clear hS4 x0 x1
            have d0 := blk_cell HS5.out.r 0
            have d1 := blk_cell HS5.out.r 1
            have fr0 := blk_frozen HS5.out.r 0
            have fr1 := blk_frozen HS5.out.r 1
            by_cases h4 : f < t
            · have hr := HR.out
              rw [if_pos h4] at hr
              have HR2 := Lib.hid hr
              clear hr HR
              have h4' : (decide (0 ≤ f) && decide (f < t) && decide (t ≤ 1099511627776)) = true := by simp; omega
              rw [h4']
              have x0 := blk_cell hq5.out 0
              have x1 := blk_cell hq5.out 1
              have c6 := cellS52_6 HS5.out.p.1
              have f6 := blk_frozen HS5.out.p.1 6
              clear h4'
              go_wp2_with fail
              rw [HR2.out]
              exact bodyPost_ret (v := .tuple #[.agg #[.int .i64 f, .int .i64 t], .bool true]) (by simp [results, Tryd.results9, go_sem, d0, d1]) rfl ⟨rfl, ((HS5.out.p.set_6 _).far (p := ⟨w.heap.size, 0, none⟩) (by show g ≠ w.heap.size; omega) _).far (p := ⟨w.heap.size, 1, none⟩) (by show g ≠ w.heap.size; omega) _, ((HS5.out.b.setCell (p := ⟨g, 6, none⟩) HS5.out.p.2 _).setCell (p := ⟨w.heap.size, 0, none⟩) HB.out.size _).setCell (p := ⟨w.heap.size, 1, none⟩) HB.out.size _, kb_set (p := ⟨w.heap.size, 1, none⟩) (kb_set (p := ⟨w.heap.size, 0, none⟩) (kb_set (p := ⟨g, 6, none⟩) HS5.out.k (.inr rfl) _) (.inl (Nat.le_refl _)) _) (.inl (Nat.le_refl _)) _⟩
            · have hr := HR.out
              rw [if_neg h4] at hr
              have HR2 := Lib.hid hr
              clear hr HR
              have h4' : (decide (0 ≤ f) && decide (f < t) && decide (t ≤ 1099511627776)) = false := by simp; omega
              rw [h4']
              clear h4'
              go_wp2_with fail
              rw [HR2.out]
              exact bodyPost_ret (v := .tuple #[.agg #[.int .i64 0, .int .i64 0], .bool false]) (by simp [results, Tryd.results9, go_sem, d0, d1]) rfl ⟨rfl, (HS5.out.p.far (p := ⟨w.heap.size, 0, none⟩) (by show g ≠ w.heap.size; omega) _).far (p := ⟨w.heap.size, 1, none⟩) (by show g ≠ w.heap.size; omega) _, (HS5.out.b.setCell (p := ⟨w.heap.size, 0, none⟩) HB.out.size _).setCell (p := ⟨w.heap.size, 1, none⟩) HB.out.size _, kb_set (p := ⟨w.heap.size, 1, none⟩) (kb_set (p := ⟨w.heap.size, 0, none⟩) HS5.out.k (.inl (Nat.le_refl _)) _) (.inl (Nat.le_refl _)) _⟩
end Go.Proofs.YtfbibiiiepgdaaaDoor
