/- The reference's queue: a block is put. -/
import Derived.Test.YtffegfidaolgjaaRTake
import Derived.Test.YtffegfidaolgjaaQP
import Derived.Deep.DeepCutAuto
import Derived.Deep.RegionHeld3
import Derived.Test.YtffegfidaolgjaaWLast
import Derived.Test.YtffegfidaolgjaaWTab
set_option linter.unusedVariables false
set_option linter.unusedSimpArgs false
namespace Go.Proofs.Ytffegfidaolgjaa
open Go.RowKit Go.Proofs.YtffegfidaolgjaaW.PrintLast
def rputT.T10 : Bool × List (List Nat × List Nat) := (true, [([], []), ([], []), ([1], [1]), ([2], [2]), ([3], [3]), ([], []), ([], []), ([], []), ([7], [7]), ([8], [8]), ([9], [9]), ([5, 6, 10], [5, 6, 10]), ([11], [11]), ([4, 12], [4, 12]), ([0, 0, 1, 2, 3, 4, 5, 6, 7, 8, 9, 10, 11, 12, 13], [0]), ([14, 0, 1, 2, 3, 4, 5, 6, 7, 8, 9, 10, 11, 12, 13], [14]), ([15, 13, 13, 0, 1, 2, 3, 4, 5, 6, 7, 8, 9, 10, 11, 12, 13], [13, 15])])
def rputT.B10 : List Nat := [0, 0, 2, 6, 14, 0, 0, 0, 128, 384, 896, 2016, 4064, 8190, 16383, 32767, 65535]
theorem rputT.tab10 : rtab .any (opsOf Try.f19 10) = rputT.T10 := by kernel_rfl
theorem rputT.bits10 : waitsOk rputT.T10.2 rputT.B10 = true := by kernel_rfl
def rputE (s : QS) (key : Int) (d : ByteArray) : Int := if key < 0 ∨ 1099511627776 ≤ key then 3 else if d.size ≠ 64 then 4 else if rhas s key = true then 0 else if fullP s = true then 10 else 0
def rputR (s : QS) (key : Int) (d : ByteArray) : List El := if rhas s key = true then s.rs.set (rpos s.rs key) ⟨(nth s.rs (rpos s.rs key)).f0, d, (nth s.rs (rpos s.rs key)).f2⟩ else s.rs ++ [⟨key, d, s.clock⟩]
def rputS (s : QS) (key : Int) (d : ByteArray) : QS := if rputE s key d = 0 then { s with rs := rputR s key d, clock := s.clock + 1 } else s
theorem append_exec {P : Program} {oi : Oper} {a : Go.Act} {w w' : World} {v' v x : Value} (s y : Operand) (t : TypeId) (ho : oi.op = .call { callee := .builtin .append, args := #[s, y], argTypes := #[t, t] })
    (hs : a.eval s = v) (hy : a.eval y = x) (hr : (Builtin.append_ #[t, t] oi.type #[v, x]).run P w = .ok v' w') : (execOp a.eval oi).run P w = .ok (.value v') w' := by
  unfold execOp
  simp only [ho, resolve, invoke, builtin, Sem.run_bind, Sem.run_pure, Result.andThen_ok, List.map_toArray, List.map_cons, List.map_nil, hs, hy, hr]
set_option maxHeartbeats 8000000 in
set_option maxRecDepth 100000 in
theorem putR' (w : World) (base g : Nat) (v : Value) (s : QS) (key : Int) (d : ByteArray) (hlen : s.rs.length ≤ 256) (hd : d.size ≤ 100000) (hc0 : 0 ≤ s.clock) (hsm : s.clock ≤ 1000000) (hb : base ≤ w.heap.size) (h : IsR w base g v s) :
    Calls Try.prog 19 #[PT g, .int .i64 key, .string d] w fun e w' => ∃ v', e = .returned (.int .i64 (rputE s key d)) ∧ IsR w' base g v' (rputS s key d) ∧ Kt 44 base g w w' := by
  have K := Lib.hid (findR w base g v s key (by omega) h)
  have H := Lib.hid h
  have HB := Lib.hid hb
  clear h hb
  by_cases hr : key < 0 ∨ 1099511627776 ≤ key
  · have hE : rputE s key d = 3 := by unfold rputE; rw [if_pos hr]
    have hS : rputS s key d = s := by unfold rputS; rw [hE]; simp
    rw [hE, hS]
    clear hE hS
    by_cases h1 : key < 0
    · have e1 : decide (key < 0) = true := decide_eq_true h1
      clear hr K
      go_enter Try.func19, Try.ntmps19
      go_wp2_with fail
      go_ret
      first | exact ⟨v, rfl, H.out, Kt.refl _ _ _ _⟩ | exact ⟨rfl, ⟨v, H.out⟩, Kt.refl _ _ _ _⟩
    · have h2 : key ≥ 1099511627776 := by omega
      have e1 : decide (key < 0) = false := decide_eq_false h1
      have e2 : decide (key ≥ 1099511627776) = true := decide_eq_true h2
      have e3 : decide (1099511627776 ≤ key) = true := decide_eq_true h2
      clear hr K
      go_enter Try.func19, Try.ntmps19
      go_wp2_with fail
      go_ret
      first | exact ⟨v, rfl, H.out, Kt.refl _ _ _ _⟩ | exact ⟨rfl, ⟨v, H.out⟩, Kt.refl _ _ _ _⟩
  have hr1 : ¬ key < 0 := by omega
  have hr2 : ¬ key ≥ 1099511627776 := by omega
  have e1 : decide (key < 0) = false := decide_eq_false hr1
  have e2 : decide (key ≥ 1099511627776) = false := decide_eq_false hr2
  have e3 : decide (1099511627776 ≤ key) = false := decide_eq_false hr2
  by_cases h64 : d.size ≠ 64
  · have hE : rputE s key d = 4 := by unfold rputE; rw [if_neg hr, if_pos h64]
    have hS : rputS s key d = s := by unfold rputS; rw [hE]; simp
    rw [hE, hS]
    have e4 : ((d.size : Int) != 64) = true := by simp; omega
    have e5 : decide ((d.size : Int) = 64) = false := decide_eq_false (by omega)
    have e6 : ((d.size : Int) == 64) = false := beq_false_of_ne (by omega)
    clear hE hS K hr
    go_enter Try.func19, Try.ntmps19
    go_wp2_with fail
    go_ret
    first | exact ⟨v, rfl, H.out, Kt.refl _ _ _ _⟩ | exact ⟨rfl, ⟨v, H.out⟩, Kt.refl _ _ _ _⟩
  have h64' : d.size = 64 := by omega
  have e4 : ((d.size : Int) != 64) = false := by simp; omega
  have e5 : decide ((d.size : Int) = 64) = true := decide_eq_true (by omega)
  have e6 : ((d.size : Int) == 64) = true := by simp; omega
  have hw1 : IntKind.i64.wrap (s.clock + 1) = s.clock + 1 := w64i (by omega) (by omega)
  by_cases hin : rpos s.rs key < s.rs.length
  · have hh : rhas s key = true := by unfold rhas; exact decide_eq_true hin
    have hE : rputE s key d = 0 := by unfold rputE; rw [if_neg hr, if_neg h64, if_pos hh]
    have hS : rputS s key d = { s with rs := s.rs.set (rpos s.rs key) ⟨(nth s.rs (rpos s.rs key)).f0, d, (nth s.rs (rpos s.rs key)).f2⟩, clock := s.clock + 1 } := by unfold rputS rputR; rw [if_pos hE, if_pos hh]
    have hF : rfind s key = (rpos s.rs key : Int) := by unfold rfind; rw [if_pos hin]
    rw [hF] at K
    rw [hE, hS]
    obtain ⟨A, c, rfl, hc, hR⟩ := readsR H.out.row
    have HLL : Hid (s.rs.length = s.rs.length) := Lib.hid rfl
    have e7 : decide ((rpos s.rs key : Int) < 0) = false := decide_eq_false (by omega)
    have e8 : decide ((rpos s.rs key : Int) ≥ 0) = true := decide_eq_true (by omega)
    have e9 : decide (0 ≤ (rpos s.rs key : Int)) = true := decide_eq_true (by omega)
    have HSW := Lib.hid (fun wx (h : IsR wx base g (.slice A s.rs.length c) s) => h.row.setW (k := rpos s.rs key) (j := 1) hin (by decide) ⟨(nth s.rs (rpos s.rs key)).f0, d, (nth s.rs (rpos s.rs key)).f2⟩ (.string d) rfl)
    have HCE := Lib.hid (fun wx (h : IsR wx base g (.slice A s.rs.length c) s) => show ∃ ad, A = some ad ∧ RCs wx ad s.rs (rpos s.rs key) from by
      obtain ⟨A', c', e, _, hR⟩ := readsR h.row
      simp only [Value.slice.injEq] at e
      obtain ⟨ad, e2, hcells⟩ := RC.some hR (by omega)
      exact ⟨ad, by rw [e.1]; exact e2, hcells wx (Bel.refl wx) _ hin⟩)
    clear hE hS hF hh hr hR HLL
    generalize hi : rpos s.rs key = i at *
    clear hi
    generalize hl2 : s.rs.set i ⟨(nth s.rs i).f0, d, (nth s.rs i).f2⟩ = l2 at *
    clear hl2
    generalize hn : s.rs.length = n at *
    clear hn
    go_enter Try.func19, Try.ntmps19
    go_wp2_with fail
    refine K.out.mono ?_
    rintro e w1 ⟨rfl, rfl⟩
    go_wp2_with fail
    go_quiet (fail)
    refine then_gen (fun W => Bel w1 W) (Bel.drewN _ _) ?_
    rintro W hbW
    have HW := Lib.hid (And.intro (H.out.bel hbW) hbW)
    obtain ⟨ad, rfl, x0, x1, x2⟩ := HCE.out W HW.out.1
    have hblk := HW.out.1.blk
    have c1 := blk_cell hblk 1
    obtain ⟨g', c', e', hg', hfz, hset, hgr⟩ := HSW.out W HW.out.1
    simp only [Value.slice.injEq, Option.some.injEq] at e'
    obtain ⟨rfl, _, rfl⟩ := e'
    have hng : g' ≠ g := fun e => by
      have := HW.out.1.row.ne_blk hblk (by decide)
      rw [e] at this
      exact this rfl
    have hb2 := setc_off (i := i * 3 + 1) hblk hng.symm (.string d)
    have c2 := blk_cell hb2 2
    have f2 := blk_frozen hb2 2
    have hfz : W.frozen? ⟨g', i * 3 + 1, none⟩ = false := hfz
    have HB2 := Lib.hid hb2
    have HST : Hid (KI.Row (W.setCell ⟨g', i * 3 + 1, none⟩ (.string d)) base (.slice (some ⟨g', 0, none⟩) n c) l2 ∧ Kt 44 base g w1 (W.setCell ⟨g', i * 3 + 1, none⟩ (.string d))) := Lib.hid ⟨hset, (Kt.of_bel hbW).trans (Kt.of_grown hgr HW.out.1.row)⟩
    rw [cells_add, Nat.zero_add] at x0
    simp only [cells_add, Nat.zero_add] at x1 x2
    clear hset hgr hg' HSW hblk hb2 hbW K HCE
    go_wp2_with fail
    go_ret
    have hbl := setc_blk (i := 2) HB2.out (.int .i64 (s.clock + 1))
    have hrw := HST.out.1.set_off ⟨g, 2, none⟩ (by simp [Value.ownBlock, hng]) (.int .i64 (s.clock + 1))
    exact ⟨_, rfl, ⟨hbl, hrw⟩, HST.out.2.trans (Kt.of_set ⟨g, 2, none⟩ rfl _)⟩
  · have hh : rhas s key = false := by unfold rhas; exact decide_eq_false hin
    have hF : rfind s key = -1 := by unfold rfind; rw [if_neg hin]
    have d1 : decide ((-1 : Int) < 0) = true := rfl
    rw [hF] at K
    cases hfu : fullP s
    · have hE : rputE s key d = 0 := by unfold rputE; rw [if_neg hr, if_neg h64, if_neg (by simp [hh]), if_neg (by simp [hfu])]
      have hS : rputS s key d = { s with rs := s.rs ++ [⟨key, d, s.clock⟩], clock := s.clock + 1 } := by unfold rputS rputR; rw [if_pos hE, if_neg (by simp [hh])]
      rw [hE, hS]
      have hfu2 : ¬ s.most ≤ (s.rs.length : Int) := by rw [← full_iff, hfu]; simp
      have q1 : decide (s.most ≤ (s.rs.length : Int)) = false := decide_eq_false hfu2
      have q2 : decide ((s.rs.length : Int) ≥ s.most) = false := decide_eq_false hfu2
      clear hE hS hF hh hr hfu hfu2 hin
      obtain ⟨A, c, rfl, hc, _⟩ := readsR H.out.row
      have HLN : Hid ((s.rs ++ [(⟨key, d, s.clock⟩ : El)]).length = s.rs.length + 1) := Lib.hid (by simp)
      have HLL : Hid (s.rs.length ≤ 1000000) := Lib.hid (by omega)
      have HLL2 := HLL
      generalize hn : s.rs.length = n at HLN c hc q1 q2 H hlen
      have HN := Lib.hid hn
      clear hn
      have c0 := blk_cell H.out.blk 0
      have c1 := blk_cell H.out.blk 1
      go_enter Try.func19, Try.ntmps19
      go_wp2_with fail
      refine K.out.mono ?_
      rintro e w0 ⟨rfl, rfl⟩
      go_wp2_with fail
      go_quiet (fail)
      refine then_gen (fun W => Bel w0 W) (Bel.drewN _ _) ?_
      rintro w1 hb1
      have H1 := Lib.hid (H.out.bel hb1)
      have HB1 := Lib.hid hb1
      have c2 := blk_cell H1.out.blk 1
      have c3 := blk_cell H1.out.blk 2
      have HAP : Hid (∃ v' w', (Builtin.append_ #[49, 49] 49 #[.slice A n c, .slice (some ⟨w1.heap.size, 0, none⟩) 1 1]).run Try.prog (w1.drew.alloc (.cells #[.int .i64 key, .string d, .int .i64 s.clock] 44 (0, 0))) = .ok v' w' ∧ KI.Row w' base v' (s.rs ++ [⟨key, d, s.clock⟩]) ∧ w1.drew.grownBy w' (Value.slice A n c).ownBlock) := Lib.hid ((H1.out.row.bel (Bel.drew w1)).append_run (⟨key, d, s.clock⟩ : El) 49 49 (.agg #[.int .i64 0, .string ⟨#[]⟩, .int .i64 0]) 32 Try.underlying49 info44 rfl (by decide) HLL.out (Nat.le_trans HB.out (hb1.trans (Bel.drew w1)).size))
      have HBlk : Hid (∀ wa, (w1.drew).grownBy wa (Value.slice A n c).ownBlock → wa.heap[g]? = some (.cells #[.int .i64 s.most, .slice A n c, .int .i64 s.clock] 51 (0, 0))) := Lib.hid (fun wa hg => by
        have h1 := blk_below H1.out.blk (Bel.drew w1)
        exact (hg.block g (blk_lt h1) (fun e => H1.out.row.ne_blk H1.out.blk (by decide) e.symm)).trans h1)
      clear hb1 K c0 c1
      go_wp2_with fail
      refine start_ (n := 17) (S := fun w' => w'.cell? ⟨g, 1, none⟩ = some (.slice A n c) ∧ w'.cell? ⟨g, 2, none⟩ = some (.int .i64 s.clock)) (ds := [13, 16]) #[false, false, false, false, false, false, false, false, false, false, false, false, false, false, false, false, false] (by kernel_rfl) rfl rfl (⟨c2, c3⟩) (fun hHeld => ?_)
      refine with_tabW rputT.tab10 rputT.bits10 (fun HT_ HW_ => ?_)
      refine pure_ (i := 0) (N := some 44) (v := ?_) (a' := ?_) #[true, false, false, false, false, false, false, false, false, false, false, false, false, false, false, false, false] rfl rfl (any_of HT_.out (by kernel_rfl)) (fun _ _ _ h => h) (Or.inl ⟨by rfl, ?_⟩) ?_ ?_
      rotate_left
      · intro w'
        go_simp
        with_reducible rfl
      rotate_left
      · simp only [Act.put, List.setIfInBounds_toArray, List.set_cons_zero, List.set_cons_succ, i64_w, i32_w]
        rfl
      refine pure_ (i := 1) (N := some 45) (v := ?_) (a' := ?_) #[true, true, false, false, false, false, false, false, false, false, false, false, false, false, false, false, false] rfl rfl (any_of HT_.out (by kernel_rfl)) (fun _ _ _ h => h) (Or.inl ⟨by rfl, ?_⟩) ?_ ?_
      rotate_left
      · intro w'
        go_simp
        with_reducible rfl
      rotate_left
      · simp only [Act.put, List.setIfInBounds_toArray, List.set_cons_zero, List.set_cons_succ, i64_w, i32_w]
        rfl
      refine pure_ (i := 2) (N := some 46) (v := ?_) (a' := ?_) #[true, true, true, false, false, false, false, false, false, false, false, false, false, false, false, false, false] rfl rfl (any_of HT_.out (by kernel_rfl)) (fun _ _ _ h => h) (Or.inl ⟨by rfl, ?_⟩) ?_ ?_
      rotate_left
      · intro w'
        go_simp
        with_reducible rfl
      rotate_left
      · simp only [Act.put, List.setIfInBounds_toArray, List.set_cons_zero, List.set_cons_succ, i64_w, i32_w]
        rfl
      refine pure_ (i := 3) (N := some 47) (v := ?_) (a' := ?_) #[true, true, true, true, false, false, false, false, false, false, false, false, false, false, false, false, false] rfl rfl (any_of HT_.out (by kernel_rfl)) (fun _ _ _ h => h) (Or.inl ⟨by rfl, ?_⟩) ?_ ?_
      rotate_left
      · intro w'
        go_simp
        with_reducible rfl
      rotate_left
      · simp only [Act.put, List.setIfInBounds_toArray, List.set_cons_zero, List.set_cons_succ, i64_w, i32_w]
        rfl
      refine pure_ (i := 5) (N := some 49) (v := ?_) (a' := ?_) #[true, true, true, true, false, true, false, false, false, false, false, false, false, false, false, false, false] rfl rfl (any_of HT_.out (by kernel_rfl)) (fun _ _ _ h => h) (Or.inl ⟨by rfl, ?_⟩) ?_ ?_
      rotate_left
      · intro w'
        go_simp
        with_reducible rfl
      rotate_left
      · simp only [Act.put, List.setIfInBounds_toArray, List.set_cons_zero, List.set_cons_succ, i64_w, i32_w]
        rfl
      refine pure_ (i := 6) (N := some 50) (v := ?_) (a' := ?_) #[true, true, true, true, false, true, true, false, false, false, false, false, false, false, false, false, false] rfl rfl (any_of HT_.out (by kernel_rfl)) (fun _ _ _ h => h) (Or.inl ⟨by rfl, ?_⟩) ?_ ?_
      rotate_left
      · intro w'
        go_simp
        with_reducible rfl
      rotate_left
      · simp only [Act.put, List.setIfInBounds_toArray, List.set_cons_zero, List.set_cons_succ, i64_w, i32_w]
        rfl
      refine pure_ (i := 7) (N := some 51) (v := ?_) (a' := ?_) #[true, true, true, true, false, true, true, true, false, false, false, false, false, false, false, false, false] rfl rfl (any_of HT_.out (by kernel_rfl)) (fun _ _ _ h => h) (Or.inl ⟨by rfl, ?_⟩) ?_ ?_
      rotate_left
      · intro w'
        go_simp
        with_reducible rfl
      rotate_left
      · simp only [Act.put, List.setIfInBounds_toArray, List.set_cons_zero, List.set_cons_succ, i64_w, i32_w]
        rfl
      refine pure_ (i := 8) (N := some 52) (v := ?_) (a' := ?_) #[true, true, true, true, false, true, true, true, true, false, false, false, false, false, false, false, false] rfl rfl (any_of HT_.out (by kernel_rfl)) (fun _ _ _ h => h) (Or.inl ⟨by rfl, ?_⟩) ?_ ?_
      rotate_left
      · intro w'
        go_simp
        with_reducible rfl
      rotate_left
      · simp only [Act.put, List.setIfInBounds_toArray, List.set_cons_zero, List.set_cons_succ, i64_w, i32_w]
        rfl
      refine pure_ (i := 9) (N := some 53) (v := ?_) (a' := ?_) #[true, true, true, true, false, true, true, true, true, true, false, false, false, false, false, false, false] rfl rfl (any_of HT_.out (by kernel_rfl)) (fun _ _ _ h => h) (Or.inl ⟨by rfl, ?_⟩) ?_ ?_
      rotate_left
      · intro w'
        go_simp
        with_reducible rfl
      rotate_left
      · simp only [Act.put, List.setIfInBounds_toArray, List.set_cons_zero, List.set_cons_succ, i64_w, i32_w]
        rfl
      refine take_ (i := 4) (N := some 48) (v := ?_) (a' := ?_) #[true, true, true, true, true, true, true, true, true, true, false, false, false, false, false, false, false] rfl rfl (take_ofW HT_.out HW_.out (by kernel_rfl)) (fun _ _ _ h => h) (Or.inl ⟨by rfl, ?_⟩) hHeld ?_ ?_
      rotate_left
      · rintro w' ⟨s0, s1⟩
        go_simp
        with_reducible rfl
      rotate_left
      · simp only [Act.put, List.setIfInBounds_toArray, List.set_cons_zero, List.set_cons_succ, i64_w, i32_w]
        rfl
      refine take_ (i := 10) (N := some 54) (v := ?_) (a' := ?_) #[true, true, true, true, true, true, true, true, true, true, true, false, false, false, false, false, false] rfl rfl (take_ofW HT_.out HW_.out (by kernel_rfl)) (fun _ _ _ h => h) (Or.inl ⟨by rfl, ?_⟩) hHeld ?_ ?_
      rotate_left
      · rintro w' ⟨s0, s1⟩
        go_simp
        with_reducible rfl
      rotate_left
      · simp only [Act.put, List.setIfInBounds_toArray, List.set_cons_zero, List.set_cons_succ, i64_w, i32_w]
        rfl
      refine pure_ (i := 11) (N := some 55) (v := ?_) (a' := ?_) #[true, true, true, true, true, true, true, true, true, true, true, true, false, false, false, false, false] rfl rfl (any_of HT_.out (by kernel_rfl)) (fun _ _ _ h => h) (Or.inl ⟨by rfl, ?_⟩) ?_ ?_
      rotate_left
      · intro w'
        go_simp
        with_reducible rfl
      rotate_left
      · simp only [Act.put, List.setIfInBounds_toArray, List.set_cons_zero, List.set_cons_succ, i64_w, i32_w]
        rfl
      refine one_ (i := 12) (N := some 56) #[true, true, true, true, true, true, true, true, true, true, true, true, true, false, false, false, false] rfl rfl (one_of HT_.out (by kernel_rfl)) (by decide) (fun K hK => ?_)
      refine value_ (w1 := ?_) (v := ?_) (by rfl) rfl ?_ ?_
      rotate_left 2
      · go_simp
        constructor
        · rfl
        · rfl
      refine hK.out _ _ (⟨cellB (Bel.alloc _ _) hHeld.1, cellB (Bel.alloc _ _) hHeld.2⟩) (fun hHeld => ?_)
      clear hK K
      refine norm_ (a' := ?_) ?_ ?_
      rotate_left
      · show Act.put _ (some 56) _ = _
        simp only [Act.put, List.setIfInBounds_toArray, List.set_cons_zero, List.set_cons_succ, i64_w, i32_w]
        rfl
      refine last_ (i := 13) (N := some 57) #[true, true, true, true, true, true, true, true, true, true, true, true, true, true, false, false, false] rfl rfl (one_of HT_.out (by kernel_rfl)) (by decide) (fun K hK => ?_)
      obtain ⟨v', wa, hrun, hrow, hgr⟩ := HAP.out
      obtain ⟨A', c', rfl⟩ : ∃ A' c', v' = .slice A' (n + 1) c' := by obtain ⟨A', c', h, _⟩ := hrow.reads; exact ⟨A', c', by rw [h, HLN.out]⟩
      have HR5 := Lib.hid hrow
      have HG5 := Lib.hid hgr
      have hb5 := HBlk.out wa hgr
      have c5 := blk_cell hb5 1
      have f5 := blk_frozen hb5 1
      have HB5 := Lib.hid hb5
      clear hrow hgr hb5
      refine value_ (w1 := wa) (v := .slice A' (n + 1) c') (by rfl) rfl (append_exec _ _ 49 rfl rfl rfl hrun) ?_
      clear hrun
      refine hK.out _ _ ?_
      clear hK K
      refine norm_ (a' := ?_) ?_ ?_
      rotate_left
      · show Act.put _ (some 57) _ = _
        simp only [Act.put, List.setIfInBounds_toArray, List.set_cons_zero, List.set_cons_succ, i64_w, i32_w]
        rfl
      refine pure_ (i := 14) (N := some 58) (v := ?_) (a' := ?_) #[true, true, true, true, true, true, true, true, true, true, true, true, true, true, true, false, false] rfl rfl (any_of HT_.out (by kernel_rfl)) (fun _ _ _ h => h) (Or.inl ⟨by rfl, ?_⟩) ?_ ?_
      rotate_left
      · intro w'
        go_simp
        with_reducible rfl
      rotate_left
      · simp only [Act.put, List.setIfInBounds_toArray, List.set_cons_zero, List.set_cons_succ, i64_w, i32_w]
        rfl
      refine pure_ (i := 15) (N := some 59) (v := ?_) (a' := ?_) #[true, true, true, true, true, true, true, true, true, true, true, true, true, true, true, true, false] rfl rfl (any_of HT_.out (by kernel_rfl)) (fun _ _ _ h => h) (Or.inl ⟨by rfl, ?_⟩) ?_ ?_
      rotate_left
      · intro w'
        go_simp
        with_reducible rfl
      rotate_left
      · simp only [Act.put, List.setIfInBounds_toArray, List.set_cons_zero, List.set_cons_succ, i64_w, i32_w]
        rfl
      refine last_ (i := 16) (N := none) #[true, true, true, true, true, true, true, true, true, true, true, true, true, true, true, true, true] rfl rfl (one_of HT_.out (by kernel_rfl)) (by decide) (fun K hK => ?_)
      refine skip_ (w1 := ?_) (by rfl) rfl ?_ ?_
      rotate_left
      · go_simp
        rfl
      refine hK.out _ _ ?_
      clear hK K
      refine done_ (done_of HT_.out (by kernel_rfl)) ?_
      clear c2 c3 c5 f5
      have hb6 := setc_blk (i := 1) HB5.out (.slice A' (n + 1) c')
      have hng := HR5.out.ne_blk HB5.out (by decide)
      refine then_gen (fun W => W.heap[g]? = some (.cells #[.int .i64 s.most, .slice A' (n + 1) c', .int .i64 s.clock] 51 (0, 0)) ∧ KI.Row W base (.slice A' (n + 1) c') (s.rs ++ [⟨key, d, s.clock⟩]) ∧ Kt 44 base g w0 W) ⟨hb6, HR5.out.set_off ⟨g, 1, none⟩ hng _, ?kp⟩ ?_
      case kp => exact (Kt.of_bel (HB1.out.trans (Bel.drew w1))).trans ((Kt.of_grown HG5.out (H1.out.row.bel (Bel.drew w1))).trans (Kt.of_set ⟨g, 1, none⟩ rfl _))
      rintro W6 ⟨h6, hr6, hk6⟩
      have c3 := blk_cell h6 2
      have f3 := blk_frozen h6 2
      have hng6 := hr6.ne_blk h6 (by decide)
      have H6 := Lib.hid h6
      have HR6 := Lib.hid (And.intro hr6 hng6)
      have HK6 := Lib.hid hk6
      clear h6 hr6 hk6 HR5 HG5 HB5 HAP HBlk H1 HB1 hb6 hng hng6
      go_wp2_with fail
      go_ret
      have hbl := setc_blk (i := 2) H6.out (.int .i64 (s.clock + 1))
      exact ⟨_, rfl, ⟨hbl, HR6.out.1.set_off ⟨g, 2, none⟩ HR6.out.2 _⟩, HK6.out.trans (Kt.of_set ⟨g, 2, none⟩ rfl _)⟩
    · have hE : rputE s key d = 10 := by unfold rputE; rw [if_neg hr, if_neg h64, if_neg (by simp [hh]), if_pos hfu]
      have hS : rputS s key d = s := by unfold rputS; rw [hE]; simp
      rw [hE, hS]
      have hfu2 : s.most ≤ (s.rs.length : Int) := (full_iff s).1 hfu
      have q1 : decide (s.most ≤ (s.rs.length : Int)) = true := decide_eq_true hfu2
      have q2 : decide ((s.rs.length : Int) ≥ s.most) = true := decide_eq_true hfu2
      clear hE hS hF hh hr hfu hfu2 hin
      obtain ⟨A, c, rfl, hc, _⟩ := readsR H.out.row
      generalize hn : s.rs.length = n at *
      clear hn
      have c0 := blk_cell H.out.blk 0
      have c1 := blk_cell H.out.blk 1
      go_enter Try.func19, Try.ntmps19
      go_wp2_with fail
      refine K.out.mono ?_
      rintro e w0 ⟨rfl, rfl⟩
      go_wp2_with fail
      go_quiet (fail)
      refine then_gen (fun W => Bel w0 W) (Bel.drewN _ _) ?_
      rintro w1 hb1
      have HF := Lib.hid (And.intro (H.out.bel hb1) (Kt.of_bel hb1 : Kt 44 base g w0 w1))
      clear hb1 K c0 c1
      go_wp2_with fail
      go_ret
      first | exact ⟨_, rfl, HF.out.1, HF.out.2⟩ | exact ⟨rfl, ⟨_, HF.out.1⟩, HF.out.2⟩
end Go.Proofs.Ytffegfidaolgjaa
