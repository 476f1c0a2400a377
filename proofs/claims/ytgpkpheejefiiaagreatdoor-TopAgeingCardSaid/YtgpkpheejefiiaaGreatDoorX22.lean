/- The cache: its keys, in order; the dirty ones. | Geometry: where a block is. -/
import Derived.Test.YtgpkpheejefiiaaGreatDoorX19
import Derived.Test.YtgpkpheejefiiaaGreatDoorX21
import Derived.Test.YtgpkpheejefiiaaGreatDoorX01
import Derived.Handy
import Derived.Lib.Hide
import Derived.Deep.RegionHeld3
import Derived.Lib.MinMax
section
set_option linter.unusedVariables false
set_option linter.unusedSimpArgs false
namespace Go.Proofs.YtgpkpheejefiiaaGreatDoor
open Go.RowKit
set_option maxRecDepth 100000
theorem EmbM.len {r : Pl} {es : List (Int × SV)} {l : List MapEntry} (h : EmbM r es l) : l.length = es.length := by
  have := congrArg List.length h.keys
  simpa using this
theorem rowsM_keys (ks : List (Int × Nat)) : (rowsM ks).map (·.1) = ks.map (·.1) := by
  unfold rowsM
  rw [List.map_map]
  rfl
theorem IsC.klen {w : World} {base : Nat} {a : CA} {s : CS} (h : IsC w base a s) : s.ks.length ≤ 6 := by
  have := pigeon h.nk h.rng
  simpa using this
theorem sortedC (w : World) (base : Nat) (a : CA) (s : CS) (h : IsC w base a s) (bm : Nat) (hbm : bm < w.heap.size) (hm : w.cell? ⟨bm, 0, none⟩ = some (.map (some a.m))) :
    Calls Tryz.prog 99 #[.func (.func 165) #[] #[.pointer (some ⟨bm, 0, none⟩)]] w fun e w' => ∃ v l, e = .returned v ∧ KI.Row w' w.heap.size v l ∧ (∀ x ∈ l, x ∈ s.ks.map (·.1)) ∧ l.length ≤ 6 ∧ Bel w w' := by
  obtain ⟨l, clk, h1, h2, h3, h4⟩ := h.rows
  have hlen := h2.len
  have hl6 : l.length ≤ 6 := by
    have := h.klen
    rw [hlen]
    simpa [rowsM] using this
  have hkk := rowsM_keys s.ks
  obtain ⟨D0, o1, o2, o3⟩ := ownsMap_sim h1 h2 h3 h4 (by rw [hkk]; exact h.nk) (fun p hp => by
    have : p.1 ∈ s.ks.map (·.1) := by rw [← hkk]; exact List.mem_map.2 ⟨p, hp, rfl⟩
    have := h.rng _ this
    exact wf_small this.1 (by omega)) (by omega)
  have K := sortedKeysB 165 (.inl rfl) bm a.m l.length D0 R0 w hbm hm o1 (by have : maxLen = 9223372036854775807 := rfl; omega) (by omega)
  refine K.mono ?_
  rintro e w' ⟨v, ss, rfl, z2, z3, z4, z5⟩
  refine ⟨v, ss.mergeSort (fun x y => decide (x ≤ y)), rfl, ?_, ?_, ?_, z5⟩
  · unfold Enc.Row
    rw [flatI, List.length_mergeSort]
    exact z3
  · intro x hx
    rw [List.mem_mergeSort] at hx
    have := (z2.trans o3).mem_iff.1 hx
    rwa [hkk] at this
  · rw [List.length_mergeSort, (z2.trans o3).length_eq, hkk]
    simpa using h.klen
set_option maxHeartbeats 1000000 in
theorem keys100 (w : World) (m : Nat) : Calls Tryz.prog 100 #[.map (some m)] w fun e w' => e = .returned (.func (.func 165) #[] #[PTR w.heap.size]) ∧ w' = w.alloc (.cells #[.map (some m)] 195) := by
  have hmf : ∀ fn first cap w, (Instr.makeFunc fn first cap).run Tryz.prog w = .ok (.func fn first cap) w := fun _ _ _ _ => rfl
  go_enter Tryz.func100, Tryz.ntmps100
  go_wp2_with fail
  go_ret
  exact ⟨rfl, rfl⟩
set_option maxHeartbeats 4000000 in
theorem dirty43 (w : World) (base : Nat) (a : CA) (s : CS) (h : IsC w base a s) :
    Calls Tryz.prog 43 #[PTR a.g] w fun e w' => ∃ v l, e = .returned v ∧ KI.Row w' w.heap.size v l ∧ l.length ≤ 6 ∧ Bel w w' := by
  have H := Lib.hid h
  have hn := nil92
  have c2 := blk_cell h.blk 2
  have KS := Lib.hid (fun w1 (h1 : IsC w1 base a s) => sortedC w1 base a s h1)
  have KE := Lib.hid empty101
  have hmf : ∀ fn first cap w, (Instr.makeFunc fn first cap).run Tryz.prog w = .ok (.func fn first cap) w := fun _ _ _ _ => rfl
  clear h
  go_enter Tryz.func43, Tryz.ntmps43
  go_wp2_with (first | (go_at_call 100; refine (keys100 w a.m).mono ?_; rintro e w1 ⟨rfl, rfl⟩) | (go_at_call 99; refine (KS.out _ (H.out.bel (Bel.alloc w _)) w.heap.size (by simp) (by simp [go_sem])).mono ?_; rintro e w1 ⟨v1, l1, rfl, h1, h2, h3, hb1⟩; obtain ⟨A1, cap1, hv1, hcap, hR⟩ := readsI h1; subst hv1))
  have HL := Lib.hid (And.intro h1 (And.intro h2 h3))
  obtain ⟨n, hn1⟩ : ∃ n, n = l1.length := ⟨_, rfl⟩
  rw [← hn1] at HL hcap hR ⊢
  have HN1 := Lib.hid hn1
  have hn6 : n ≤ 6 := HL.out.2.2
  have HX : Hid (KI.Row w1 w.heap.size (.slice A1 n cap1) l1 ∧ Bel w w1) := Lib.hid ⟨HL.out.1.lower (by simp), (Bel.alloc w _).trans hb1⟩
  clear h1 h2 h3 hb1 hcap hR hn1
  go_wp2_with fail
  go_loopw [3, 15] (fun v3 v15 wr => ∃ (k m c : Nat) (A : Option Addr), v15 = .int .i64 k ∧ v3 = .slice A m c ∧ k ≤ n ∧ Hid (∃ l' : List Int, l'.length = m ∧ m ≤ k ∧ KI.Row wr w.heap.size (.slice A m c) l' ∧ KI.Row wr w.heap.size (.slice A1 n cap1) l1 ∧ ((Value.slice A1 n cap1).ownBlock = none ∨ (Value.slice A1 n cap1).ownBlock ≠ (Value.slice A m c).ownBlock) ∧ Bel w wr)) (fun _ v15 _ => n - (intOf v15).toNat)
  case atStart => exact ⟨0, 0, 0, none, rfl, rfl, by omega, Lib.hid ⟨[], rfl, by omega, Enc.Row.nil _ _, HX.out.1, by
    by_cases h : (Value.slice A1 n cap1).ownBlock = none
    · exact .inl h
    · exact .inr (fun e => h (e.trans rfl)), HX.out.2⟩⟩
  case round =>
    obtain ⟨wi, rfl⟩ : ∃ wi : World, wi = wr := ⟨_, rfl⟩
    obtain ⟨k, m, c, A, rfl, rfl, hk, HI⟩ := hrel
    obtain ⟨l', e1, e2, e3, e4, e5, e6⟩ := HI.out
    have H3 := Lib.hid (And.intro e1 (And.intro e2 (And.intro e3 (And.intro e4 (And.intro e5 e6)))))
    have hci := H.out.bel e6
    by_cases hlt : k < n
    · obtain ⟨A', c', e7, _, hR⟩ := readsI e4
      obtain ⟨g, e8, _, hcell⟩ := hR (by rw [← HN1.out]; omega)
      simp only [Value.slice.injEq] at e7
      rw [← e7.1] at e8
      subst e8
      have hx := hcell k (by rw [← HN1.out]; omega)
      have hmem : KI.nth l1 k ∈ s.ks.map (·.1) := HL.out.2.1 _ (KI.nth_mem (by rw [← HN1.out]; omega))
      generalize KI.nth l1 k = y at *
      obtain ⟨⟨y', ey⟩, hp, hpy⟩ := List.mem_map.1 hmem
      have hpy : y' = y := hpy
      subst hpy
      have hl := (hci.rows.look y').2 ey ((findM_rows s.ks y').2 (y', ey) hp hci.nk rfl)
      obtain ⟨x, y, z, g1, g2, hE, _⟩ : ∃ x y z g1 g2, wi.heap[ey]? = some (.cells (enC s.n x y z g1 g2) 191 (0, 0)) ∧ Texts wi s.n g1 ∧ Texts wi s.n g2 ∧ base ≤ ey ∧ base ≤ g1 ∧ base ≤ g2 := hci.ens _ hp
      have d0 : wi.cell? ⟨ey, 10, none⟩ = some (.int .u64 z.a) := blk_cell hE 10
      have d1 : wi.cell? ⟨ey, 11, none⟩ = some (.int .u64 z.b) := blk_cell hE 11
      have d2 : wi.cell? ⟨ey, 12, none⟩ = some (.int .u64 z.c) := blk_cell hE 12
      have d3 : wi.cell? ⟨ey, 13, none⟩ = some (.int .u64 z.d) := blk_cell hE 13
      have c2 := blk_cell hci.blk 2
      have hlt' : decide ((k : Int) < n) = true := by simp; omega
      clear e1 e2 e3 e4 e5 e6 HI e7 hR hcell hmem hp hci hE HX
      go_wp2_with fail
      refine (KE.out _ _ _ _ _).mono ?_
      rintro e w2 ⟨r, rfl, hb2⟩
      have HB2 := Lib.hid hb2
      clear d0 d1 d2 d3 hl hx c2 hb2
      cases r
      · go_wp2_with (first | (at_builtin; go_loud (refine Enc.Row.append2 (K := KI) (W := w2) (base := w.heap.size) (l := l') (by have := H3.out.2.2.1; exact this.bel HB2.out) y' rfl (.tmp 30) (.tmp 32) 70 rfl (.int .i64 0) 8 Tryz.underlying70 info3 rfl (by decide) rfl (by simp [Act.eval]) (by have := H3.out.1; have := H3.out.2.1; have := HL.out.2.2; omega) (by have := H3.out.2.2.2.2.2.size; have := HB2.out.size; omega) ?_; intro v3 w3 ho hg hwh; obtain ⟨A3, c3, hv3, _, _⟩ := readsI ho; rw [show (l' ++ [y']).length = m + 1 by rw [← H3.out.1]; simp] at hv3; subst hv3; have HX := Lib.hid (And.intro ho (And.intro hg hwh)); clear ho hg hwh)))
        refine ⟨⟨k + 1, m + 1, c3, A3, by congr 1, rfl, by omega, Lib.hid ⟨l' ++ [y'], by simp [H3.out.1], by have := H3.out.2.1; omega, HX.out.1, ?_, ?_, ?_⟩⟩, by simp [intOf]; omega⟩
        · exact (H3.out.2.2.2.1.bel HB2.out).off HX.out.2.1 H3.out.2.2.2.2.1
        · rcases HX.out.2.2 with e | ⟨j, e1, e2⟩
          · rw [e]; exact H3.out.2.2.2.2.1
          · right
            rw [e2]
            exact fun e => (H3.out.2.2.2.1.bel HB2.out).ne_new e1 e.symm
        · exact Enc.Row.bel_grown (H3.out.2.2.1.bel HB2.out) (H3.out.2.2.2.2.2.trans HB2.out) HX.out.2.1 (Nat.le_refl _)
      · go_wp2_with fail
        exact ⟨⟨k + 1, m, c, A, by congr 1, rfl, by omega, Lib.hid ⟨l', H3.out.1, by have := H3.out.2.1; omega, H3.out.2.2.1.bel HB2.out, H3.out.2.2.2.1.bel HB2.out, H3.out.2.2.2.2.1, H3.out.2.2.2.2.2.trans HB2.out⟩⟩, by simp [intOf]; omega⟩
    · have hkn : k = n := by omega
      subst hkn
      have hlt' : decide ((k : Int) < k) = false := by simp
      clear hci e1 e2 e3 e4 e5 e6 HI
      go_wp2_with fail
      go_ret
      exact ⟨.slice A m c, l', rfl, H3.out.2.2.1, by have := H3.out.1; have := H3.out.2.1; have := HL.out.2.2; omega, H3.out.2.2.2.2.2⟩
end Go.Proofs.YtgpkpheejefiiaaGreatDoor
end
section
set_option linter.unusedVariables false
set_option linter.unusedSimpArgs false
namespace Go.Proofs.YtgpkpheejefiiaaGreatDoor
open Go.RowKit
set_option maxRecDepth 100000
abbrev GV (m s : Int) : Value := .agg #[.int .i64 m, .int .i64 s]
structure GOK (m s : Int) : Prop where
  m1 : 4 ≤ m
  m2 : m ≤ 7
  s1 : 1 ≤ s
  s2 : s ≤ 6
set_option maxHeartbeats 2000000 in
theorem good123 (m s : Int) (h : GOK m s) (w : World) : Calls Tryz.prog 123 #[GV m s] w fun e w' => e = .returned (.bool true) ∧ Bel w w' := by
  obtain ⟨h1, h2, h3, h4⟩ := h
  have d1 : decide (m ≥ 4) = true := decide_eq_true h1
  have d2 : decide (m ≤ 32) = true := decide_eq_true (by omega)
  have d3 : decide (s ≥ 1) = true := decide_eq_true h3
  have d4 : decide (s ≤ 64) = true := decide_eq_true (by omega)
  have d5 : decide (4 ≤ m) = true := decide_eq_true h1
  have d6 : decide (1 ≤ s) = true := decide_eq_true h3
  have e2 : m ≤ 32 := by omega
  have e4 : s ≤ 64 := by omega
  go_enter Tryz.func123, Tryz.ntmps123
  go_wp2_with fail
  go_ret
  exact ⟨rfl, Bel.alloc w _⟩
set_option maxHeartbeats 2000000 in
theorem data79 (m s : Int) (h : GOK m s) (w : World) : Calls Tryz.prog 79 #[GV m s] w fun e w' => e = .returned (.int .i64 (m - 2)) ∧ Bel w w' := by
  have K := Lib.hid (good123 m s h)
  have hw : IntKind.i64.wrap (m - 2) = m - 2 := w64i (by have := h.m1; omega) (by have := h.m2; omega)
  clear h
  go_enter Tryz.func79, Tryz.ntmps79
  go_wp2_with fail
  refine (K.out _).mono ?_
  rintro e w1 ⟨rfl, hb1⟩
  have c0 : w1.cell? ⟨w.heap.size, 0, none⟩ = some (.int .i64 m) := cellB hb1 (by simp [go_sem])
  go_wp2_with fail
  go_ret
  exact ⟨rfl, (Bel.alloc w _).trans hb1⟩
set_option maxHeartbeats 2000000 in
theorem blocks33 (m s : Int) (h : GOK m s) (w : World) : Calls Tryz.prog 33 #[GV m s] w fun e w' => e = .returned (.int .i64 ((m - 2) * s)) ∧ Bel w w' := by
  have Hda := Lib.hid (data79 m s h)
  have hle : (m - 2) * s ≤ 5 * 6 := Int.mul_le_mul (by have := h.m2; omega) h.s2 (by have := h.s1; omega) (by omega)
  have hge : 0 ≤ (m - 2) * s := Int.mul_nonneg (by have := h.m1; omega) (by have := h.s1; omega)
  have hw : IntKind.i64.wrap ((m - 2) * s) = (m - 2) * s := w64i (by omega) (by omega)
  have hs1 : min s 64 = s := by have := h.s2; omega
  have hs2 : max 0 s = s := by have := h.s1; omega
  clear h hle hge
  generalize m - 2 = D at *
  go_enter Tryz.func33, Tryz.ntmps33
  go_wp2_with fail
  have hg0 : ∀ wx, Bel (w.alloc (Obj.cells #[Value.int IntKind.i64 m, Value.int IntKind.i64 s] 31)) wx → wx.cell? ⟨w.heap.size, 0, none⟩ = some (.int .i64 m) := fun wx hx => cellB hx (by simp [go_sem])
  have hg1 : ∀ wx, Bel (w.alloc (Obj.cells #[Value.int IntKind.i64 m, Value.int IntKind.i64 s] 31)) wx → wx.cell? ⟨w.heap.size, 1, none⟩ = some (.int .i64 s) := fun wx hx => cellB hx (by simp [go_sem])
  have hW := Bel.alloc w (Obj.cells #[Value.int IntKind.i64 m, Value.int IntKind.i64 s] 31)
  generalize w.alloc (Obj.cells #[Value.int IntKind.i64 m, Value.int IntKind.i64 s] 31) = W0 at hg0 hg1 hW ⊢
  go_region_held3 (fun w' => Bel W0 w') (first | assumption | exact Bel.refl _ | exact Bel.drew _ | exact Bel.trans (by assumption) (Bel.drew _) | exact Bel.trans (by assumption) (by assumption)) ((first | (go_at_call 79; refine (Hda.out _).mono ?_; rintro e wa12 ⟨rfl, hba12⟩)))
  all_goals
    go_wp2_with fail
    go_ret
    exact ⟨rfl, hW.trans (by assumption)⟩
set_option maxHeartbeats 2000000 in
theorem within63 (m s a b : Int) (hG : GOK m s) (h0 : 0 ≤ a) (h1 : a < b) (w : World) (B : Nat) (hc0 : w.cell? ⟨B, 0, none⟩ = some (.int .i64 a)) (hc1 : w.cell? ⟨B, 1, none⟩ = some (.int .i64 b)) :
    Calls Tryz.prog 63 #[GV m s, .slice (some ⟨B, 0, none⟩) 1 1] w fun e w' => e = .returned (.int .i64 0) ∧ Bel w w' := by
  have Hgood := Lib.hid (good123 m s hG)
  clear hG
  have q0 : decide (a < 0) = false := decide_eq_false (by omega)
  have q1 : decide (a ≥ b) = false := decide_eq_false (by omega)
  have q2 : decide (b ≤ a) = false := decide_eq_false (by omega)
  go_enter Tryz.func63, Tryz.ntmps63
  go_wp2_with fail
  refine (Hgood.out _).mono ?_
  rintro e w1 ⟨rfl, hb1⟩
  have hb := (Bel.alloc w (Obj.cells #[Value.int IntKind.i64 m, Value.int IntKind.i64 s] 31)).trans hb1
  have c0 := cellB hb hc0
  have c1 := cellB hb hc1
  go_wp2_with fail
  go_rounds 2
  go_ret
  exact ⟨rfl, by repeat (first | exact hb | refine Bel.trans ?_ (Bel.alloc _ _))⟩
set_option maxHeartbeats 2000000 in
theorem find37 (m s b : Int) (w : World) (hG : GOK m s) (h0 : 0 ≤ b) (h1 : b < (m - 2) * s) : Calls Tryz.prog 37 #[GV m s, .int .i64 b] w fun e w' => e = .returned (.tuple #[.int .i64 (b / (m - 2)), .int .i64 (b % (m - 2)), .int .i64 0]) ∧ Bel w w' := by
  have Hbl := Lib.hid (blocks33 m s hG)
  have Hda := Lib.hid (data79 m s hG)
  have Hwi := Lib.hid (within63 m s b ((m - 2) * s) hG h0 h1)
  have hD : 2 ≤ m - 2 := by have := hG.m1; omega
  have hbm : b < 2000 := by
    have hle : (m - 2) * s ≤ 5 * 6 := Int.mul_le_mul (by have := hG.m2; omega) hG.s2 (by have := hG.s1; omega) (by omega)
    omega
  clear hG
  generalize (m - 2) * s = BL at *
  generalize m - 2 = D at *
  have hq := Int.tdiv_eq_ediv_of_nonneg (b := D) h0
  have hr := Int.tmod_eq_emod_of_nonneg (b := D) h0
  have hq0 : 0 ≤ b / D := Int.ediv_nonneg h0 (by omega)
  have hq1 : b / D ≤ b := Int.ediv_le_self _ h0
  have hDz : (D = 0) = False := eq_false (by omega)
  have hwq : IntKind.i64.wrap (b / D) = b / D := IntWalk.i64_in _ (by omega)
  generalize b / D = Q at *
  generalize b % D = R at *
  go_enter Tryz.func37, Tryz.ntmps37
  go_wp2_with fail
  have hg0 : ∀ wx, Bel (w.alloc (Obj.cells #[Value.int IntKind.i64 m, Value.int IntKind.i64 s] 31)) wx → wx.cell? ⟨w.heap.size, 0, none⟩ = some (.int .i64 m) := fun wx hx => cellB hx (by simp [go_sem])
  have hg1 : ∀ wx, Bel (w.alloc (Obj.cells #[Value.int IntKind.i64 m, Value.int IntKind.i64 s] 31)) wx → wx.cell? ⟨w.heap.size, 1, none⟩ = some (.int .i64 s) := fun wx hx => cellB hx (by simp [go_sem])
  have hW := Bel.alloc w (Obj.cells #[Value.int IntKind.i64 m, Value.int IntKind.i64 s] 31)
  have HS : Hid ((w.alloc (Obj.cells #[Value.int IntKind.i64 m, Value.int IntKind.i64 s] 31)).heap.size = w.heap.size + 1) := Lib.hid (by simp)
  generalize w.alloc (Obj.cells #[Value.int IntKind.i64 m, Value.int IntKind.i64 s] 31) = W0 at hg0 hg1 hW HS ⊢
  go_region_held3 (fun w' => Bel W0 w') (first | assumption | exact Bel.drew _ | exact Bel.trans (by assumption) (Bel.drew _) | exact Bel.trans (by assumption) (by assumption) | exact Bel.trans (by assumption) (Bel.alloc _ _)) ((first | (go_at_call 33; refine (Hbl.out _).mono ?_; rintro e wa15 ⟨rfl, hba15⟩) | (go_at_call 63; refine (Hwi.out _ _ (by simp [go_sem]) (by simp [go_sem])).mono ?_; rintro e wb ⟨rfl, hbb⟩)))
  go_wp2_with fail
  have hW2 : Bel W0 wb := by assumption
  go_region_held3 (fun w' => Bel W0 w') (first | assumption | exact Bel.drew _ | exact Bel.trans (by assumption) (Bel.drew _) | exact Bel.trans (by assumption) (by assumption) | exact Bel.trans (by assumption) (Bel.alloc _ _)) ((first | (go_at_call 79; refine (Hda.out _).mono ?_; rintro e wc12 ⟨rfl, hbc12⟩)))
  go_wp2_with fail
  go_ret3
  exact ⟨rfl, hW.trans (by assumption)⟩
end Go.Proofs.YtgpkpheejefiiaaGreatDoor
end
