/- Known functions: a call that looks at nothing but the package's variables. | Known functions: the cache opens a stripe, walked. | Known functions: strings.Builder's copy check. -/
import Derived.Test.YtgpkpheejefiiaaGreatDoorX08
import Derived.Test.YtgpkpheejefiiaaGreatDoorX09
import Derived.BigRegion
import Derived.ChangeAlike
import Derived.RegionTactic
import Derived.Deep.RegionHeld3
import Derived.Deep.DeepCutAuto
import Derived.Lib.Builder
import Derived.Shelf.RegionOpenPlain
import Derived.Laws.Externs
section
set_option linter.unusedVariables false
set_option linter.unusedSimpArgs false
namespace Go.Proofs.YtgpkpheejefiiaaGreatDoor
open Go.RowKit
def intsV : List SV → Option (List Value)
  | [] => some []
  | .int k n :: l => match intsV l with | some m => some (.int k n :: m) | none => none
  | _ :: _ => none
theorem intsV_emb {r : Pl} : ∀ {l : List SV} {m u : List Value}, intsV l = some m → EmbL r l u → u = m
  | [], m, u, h, hu => by simp [intsV] at h; subst h; exact hu.nil_inv
  | .int k n :: l, m, u, h, hu => by
    simp only [intsV] at h
    split at h
    · rename_i m' hm
      obtain rfl := Option.some.inj h
      cases hu with
      | cons _ v _ u' h1 h2 => rw [h1.int_inv, intsV_emb hm h2]
    · simp at h
theorem intsV_mk (r : Pl) : ∀ {l : List SV} {m : List Value}, intsV l = some m → EmbL r l m
  | [], m, h => by simp [intsV] at h; subst h; exact .nil
  | .int k n :: l, m, h => by
    simp only [intsV] at h
    split at h
    · rename_i m' hm
      obtain rfl := Option.some.inj h
      exact .cons _ _ _ _ (.int k n) (intsV_mk r hm)
    · simp at h
def gCells0 : List SV := [i64S (-1), i64S 0, i64S 0, i64S 0]
theorem T00_0 : atT T00 0 = some (.cells gCells0 258) := rfl
theorem T00_1 : atT T00 1 = some (.cells deB 463) := rfl
theorem T00_dom {g : Nat} {o : SO} (h : atT T00 g = some o) : g ≤ 1 := by
  unfold T00 at h
  rcases at_upd _ _ _ _ h with ⟨rfl, _⟩ | ⟨_, h1⟩
  · omega
  · rcases at_upd _ _ _ _ h1 with ⟨rfl, _⟩ | ⟨_, h2⟩
    · omega
    · exfalso
      have hk := at_of h2
      unfold atT at h2
      rw [blt_eq, decide_eq_true hk] at h2
      have e : ∀ {α : Type} (k : Nat) (a : α), k < 8 → nsel k (all8 a) = a := fun k a hk => by
        rcases lt8 hk with rfl | rfl | rfl | rfl | rfl | rfl | rfl | rfl <;> rfl
      have h0 : Nat.div g 512 < 8 := by show g / 512 < 8; omega
      simp only [bI, leafT] at h2
      have hm : ∀ x, Nat.mod x 8 < 8 := fun x => Nat.mod_lt _ (by omega)
      rw [e _ _ h0, e _ _ (hm _), e _ _ (hm _), e _ _ (hm _)] at h2
      simp at h2
noncomputable def gV0 : List Value := [.int .i64 (-1), .int .i64 0, .int .i64 0, .int .i64 0]
theorem ints0 : intsV gCells0 = some gV0 := rfl
theorem ints1 : ∃ m, intsV deB = some m := ⟨_, rfl⟩
/-- The package's variables are as at the start. -/
structure GW (w : World) : Prop where
  g0 : ∃ m, intsV gCells0 = some m ∧ w.heap[0]? = some (.cells m.toArray 258 (0, 0))
  g1 : ∃ m, intsV deB = some m ∧ w.heap[1]? = some (.cells m.toArray 463 (0, 0))
theorem GW.bel {w w' : World} (h : GW w) (k : Bel w w') : GW w' :=
  ⟨let ⟨m, h1, h2⟩ := h.g0; ⟨m, h1, blk_below h2 k⟩, let ⟨m, h1, h2⟩ := h.g1; ⟨m, h1, blk_below h2 k⟩⟩
theorem glob2_ok {S : Tr} (h : glob2 S = true) : atT S 0 = some (.cells gCells0 258) ∧ atT S 1 = some (.cells deB 463) := by
  unfold glob2 at h
  rw [T00_0, T00_1] at h
  split at h
  · rename_i a b c d e0 e1 e2 e3
    obtain ⟨h1, h2⟩ := aB_true h
    have h1 := sameSO_ok h1
    have h2 := sameSO_ok h2
    rw [e0, e1, h1, h2]
    exact ⟨e2.symm ▸ rfl, e3.symm ▸ rfl⟩
  · simp at h
theorem GW.of_sim {r : Pl} {S : Tr} {nx : Nat} {w : World} (hs : Sim r S nx w) (hG : Glob r) (hg : glob2 S = true) : GW w := by
  obtain ⟨e0, e1⟩ := glob2_ok hg
  have key : ∀ g l m t, g ≤ 1 → atT S g = some (.cells l t) → intsV l = some m → w.heap[g]? = some (.cells m.toArray t (0, 0)) := fun g l m t hg1 ha hm => by
    obtain ⟨b, c, y, k1, k2, k3⟩ := hs.obj g _ ha
    obtain ⟨c', hc'⟩ := hG g hg1
    rw [k1] at hc'
    obtain ⟨rfl, rfl⟩ : b = g ∧ c = c' := by simpa using hc'
    cases k3 with
    | cells _ _ _ u hu => rw [k2, intsV_emb hm hu]
  obtain ⟨m1, hm1⟩ := ints1
  exact ⟨⟨_, ints0, key 0 _ _ _ (by omega) e0 ints0⟩, ⟨m1, hm1, key 1 _ _ _ (by omega) e1 hm1⟩⟩
def rG : Pl := fun g => if g ≤ 1 then some (g, 0) else none
theorem GW.sim {w : World} (h : GW w) : Sim rG T00 3 w ∧ Glob rG := by
  obtain ⟨m0, i0, h0⟩ := h.g0
  obtain ⟨m1, i1, h1⟩ := h.g1
  have hr : ∀ g x, rG g = some x → g ≤ 1 ∧ x = (g, 0) := fun g x e => by
    unfold rG at e
    split at e
    · exact ⟨by omega, (Option.some.inj e).symm⟩
    · simp at e
  refine ⟨⟨fun g o hg => ?_, fun g j o p b c d _ _ e1 e2 => ?_, fun g b c e => ?_⟩, fun g hg => ⟨0, by unfold rG; rw [if_pos hg]⟩⟩
  · have hg1 := T00_dom hg
    rcases (by omega : g = 0 ∨ g = 1) with rfl | rfl
    · rw [T00_0] at hg
      obtain rfl := Option.some.inj hg
      exact ⟨0, 0, _, rfl, h0, .cells _ _ _ _ (intsV_mk _ i0)⟩
    · rw [T00_1] at hg
      obtain rfl := Option.some.inj hg
      exact ⟨1, 0, _, rfl, h1, .cells _ _ _ _ (intsV_mk _ i1)⟩
  · have a1 := (hr _ _ e1).2
    have a2 := (hr _ _ e2).2
    simp at a1 a2
    omega
  · obtain ⟨a1, a2⟩ := hr _ _ e
    simp at a2
    have := blk_lt h0
    have := blk_lt h1
    omega
/-- A call run on the package's variables alone leaves all that stood. -/
theorem pure_call {f : Nat} {args : List SV} {args' : List Value} {v0 : SV} {S1 : Tr} {n1 : Nat} {cb : CB} (hcb : CBOK Tryz.prog cb) (e : cb f args T00 3 = .val v0 S1 n1) (hg : glob2 S1 = true) {w : World} (hw : GW w) (ha : EmbL rG args args')
    (he : (callFunc f args'.toArray).run Tryz.prog w = .ok (.enter f args'.toArray) w) : Calls Tryz.prog f args'.toArray w fun e w' => (∃ r' v, e = .returned v ∧ Emb r' v0 v) ∧ Bel w w' := by
  obtain ⟨hs, hG⟩ := hw.sim
  refine ((hcb f args T00 3 v0 S1 n1 e rG w args' hs hG ha).calls he).mono ?_
  rintro e' w' ⟨r', v, q1, q2, q3, q4, q5⟩
  refine ⟨⟨r', v, q1, q4⟩, ⟨q5.os, q5.tape, q5.output, q5.size, fun k hk => ?_⟩⟩
  by_cases hf : feet rG k
  · obtain ⟨g, c, e1⟩ := hf
    have hg1 : g ≤ 1 ∧ k = g := by
      unfold rG at e1
      split at e1
      · simp at e1; omega
      · simp at e1
    have hw' := GW.of_sim q3 (hG.up q2) hg
    obtain ⟨a0, i0, h0⟩ := hw.g0
    obtain ⟨a1, i1, h1⟩ := hw.g1
    obtain ⟨b0, j0, k0⟩ := hw'.g0
    obtain ⟨b1, j1, k1⟩ := hw'.g1
    rw [i0] at j0
    rw [i1] at j1
    obtain rfl := Option.some.inj j0
    obtain rfl := Option.some.inj j1
    rcases (by omega : k = 0 ∨ k = 1) with rfl | rfl
    · rw [h0, k0]
    · rw [h1, k1]
  · exact q5.blk k hk hf
theorem octN_ok : ∀ {l : List Nat}, octN l = true → ∀ b ∈ l, b < 256
  | [], _, b, hb => by simp at hb
  | a :: l, h, b, hb => by
    obtain ⟨h1, h2⟩ := aB_true (a := Nat.blt a 256) (b := octN l) h
    rw [blt_eq] at h1
    rcases List.mem_cons.1 hb with rfl | hb
    · exact of_decide_eq_true h1
    · exact octN_ok h2 b hb
theorem pure359_ok {cb : CB} (hcb : CBOK Tryz.prog cb) {q s : List Nat} {k : List Nat → VO} {v : SV} {S' : Tr} {nx' : Nat} (h : pure359 cb q s k = .val v S' nx') (hq : ∀ b ∈ q, b < 256) (hs : ∀ b ∈ s, b < 256) :
    ∃ t, (∀ b ∈ t, b < 256) ∧ k t = .val v S' nx' ∧ ∀ w, GW w → Calls Tryz.prog 359 #[.string (bytesOf q), .string (bytesOf s)] w fun e w' => (∃ x, e = .returned (.tuple #[.string (bytesOf t), x])) ∧ Bel w w' := by
  obtain ⟨v1, S1, n1, e1, h1⟩ := vVO h
  obtain ⟨hg, h2⟩ := vbI h1
  obtain ⟨m, em, h3⟩ := vTup h2
  subst em
  match m, h3, e1 with
  | [.str t, .int kk ee], h3, e1 =>
    have hE := fun w (hw : GW w) => pure_call hcb e1 hg hw (.cons _ _ _ _ (.str q hq) (.cons _ _ _ _ (.str s hs) .nil)) (enter_run (by kernel_rfl) _ _)
    obtain ⟨ht, h4⟩ := vbI h3
    have ht := octN_ok ht
    refine ⟨t, ht, h4, fun w hw => (hE w hw).mono ?_⟩
    rintro e w' ⟨⟨r', v, q1, q2⟩, q3⟩
    obtain ⟨u, rfl, hu⟩ := q2.tup_inv
    obtain ⟨v1, v2, rfl, hv1, hv2⟩ := hu.two2
    exact ⟨⟨v2, by rw [q1, hv1.str_inv.1]⟩, q3⟩
end Go.Proofs.YtgpkpheejefiiaaGreatDoor
end
section
set_option linter.unusedVariables false
set_option linter.unusedSimpArgs false
namespace Go.Proofs.YtgpkpheejefiiaaGreatDoor
open Go.RowKit
/-- What is laid where a stripe comes into the cache. -/
structure Laid3 (w3 wx : World) (d g1 g2 ge : Nat) : Prop where
  bel : Bel w3 wx
  n12 : g1 ≠ g2
  n1e : g1 ≠ ge
  n2e : g2 ≠ ge
  l1 : w3.heap.size ≤ g1
  l2 : w3.heap.size ≤ g2
  le : w3.heap.size ≤ ge
  h1 : wx.heap[g1]? = some (.cells (madeCells #[.string ⟨#[]⟩] d) 9 (0, 0))
  h2 : wx.heap[g2]? = some (.cells (madeCells #[.string ⟨#[]⟩] d) 9 (0, 0))
  he : wx.heap[ge]? = some (.cells #[.int .u64 0, .int .u64 0, .int .u64 0, .int .u64 0, .slice (some ⟨g1, 0, none⟩) d d, .int .u64 0, .int .u64 0, .int .u64 0, .int .u64 0, .slice (some ⟨g2, 0, none⟩) d d, .int .u64 0, .int .u64 0, .int .u64 0, .int .u64 0] 191 (0, 0))
theorem heapA (w : World) (a b c : Obj) : (((w.alloc a).alloc b).alloc c).drew.heap[w.heap.size]? = some a ∧ (((w.alloc a).alloc b).alloc c).drew.heap[w.heap.size + 1]? = some b ∧ (((w.alloc a).alloc b).alloc c).drew.heap[w.heap.size + 1 + 1]? = some c := by
  refine ⟨?_, ?_, ?_⟩
  · show (((w.alloc a).alloc b).alloc c).heap[w.heap.size]? = _
    exact (Below.heap_alloc _ _ _ (by simp; omega)).trans ((Below.heap_alloc _ _ _ (by simp)).trans (heap_alloc_new _ _))
  · show (((w.alloc a).alloc b).alloc c).heap[w.heap.size + 1]? = _
    refine (Below.heap_alloc _ _ _ (by simp)).trans ?_
    have := heap_alloc_new (w.alloc a) b
    rwa [World.size_alloc] at this
  · show (((w.alloc a).alloc b).alloc c).heap[w.heap.size + 1 + 1]? = _
    have := heap_alloc_new ((w.alloc a).alloc b) c
    rwa [World.size_alloc, World.size_alloc] at this
theorem belA (w : World) (a b c : Obj) : Bel w (((w.alloc a).alloc b).alloc c).drew := (((Bel.alloc w a).trans (Bel.alloc _ b)).trans (Bel.alloc _ c)).trans (Bel.drew _)
set_option maxHeartbeats 4000000 in
set_option maxRecDepth 100000 in
theorem openNew (w : World) (bc bm0 : Nat) (vt0 : Value) (da0 st co : Int) (tx : ByteArray) (hc0 : w.heap[bc]? = some (.cells #[vt0, .int .i64 da0, .map (some bm0)] 197 (0, 0))) (h0 : 0 ≤ st) (h1 : st < 64) (h2 : 0 ≤ co) (h3 : co < da0) (htx : tx.size = 64) (X : World → Nat → Prop)
    (h102 : Calls Tryz.prog 102 #[.pointer (some ⟨bc, 0, none⟩), .int .i64 st] w fun e w1 => e = .returned (.pointer none) ∧
      Calls Tryz.prog 151 #[.pointer (some ⟨bc, 0, none⟩)] w1 fun e w2 => e = .returned (.int .i64 0) ∧ ∃ vt y z, w2.heap[bc]? = some (.cells #[vt, y, z] 197 (0, 0)) ∧
      Calls Tryz.prog 152 #[vt, .int .i64 st] w2 fun e w3 => (∃ v, e = .returned v) ∧ ∃ (vt3 : Value) (d bm : Nat), w3.heap[bc]? = some (.cells #[vt3, .int .i64 d, .map (some bm)] 197 (0, 0)) ∧ d ≤ 30 ∧
        ∀ wx g1 g2 ge, Laid3 w3 wx d g1 g2 ge → ∃ W', (Instr.mapUpdate 195 (.map (some bm)) (.int .i64 st) (.pointer (some ⟨ge, 0, none⟩))).run Tryz.prog wx = .ok () W' ∧ X W' ge) :
    Calls Tryz.prog 90 #[.pointer (some ⟨bc, 0, none⟩), .int .i64 st, .int .i64 co, .string tx] w fun e W' => ∃ ge, e = .returned (.tuple #[.pointer (some ⟨ge, 0, none⟩), .int .i64 0]) ∧ X W' ge := by
  have H102 := Lib.hid h102
  have hn : ∀ (w : World) (p : Option Addr), (binOp .eql 92 (.pointer p) (.pointer none)).run Tryz.prog w = .ok (.bool p.isNone) w := fun w p => run_eql_pointer_nil (P := Tryz.prog) w 92 p Tryz.underlying92
  have hn2 : ∀ (w : World) (p : Option Addr), (binOp .neq 185 (.pointer p) (.pointer none)).run Tryz.prog w = .ok (.bool !p.isNone) w := fun w p => run_neq_pointer_nil (P := Tryz.prog) w 185 p Tryz.underlying185
  have c1 := blk_cell hc0 1
  clear h102
  have d1 : decide (st < 0) = false := decide_eq_false (by omega)
  have d2 : decide (st ≥ 64) = false := decide_eq_false (by omega)
  have d2' : decide (64 ≤ st) = false := decide_eq_false (by omega)
  have d3 : decide (co < 0) = false := decide_eq_false (by omega)
  have d4 : decide (co ≥ da0) = false := decide_eq_false (by omega)
  have d4' : decide (da0 ≤ co) = false := decide_eq_false (by omega)
  go_enter Tryz.func90, Tryz.ntmps90
  go_wp2_with fail
  refine H102.out.mono ?_
  rintro e w1 ⟨rfl, k151⟩
  have K151 := Lib.hid k151
  clear k151 H102 c1 hc0
  go_wp2_with fail
  refine K151.out.mono ?_
  rintro e w2 ⟨rfl, vt, y, z, hc2, k152⟩
  have K152 := Lib.hid k152
  have c0 := blk_cell hc2 0
  clear k152 K151
  go_wp2_with fail
  refine K152.out.mono ?_
  rintro e w3 ⟨⟨v, rfl⟩, vt3, d, bm, hc3, hd, hX⟩
  have HX := Lib.hid hX
  clear hX
  have c1 := blk_cell hc3 1
  have c2 := blk_cell hc3 2
  clear c0 hc2 K152
  go_wp2_with fail
  have hi9 : ∃ i, Tryz.prog.info? 9 = some i ∧ i.size = 1 ∧ i.zero = some (.string ⟨#[]⟩) ∧ i.bytes = 16 := by
    have : (Tryz.prog.info? 9).map (fun i => (i.size, i.zero, i.bytes)) = some (1, some (.string ⟨#[]⟩), 16) := by kernel_rfl
    cases h : Tryz.prog.info? 9 with
    | none => rw [h] at this; simp at this
    | some i => rw [h] at this; simp at this; exact ⟨i, rfl, this.1, this.2.1, this.2.2⟩
  have hms : ∀ W : World, (Instr.makeSlice 34 (.int .i64 d) (.int .i64 d)).run Tryz.prog W = .ok (.slice (some ⟨W.heap.size, 0, none⟩) d d) (W.alloc (.cells (madeCells #[.string ⟨#[]⟩] d) 9)) := fun W => by
    obtain ⟨i, i1, i2, i3, i4⟩ := hi9
    have := run_makeSlice (P := Tryz.prog) (w := W) 34 9 i (.string ⟨#[]⟩) Tryz.underlying34 i1 i3 .i64 .i64 d d (by omega) (by omega) (by rw [i2]; omega) (by rw [i4]; omega) (by omega)
    rw [i2] at this
    simpa [Value.cells] using this
  clear hi9
  have a1 : ∀ o, (w3.alloc o).cell? ⟨bc, 1, none⟩ = some (.int .i64 d) := fun o => blk_cell (blk_below hc3 (Bel.alloc w3 o)) 1
  have e1 : ∀ o o', ((w3.alloc o).alloc o').cell? ⟨bc, 1, none⟩ = some (.int .i64 d) := fun o o' => blk_cell (blk_below hc3 ((Bel.alloc w3 o).trans (Bel.alloc _ o'))) 1
  have HMM : Hid (madeCells #[.string ⟨#[]⟩] d = madeCells #[.string ⟨#[]⟩] d) := Lib.hid rfl
  go_cut [12] (fun s12 wx => ∃ g1 g2 ge : Nat, s12 = .pointer (some ⟨ge, 0, none⟩) ∧ Laid3 w3 wx d g1 g2 ge)
  case first =>
    go_region
    all_goals
      go_wp2_with fail
      go_meet
    · exact ⟨_, _, _, rfl, belA _ _ _ _, by omega, by omega, by omega, by omega, by omega, by omega, (heapA _ _ _ _).1, (heapA _ _ _ _).2.1, (heapA _ _ _ _).2.2⟩
    · exact ⟨_, _, _, rfl, belA _ _ _ _, by omega, by omega, by omega, by omega, by omega, by omega, (heapA _ _ _ _).2.1, (heapA _ _ _ _).1, (heapA _ _ _ _).2.2⟩
  case rest =>
    obtain ⟨g1, g2, ge, rfl, hL⟩ := hcut
    obtain ⟨W', hmu, hfin⟩ := HX.out _ _ _ _ hL
    have c5 := blk_cell (blk_below hc3 hL.bel) 2
    have HF := Lib.hid hfin
    clear hL hfin a1 e1 hms c1 c2 hc3
    go_wp2_with fail
    go_ret2
    exact ⟨_, rfl, HF.out⟩
end Go.Proofs.YtgpkpheejefiiaaGreatDoor
end
section
set_option linter.unusedVariables false
set_option linter.unusedSimpArgs false
namespace Go.Proofs.YtgpkpheejefiiaaGreatDoor
open Go.RowKit
set_option maxHeartbeats 1000000 in
set_option maxRecDepth 100000 in
theorem checkUsed (b : Nat) (w : World) (h0 : w.cell? ⟨b, 0, none⟩ = some (.pointer (some ⟨b, 0, none⟩))) :
    Calls Tryz.prog 309 #[.pointer (some ⟨b, 0, none⟩)] w fun e w' => e = .returned (.tuple #[]) ∧ w' = w := by
  obtain ⟨j, hj⟩ : ∃ j, Tryz.prog.info? 407 = some j := info_of_underlying Tryz.underlying407
  go_enter Tryz.func309, Tryz.ntmps309
  go_wp2
  rw [Lib.run_neq_ptr_same w _ Tryz.underlying405 hj]
  go_wp2
  go_end0
  exact ⟨rfl, rfl⟩
set_option maxHeartbeats 1000000 in
set_option maxRecDepth 100000 in
theorem checkFresh (b : Nat) (w : World) (e : TypeId) (he : e = 407 ∨ e = 438) (h0 : w.cell? ⟨b, 0, none⟩ = some (.pointer none)) (hsh : w.shape? b = some (e, 2)) (hfz : w.frozen? ⟨b, 0, none⟩ = false) :
    Calls Tryz.prog 309 #[.pointer (some ⟨b, 0, none⟩)] w fun e w' => e = .returned (.tuple #[]) ∧ w' = w.setCell ⟨b, 0, none⟩ (.pointer (some ⟨b, 0, none⟩)) := by
  have hsz : (Tryz.prog.info? 407).map (·.size) = some 2 := by kernel_rfl
  obtain ⟨j, hj, hjs⟩ := Option.map_eq_some_iff.1 hsz
  have hl : liesAt Tryz.prog Tryz.prog.depth e (2 / Tryz.prog.cellsOf e) 0 407 1 = true := by
    rcases he with rfl | rfl
    · kernel_rfl
    · kernel_rfl
  clear he
  go_enter Tryz.func309, Tryz.ntmps309
  go_wp2
  rw [Lib.run_to_unsafe w ⟨b, 0, none⟩ Tryz.underlying405 Tryz.underlying490 hj (by rw [hjs]; decide) hsh (Nat.zero_lt_succ 1)]
  simp only [Result.andThen]
  rw [Oper.upon_value]
  go_wp2
  rw [run_callFunc_extern (P := Tryz.prog) Tryz.func345 (by kernel_rfl) (by kernel_rfl) (by kernel_rfl) (e := Extern.AbiNoEscape.same) (by kernel_rfl)]
  rw [Lib.run_noEscape]
  simp only [Result.andThen]
  rw [Oper.upon_value]
  go_wp2
  rw [Lib.run_from_unsafe w ⟨b, 0, none⟩ Tryz.underlying490 Tryz.underlying405 hj hsh hl]
  simp only [Result.andThen]
  rw [Oper.upon_value]
  go_wp2
  go_end0
  exact ⟨rfl, rfl⟩
theorem bldT_ok {ob : SO} (h : bldT ob = true) : ∃ l t, ob = .cells l t ∧ (t = 407 ∨ t = 438) ∧ l.length = 2 := by
  cases ob with
  | cells l t =>
    have h : aB (or (Nat.beq t 407) (Nat.beq t 438)) (Nat.beq (lenS l) 2) = true := h
    obtain ⟨h1, h2⟩ := aB_true h
    rw [lenS_eq] at h2
    refine ⟨l, t, rfl, ?_, Nat.eq_of_beq_eq_true h2⟩
    rcases Bool.or_eq_true_iff.1 h1 with h | h
    · exact .inl (Nat.eq_of_beq_eq_true h)
    · exact .inr (Nat.eq_of_beq_eq_true h)
  | row => exact absurd h (by simp [bldT])
  | ro => exact absurd h (by simp [bldT])
  | map => exact absurd h (by simp [bldT])
theorem isNilp_ok {s : SV} (h : isNilp s = true) : s = .nilp := by
  cases s <;> first | rfl | exact absurd h (by simp [isNilp])
theorem kn309 : KnOK 309 kCheck := by
  intro cb _ args S nx s S' nx' h r w args' hs hG ha
  obtain ⟨p, rfl, h1⟩ := vA1 h
  obtain ⟨g, o, ob, l, ep, q1, q2, q3, q4, h2⟩ := vCell h1
  obtain ⟨hc, h3⟩ := vbI h2
  obtain ⟨hc1, hc2⟩ := aB_true hc
  obtain rfl : o = 0 := Nat.eq_of_beq_eq_true hc1
  obtain ⟨l', t, eo, ht, hl2⟩ := bldT_ok hc2
  subst ep
  obtain ⟨v1, rfl, e1⟩ := ha.one1
  obtain ⟨b, c, hr, rfl⟩ := e1.ptr_inv
  obtain ⟨u, z1, z2, z3, z4⟩ := cellAt hs q1 q2 q3 q4 hr
  have he := enter_run (f := 309) (by kernel_rfl) #[.pointer (some ⟨b, 0, none⟩)] w
  rw [bI_eq] at h3
  split at h3
  · rename_i hn
    rw [isNilp_ok hn] at z2
    cases z2
    obtain ⟨x1, x2, x3⟩ := vVal h3
    have hsh : w.shape? b = some (t, 2) := by
      obtain ⟨b', c', yy, k1, k2, k3⟩ := hs.obj g ob q1
      rw [hr] at k1
      obtain ⟨rfl, rfl⟩ : b = b' ∧ c = c' := by simpa using k1
      rw [eo] at k3
      cases k3 with
      | cells _ _ _ u hu =>
        have := hu.len
        simp [World.shape?, k2]
        omega
    obtain ⟨k1, k2⟩ := z4 (.ptr g 0) (.pointer (some ⟨b, 0, none⟩)) (.ptr g 0 b c hr)
    refine .inr ⟨he, (checkFresh b w t ht z1 hsh z3).mono fun e w' ⟨h1, h2⟩ => ?_⟩
    subst h2
    exact ⟨r, _, h1, Pl.le_refl r, by rw [← x2, ← x3]; exact k1, by rw [← x1]; exact .undef, k2⟩
  · obtain ⟨g', o', en, h4⟩ := vPtr h3
    obtain ⟨hg, h5⟩ := vbI h4
    obtain ⟨hg1, hg2⟩ := aB_true hg
    obtain rfl : g = g' := Nat.eq_of_beq_eq_true hg1
    obtain rfl : 0 = o' := Nat.eq_of_beq_eq_true hg2
    obtain ⟨x1, x2, x3⟩ := vVal h5
    rw [en] at z2
    obtain ⟨b', c', hr', rfl⟩ := z2.ptr_inv
    rw [hr] at hr'
    obtain ⟨rfl, rfl⟩ : b = b' ∧ c = c' := by simpa using hr'
    refine .inr ⟨he, (checkUsed b w z1).mono fun e w' ⟨h1, h2⟩ => ?_⟩
    subst h2
    exact ⟨r, _, h1, Pl.le_refl r, by rw [← x2, ← x3]; exact hs, by rw [← x1]; exact .undef, Upd.refl _ _⟩
end Go.Proofs.YtgpkpheejefiiaaGreatDoor
end
