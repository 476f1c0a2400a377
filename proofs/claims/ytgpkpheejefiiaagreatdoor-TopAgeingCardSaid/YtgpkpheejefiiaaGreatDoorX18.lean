/- Marks. | Maps of the cache and of its turn: int keys; pointers or bools. | Marks: counted, none. -/
import Derived.Test.YtgpkpheejefiiaaGreatDoorX17
import Derived.Test.YtgpkpheejefiiaaGreatDoorX16
import Derived.Handy
import Derived.BigRegion
import Derived.ChangeAlike
import Derived.RegionTactic
import Derived.Test.YtgpkpheejefiiaaGreatDoorX14
section
set_option linter.unusedVariables false
set_option linter.unusedSimpArgs false
namespace Go.Proofs.YtgpkpheejefiiaaGreatDoor
open Go.RowKit
set_option maxRecDepth 100000
section
variable {P : Program}
/-- A named result that lies in memory. -/
theorem res_c {fn : Func} {p : Tmp} {ty : TypeId} (h : fn.results = #[.cell p ty]) (tmps : Array Value) (w : World) (g : Nat) (t : TypeId) (cs : Array Value) (fr : Nat × Nat) (d : TypeDesc)
    (hp : tmps.getD p undef = .pointer (some ⟨g, 0, none⟩)) (hg : w.heap[g]? = some (.cells cs t fr))
    (hu : P.underlying ty = some d) (hd : (match d with | .struct _ | .array _ _ => true | _ => false) = true) (hi : (P.info? ty).map (·.size) = some cs.size) :
    (results fn tmps).run P w = .ok (.agg cs) w := by
  have hp' : tmps[p]?.getD undef = .pointer (some ⟨g, 0, none⟩) := by simpa using hp
  simp [results, h, hp', asAddr, run_loadVar_row w g t ty cs fr d hg hu hd hi]
theorem res_ct {fn : Func} {p u : Tmp} {ty : TypeId} (h : fn.results = #[.cell p ty, .tmp u]) (tmps : Array Value) (w : World) (g : Nat) (t : TypeId) (cs : Array Value) (fr : Nat × Nat) (d : TypeDesc)
    (hp : tmps.getD p undef = .pointer (some ⟨g, 0, none⟩)) (hg : w.heap[g]? = some (.cells cs t fr))
    (hu : P.underlying ty = some d) (hd : (match d with | .struct _ | .array _ _ => true | _ => false) = true) (hi : (P.info? ty).map (·.size) = some cs.size) :
    (results fn tmps).run P w = .ok (.tuple #[.agg cs, tmps.getD u undef]) w := by
  have hp' : tmps[p]?.getD undef = .pointer (some ⟨g, 0, none⟩) := by simpa using hp
  simp [results, h, hp', asAddr, run_loadVar_row w g t ty cs fr d hg hu hd hi]
theorem res_cc {fn : Func} {p p' : Tmp} {ty ty' : TypeId} (h : fn.results = #[.cell p ty, .cell p' ty']) (tmps : Array Value) (w : World) (g g' : Nat) (t t' : TypeId) (cs cs' : Array Value) (fr fr' : Nat × Nat) (d d' : TypeDesc)
    (hp : tmps.getD p undef = .pointer (some ⟨g, 0, none⟩)) (hg : w.heap[g]? = some (.cells cs t fr))
    (hu : P.underlying ty = some d) (hd : (match d with | .struct _ | .array _ _ => true | _ => false) = true) (hi : (P.info? ty).map (·.size) = some cs.size)
    (hp' : tmps.getD p' undef = .pointer (some ⟨g', 0, none⟩)) (hg' : w.heap[g']? = some (.cells cs' t' fr'))
    (hu' : P.underlying ty' = some d') (hd' : (match d' with | .struct _ | .array _ _ => true | _ => false) = true) (hi' : (P.info? ty').map (·.size) = some cs'.size) :
    (results fn tmps).run P w = .ok (.tuple #[.agg cs, .agg cs']) w := by
  have h1 : tmps[p]?.getD undef = .pointer (some ⟨g, 0, none⟩) := by simpa using hp
  have h2 : tmps[p']?.getD undef = .pointer (some ⟨g', 0, none⟩) := by simpa using hp'
  simp [results, h, h1, h2, asAddr, run_loadVar_row w g t ty cs fr d hg hu hd hi, run_loadVar_row w g' t' ty' cs' fr' d' hg' hu' hd' hi']
end
theorem info109 : (Tryz.prog.info? 109).map (·.size) = some 4 := by kernel_rfl
/-- A block of four cells, set anew. -/
theorem set4 {w : World} {g : Nat} {x0 x1 x2 x3 : Value} {t : TypeId} (h : w.heap[g]? = some (.cells #[x0, x1, x2, x3] t (0, 0))) (y0 y1 y2 y3 : Value) :
    ((((w.setCell ⟨g, 0, none⟩ y0).setCell ⟨g, 1, none⟩ y1).setCell ⟨g, 2, none⟩ y2).setCell ⟨g, 3, none⟩ y3).heap[g]? = some (.cells #[y0, y1, y2, y3] t (0, 0)) :=
  setc_blk (i := 3) (setc_blk (i := 2) (setc_blk (i := 1) (setc_blk (i := 0) h y0) y1) y2) y3
theorem Bel.set {w w1 : World} (h : Bel w w1) {p : Addr} (hp : w.heap.size ≤ p.block) (u : Value) : Bel w (w1.setCell p u) := by
  have k := Upd.of_set (F := fun k => k = p.block) (w := w1) p rfl u
  exact ⟨k.os.trans h.os, k.tape.trans h.tape, k.output.trans h.output, Nat.le_trans h.size k.size, fun i hi => (k.blk i (Nat.lt_of_lt_of_le hi h.size) (fun e => by omega)).trans (h.block i hi)⟩
abbrev MV (a b c d : Int) : Value := .agg #[.int .u64 a, .int .u64 b, .int .u64 c, .int .u64 d]
set_option maxHeartbeats 2000000 in
theorem may153 (w : World) (i : Int) (h0 : 0 ≤ i) (h1 : i < 256) : Calls Tryz.prog 153 #[.int .i64 i] w fun e w' => e = .returned (.bool true) ∧ Bel w w' := by
  have d1 : decide (i ≥ 0) = true := decide_eq_true h0
  have d2 : decide (0 ≤ i) = true := decide_eq_true h0
  have d3 : decide (i < 256) = true := decide_eq_true h1
  go_enter Tryz.func153, Tryz.ntmps153
  go_wp2_with fail
  go_ret
  exact ⟨rfl, Bel.refl w⟩
set_option maxHeartbeats 2000000 in
theorem bit154 (w : World) (i : Int) (h0 : 0 ≤ i) (h1 : i < 5) : Calls Tryz.prog 154 #[.int .i64 i] w fun e w' => ∃ x, e = .returned (.tuple #[.int .i64 0, .int .u64 x]) ∧ Bel w w' := by
  obtain rfl | rfl | rfl | rfl | rfl : i = 0 ∨ i = 1 ∨ i = 2 ∨ i = 3 ∨ i = 4 := by omega
  all_goals
    go_enter Tryz.func154, Tryz.ntmps154
    go_wp2_with fail
    go_region
    all_goals
      go_wp2_with fail
      go_ret2
      exact ⟨_, rfl, Bel.drew w⟩
theorem belA2 (w : World) (a b : Obj) : Bel w ((w.alloc a).alloc b) := (Bel.alloc w a).trans (Bel.alloc _ b)
set_option maxHeartbeats 2000000 in
theorem with92 (w : World) (i : Int) (h0 : 0 ≤ i) (h1 : i < 5) (a b c d : Int) : Calls Tryz.prog 92 #[MV a b c d, .int .i64 i] w fun e w' => ∃ a', e = .returned (MV a' b c d) ∧ Bel w w' := by
  have K1 := Lib.hid (fun w => may153 w i h0 (by omega))
  have K2 := Lib.hid (fun w => bit154 w i h0 h1)
  clear h0 h1
  go_enter Tryz.func92, Tryz.ntmps92
  go_wp2_with fail
  refine (K1.out _).mono ?_
  rintro e w1 ⟨rfl, hb1⟩
  have n1 := blk_below ((Below.heap_alloc (w.alloc (.cells #[.int .u64 a, .int .u64 b, .int .u64 c, .int .u64 d] 109)) (.cells #[.int .u64 0, .int .u64 0, .int .u64 0, .int .u64 0] 109) w.heap.size (by simp)).trans (heap_alloc_new _ _)) hb1
  have n2 : w1.heap[w.heap.size + 1]? = some (.cells #[.int .u64 0, .int .u64 0, .int .u64 0, .int .u64 0] 109 (0, 0)) := blk_below (by
    have := heap_alloc_new (w.alloc (.cells #[.int .u64 a, .int .u64 b, .int .u64 c, .int .u64 d] 109)) (.cells #[.int .u64 0, .int .u64 0, .int .u64 0, .int .u64 0] 109)
    rwa [World.size_alloc] at this) hb1
  have HB1 := Lib.hid ((belA2 w _ _).trans hb1)
  clear hb1
  go_wp2_with fail
  refine (K2.out _).mono ?_
  rintro e w2 ⟨x, rfl, hb2⟩
  have n1 := blk_below n1 hb2
  have n2 := blk_below n2 hb2
  have c0 := blk_cell n1 0
  have c1 := blk_cell n1 1
  have c2 := blk_cell n1 2
  have c3 := blk_cell n1 3
  have e0 := blk_cell n2 0
  have e1 := blk_cell n2 1
  have e2 := blk_cell n2 2
  have e3 := blk_cell n2 3
  have f0 := blk_frozen n1
  have f1 := blk_frozen n2
  have HB2 := Lib.hid (HB1.out.trans hb2)
  clear hb2
  go_wp2_with fail
  refine bodyPost_ret (res_c rfl _ _ (w.heap.size + 1) 109 #[.int .u64 (bits BinOp.or IntKind.u64 a x), .int .u64 b, .int .u64 c, .int .u64 d] (0, 0) _ rfl (set4 (setc_off n2 (by omega) _) _ _ _ _) Tryz.underlying109 rfl info109) rfl ?_
  refine ⟨_, rfl, ?_⟩
  exact ((((HB2.out.set (by simp) _).set (by simp) _).set (by simp) _).set (by simp) _).set (by simp) _
end Go.Proofs.YtgpkpheejefiiaaGreatDoor
end
section
set_option linter.unusedVariables false
set_option linter.unusedSimpArgs false
namespace Go.Proofs.YtgpkpheejefiiaaGreatDoor
open Go.RowKit
set_option maxRecDepth 100000
/-- every block is named by itself -/
def r0 : Pl := fun g => some (g, 0)
def RM (w : World) (b : Nat) (es : List (Int × SV)) : Prop := ∃ l clk, w.heap[b]? = some (.map (List.toArray l) clk) ∧ EmbM r0 es l ∧ (l.map (·.born)).Pairwise (· < ·) ∧ ∀ e ∈ l, e.born < clk
theorem RM.agree {w w' : World} {b : Nat} {es : List (Int × SV)} (h : RM w b es) (ha : w'.heap[b]? = w.heap[b]?) : RM w' b es := by
  obtain ⟨l, clk, h1, h2⟩ := h
  exact ⟨l, clk, ha.trans h1, h2⟩
theorem RM.lt {w : World} {b : Nat} {es : List (Int × SV)} (h : RM w b es) : b < w.heap.size := by
  obtain ⟨l, clk, h1, h2⟩ := h
  exact blk_lt h1
theorem RM.bel {w w' : World} {b : Nat} {es : List (Int × SV)} (h : RM w b es) (k : Bel w w') : RM w' b es := h.agree (k.block b h.lt)
theorem RM.made {w : World} {b : Nat} {clk : Nat} (h : w.heap[b]? = some (.map #[] clk)) : RM w b [] := ⟨[], clk, h, .nil, by simp, by simp⟩
theorem RM.look {w : World} {b : Nat} {es : List (Int × SV)} (h : RM w b es) (k : Int) :
    (findM es k = none → (Instr.lookup 195 (.map (some b)) (.int .i64 k) false).run Tryz.prog w = .ok (.pointer none) w) ∧
    (∀ e, findM es k = some (.ptr e 0) → (Instr.lookup 195 (.map (some b)) (.int .i64 k) false).run Tryz.prog w = .ok (PTR e) w) := by
  obtain ⟨l, clk, h1, h2, h3, h4⟩ := h
  have hz : (zeroValue 185).run Tryz.prog w = .ok (.pointer none) w := by
    have h : (Tryz.prog.info? 185).map (fun i => i.zero) = some (some (.pointer none)) := by kernel_rfl
    cases hi : Tryz.prog.info? 185 with
    | none => rw [hi] at h; simp at h
    | some i => rw [hi] at h; simp at h; simp [zeroValue, typeInfo, hi, h]
  constructor
  · intro hf
    simp only [Instr.lookup, Sem.run_bind, run_underlying Tryz.underlying195, Result.andThen_ok, run_getObj' h1, Sem.run_pure, run_checkKey_int Tryz.underlying3, Instr.findKey, run_underlying Tryz.underlying3]
    rw [findM_none h2 hf 0]
    simp only [Sem.run_pure, Result.andThen_ok, Sem.run_bind, hz]
    rfl
  · intro e hf
    obtain ⟨j, v, bn, f1, f2, f3⟩ := findM_some (q := .i64) h2 hf 0
    have hv : v = PTR e := by
      cases f2 with
      | ptr _ _ b c hb => simp [r0] at hb; rw [← hb.1]
    subst hv
    simp only [Instr.lookup, Sem.run_bind, run_underlying Tryz.underlying195, Result.andThen_ok, run_getObj' h1, Sem.run_pure, run_checkKey_int Tryz.underlying3, Instr.findKey, run_underlying Tryz.underlying3]
    rw [f1]
    rfl
theorem RM.upd {w : World} {b : Nat} {es : List (Int × SV)} (h : RM w b es) (ty vt : TypeId) (ht : Tryz.prog.underlying ty = some (.map 3 vt)) (k : Int) (s : SV) (v : Value) (hv : Emb r0 s v) :
    ∃ w', (Instr.mapUpdate ty (.map (some b)) (.int .i64 k) v).run Tryz.prog w = .ok () w' ∧ RM w' b (putM es k s) ∧ w.grownBy w' (some b) := by
  obtain ⟨l, clk, q2, hl, hb, hk⟩ := h
  have hlt := blk_lt q2
  have hgr : ∀ o, w.grownBy { w with heap := w.heap.setIfInBounds b o } (some b) := fun o => ⟨rfl, rfl, rfl, by simp, fun k hk hne => by
    show (w.heap.setIfInBounds b o)[k]? = _
    rw [Array.getElem?_setIfInBounds]
    rw [if_neg (fun e => hne (by rw [e]))]⟩
  cases hf : findM es k with
  | none =>
    have hn := findM_none (q := .i64) hl hf 0
    refine ⟨_, ?_, ⟨l ++ [⟨.int .i64 k, v, clk⟩], clk + 1, ?_, (putM_none clk hv hl hf).1, ?_, ?_⟩, hgr (Obj.map (l ++ [(⟨.int .i64 k, v, clk⟩ : MapEntry)]).toArray (clk + 1))⟩
    · simp only [Instr.mapUpdate, Sem.run_bind, run_underlying ht, Result.andThen_ok, run_getObj' q2, run_checkKey_int Tryz.underlying3, Instr.findKey, run_underlying Tryz.underlying3]
      rw [hn]
      simp only [Sem.run_pure, Result.andThen_ok]
      rw [run_setObj_map _ q2]
      simp
    · show (w.heap.setIfInBounds b _)[b]? = _
      rw [Array.getElem?_setIfInBounds, if_pos rfl, if_pos hlt]
    · rw [List.map_append, List.pairwise_append]
      refine ⟨hb, by simp, fun x hx y hy => ?_⟩
      obtain ⟨en, he, rfl⟩ := List.mem_map.1 hx
      simp at hy
      subst hy
      exact hk en he
    · intro en he
      rcases List.mem_append.1 he with he | he
      · have := hk _ he; omega
      · simp at he; subst he; simp
  | some s0 =>
    obtain ⟨j, f1, ⟨en, f2, f3⟩, f4, _⟩ := putM_some hv hl hf
    obtain ⟨v0, f1⟩ := f1 .i64 0
    have hkey : ((l.toArray[j]?).map (·.key)).getD (.int .i64 k) = .int .i64 k := by simp [f2, f3]
    refine ⟨_, ?_, ⟨_, clk, ?_, f4, ?_, ?_⟩, hgr (.map (l.modify j fun e => { e with key := .int .i64 k, val := v }).toArray clk)⟩
    · simp only [Instr.mapUpdate, Sem.run_bind, run_underlying ht, Result.andThen_ok, run_getObj' q2, run_checkKey_int Tryz.underlying3, Instr.findKey, run_underlying Tryz.underlying3]
      rw [f1]
      simp only [Sem.run_pure, Result.andThen_ok, Nat.zero_add]
      rw [hkey]
      simp only [Instr.keyThatStays, sameBits_int, if_true, Sem.run_pure, Sem.run_bind, Result.andThen_ok]
      rw [run_setObj_map _ q2]
      simp
    · show (w.heap.setIfInBounds b _)[b]? = _
      rw [Array.getElem?_setIfInBounds, if_pos rfl, if_pos hlt]
    · have : (l.modify j fun e => { e with key := .int .i64 k, val := v }).map (·.born) = l.map (·.born) := by
        apply List.ext_getElem?
        intro i
        simp [List.getElem?_modify]
        cases l[i]? <;> simp
        split <;> rfl
      rw [this]; exact hb
    · intro e' he'
      obtain ⟨i, hi, rfl⟩ := List.getElem_of_mem he'
      rw [List.getElem_modify]
      have hi' : i < l.length := by simpa using hi
      have hki := hk _ (List.getElem_mem hi')
      split <;> exact hki
end Go.Proofs.YtgpkpheejefiiaaGreatDoor
end
section
set_option linter.unusedVariables false
set_option linter.unusedSimpArgs false
namespace Go.Proofs.YtgpkpheejefiiaaGreatDoor
open Go.RowKit
set_option maxRecDepth 100000
set_option maxHeartbeats 2000000 in
theorem ones103 (w : World) (x : Int) : Calls Tryz.prog 103 #[.int .u64 x] w fun e w' => ∃ r, e = .returned (.int .i64 r) ∧ Bel w w' := by
  go_enter Tryz.func103, Tryz.ntmps103
  go_wp2_with fail
  go_ret
  exact ⟨_, rfl, Bel.refl w⟩
theorem eqMV (a b c d x y z t : Int) : ∃ r, ∀ w, (Op.equal 109 (MV a b c d) (MV x y z t)).run Tryz.prog w = .ok r w := by
  obtain ⟨q, hb⟩ : ∃ q, eqAgg 4 (.agg [.int .u64 a, .int .u64 b, .int .u64 c, .int .u64 d]) (.agg [.int .u64 x, .int .u64 y, .int .u64 z, .int .u64 t]) = some q := ⟨_, rfl⟩
  refine ⟨q, fun w => (tabZ_ok.eqa 109 4 rfl r0 _ _ (MV a b c d) (MV x y z t) q .eql (.tmp 0) (.tmp 0) w ?_ ?_ hb).1⟩
  · exact .agg _ [_, _, _, _] (.cons _ _ _ _ (.int _ _) (.cons _ _ _ _ (.int _ _) (.cons _ _ _ _ (.int _ _) (.cons _ _ _ _ (.int _ _) .nil))))
  · exact .agg _ [_, _, _, _] (.cons _ _ _ _ (.int _ _) (.cons _ _ _ _ (.int _ _) (.cons _ _ _ _ (.int _ _) (.cons _ _ _ _ (.int _ _) .nil))))
theorem eqMW (a b c d x y z t : Int) : ∃ r, ∀ w, (Op.equalIn 10000 109 (MV a b c d) (MV x y z t)).run Tryz.prog w = .ok r w := eqMV a b c d x y z t
set_option maxHeartbeats 2000000 in
theorem empty101 (w : World) (a b c d : Int) : Calls Tryz.prog 101 #[MV a b c d] w fun e w' => ∃ r, e = .returned (.bool r) ∧ Bel w w' := by
  obtain ⟨r, hr⟩ := eqMW a b c d 0 0 0 0
  go_enter Tryz.func101, Tryz.ntmps101
  go_wp2_with fail
  go_ret
  exact ⟨r, rfl, Bel.alloc w _⟩
set_option maxHeartbeats 2000000 in
theorem index109 (a b c d : Int) (w : World) : (Instr.index 109 (MV a b c d) (.int .i64 0)).run Tryz.prog w = .ok (.int .u64 a) w ∧ (Instr.index 109 (MV a b c d) (.int .i64 1)).run Tryz.prog w = .ok (.int .u64 b) w ∧
    (Instr.index 109 (MV a b c d) (.int .i64 2)).run Tryz.prog w = .ok (.int .u64 c) w ∧ (Instr.index 109 (MV a b c d) (.int .i64 3)).run Tryz.prog w = .ok (.int .u64 d) w := by
  refine ⟨?_, ?_, ?_, ?_⟩ <;> simp [Instr.index, run_underlying Tryz.underlying109, asIntOf, part, run_underlying Tryz.underlying107]
theorem count45 (w : World) (a b c d : Int) : Calls Tryz.prog 45 #[MV a b c d] w fun e w' => ∃ r, e = .returned (.int .i64 r) ∧ Bel w w' := by
  have K := Lib.hid ones103
  have i0 := fun w => (index109 a b c d w).1
  have i1 := fun w => (index109 a b c d w).2.1
  have i2 := fun w => (index109 a b c d w).2.2.1
  have i3 := fun w => (index109 a b c d w).2.2.2
  go_enter Tryz.func45, Tryz.ntmps45
  go_wp2_with fail
  refine wp_loop_rounds 5 ?_
  rw [rounds_succ]
  go_wp2_with (go_at_call 103; refine (K.out _ _).mono ?_; rintro e w1 ⟨r1, rfl, hb1⟩)
  rw [rounds_succ]
  go_wp2_with (go_at_call 103; refine (K.out _ _).mono ?_; rintro e w2 ⟨r2, rfl, hb2⟩)
  rw [rounds_succ]
  go_wp2_with (go_at_call 103; refine (K.out _ _).mono ?_; rintro e w3 ⟨r3, rfl, hb3⟩)
  rw [rounds_succ]
  go_wp2_with (go_at_call 103; refine (K.out _ _).mono ?_; rintro e w4 ⟨r4, rfl, hb4⟩)
  rw [rounds_succ]
  go_wp2_with fail
  go_ret
  exact ⟨_, rfl, ((((Bel.alloc w _).trans hb1).trans hb2).trans hb3).trans hb4⟩
end Go.Proofs.YtgpkpheejefiiaaGreatDoor
end
