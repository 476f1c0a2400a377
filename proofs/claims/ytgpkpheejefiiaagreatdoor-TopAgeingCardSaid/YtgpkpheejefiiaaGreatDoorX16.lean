/- Rows of structs of three cells: how an element is taken out (slices.Delete) and put in (slices.Insert). Cell by cell. | Rows of structs of three cells: slices.Delete of one element. | Rows of structs of three cells: slices.Insert of one element. | Rows of structs of three cells, by lists; found by their keys, rising. -/
import Derived.Test.YtgpkpheejefiiaaGreatDoorProg
import Derived.WalkKit
import Derived.KernelRfl
import Derived.Below
import Derived.Lib.Hide
import Derived.Laws.AppendOwn
import Derived.Laws.CopyOwn
import Derived.Laws.IdiomCopy
import Derived.Laws.MakeOwn
import Derived.Laws.Externs
import Derived.Lib.AppendZeros
import Derived.Lib.AppendZerosOnto
import Derived.Lib.Overlaps
import Derived.Lib.SliceRun
import Derived.Deep.RegionLaw
import Derived.Deep.OwnRows
import Derived.Shelf.RegionOpenPlain
import Derived.ArgAppend
import Derived.OrdersHeld
import Derived.Tactics
import Derived.Lib.MinMax
import Derived.Deep.LoopGhost
import Derived.Deep.QuietTactic
section
set_option linter.unusedVariables false
set_option linter.unusedSimpArgs false
namespace Go.Proofs.YtgpkpheejefiiaaGreatDoor.Q20
open Go.RowKit
/-- The cells of an element that is zero. -/
def Z3 : List Value := [.int .i64 0, .string ⟨#[]⟩, .int .i64 0]
theorem infoE : (Tryz.prog.info? 103).map (fun i => (i.zero, i.size, i.bytes)) = some (some (.agg Z3.toArray), 3, 32) := by kernel_rfl
theorem infoX : ∃ i, Tryz.prog.info? 103 = some i ∧ i.zero = some (.agg Z3.toArray) ∧ i.size = 3 ∧ i.bytes = 32 := by
  have h := infoE
  cases hi : Tryz.prog.info? 103 with
  | none => rw [hi] at h; simp at h
  | some i =>
    rw [hi] at h
    simp only [Option.map_some, Option.some.injEq, Prod.mk.injEq] at h
    exact ⟨i, rfl, h.1, h.2.1, h.2.2⟩
theorem elemS : Tryz.prog.underlying 182 = some (.slice 103) := Tryz.underlying182
theorem step_copy_runI {P : Program} {ops : Array Oper} {o : Oper} {a : Act} {w : World} {K : Act → World → Prop} {Q : Exit → Act → World → Prop} {E : Prop}
    (hg : o.guard = none) (d x : Operand) (dT sT : TypeId) (hop : o.op = Op.call { callee := Callee.builtin Builtin.copy, args := #[d, x], argTypes := #[dT, sT] })
    (v u : Value) (hd : a.eval d = v) (hx : a.eval x = u) {v' : Value} {w' : World} (hr : (Builtin.copy_ #[dT, sT] o.type #[v, u]).run P w = .ok v' w') (hK : K (a.put o.dst v') w') :
    if Region.wanted o (yielded ops a.tmps) = true then Oper.wp P o a w K Q else E := by
  have hw : Region.wanted o (yielded ops a.tmps) = true := by simp [Region.wanted, hg]
  rw [if_pos hw]
  unfold Oper.wp
  simp [execOp, hop, resolve, invoke, builtin, hd, hx, hr, Result.andThen]
  exact hK
theorem wpList_copy_runI {P : Program} (w : World) {ops : Array Oper} {rest : List Oper} {o : Oper} {a : Act} {Q : Exit → Act → World → Prop} (hgd : o.guard = none) (d s : Operand) (t t' : TypeId)
    (ho : o.op = .call { callee := .builtin .copy, args := #[d, s], argTypes := #[t, t'] }) (v u : Value) (hd : a.eval d = v) (hs : a.eval s = u) {v' : Value} {w' : World}
    (hr : (Builtin.copy_ #[t, t'] o.type #[v, u]).run P w = .ok v' w') (h : wpList P ops Q rest (a.put o.dst v') w') : wpList P ops Q (o :: rest) a w := by
  refine wpList_plain hgd fun K hK => ?_
  unfold Oper.wp execOp
  simp only [ho, resolve, invoke, builtin, Sem.run_bind, Sem.run_pure, Result.andThen_ok, List.map_toArray, List.map_cons, List.map_nil, hd, hs, hr]
  exact hK _ _ h
theorem step_append_runI {P : Program} {ops : Array Oper} {o : Oper} {a : Act} {w : World} {K : Act → World → Prop} {Q : Exit → Act → World → Prop} {E : Prop}
    (hg : o.guard = none) (d x : Operand) (dT sT : TypeId) (hop : o.op = Op.call { callee := Callee.builtin Builtin.append, args := #[d, x], argTypes := #[dT, sT] })
    (v u : Value) (hd : a.eval d = v) (hx : a.eval x = u) {v' : Value} {w' : World} (hr : (Builtin.append_ #[dT, sT] o.type #[v, u]).run P w = .ok v' w') (hK : K (a.put o.dst v') w') :
    if Region.wanted o (yielded ops a.tmps) = true then Oper.wp P o a w K Q else E := by
  have hw : Region.wanted o (yielded ops a.tmps) = true := by simp [Region.wanted, hg]
  rw [if_pos hw]
  unfold Oper.wp
  simp [execOp, hop, resolve, invoke, builtin, hd, hx, hr, Result.andThen]
  exact hK
theorem wpList_clear_runI {P : Program} (w : World) {ops : Array Oper} {rest : List Oper} {o : Oper} {a : Act} {Q : Exit → Act → World → Prop} (hgd : o.guard = none) (s : Operand) (t : TypeId)
    (ho : o.op = .call { callee := .builtin .clear, args := #[s], argTypes := #[t] }) (u : Value) (hs : a.eval s = u) {v' : Value} {w' : World}
    (hr : (Builtin.clear_ #[t] o.type #[u]).run P w = .ok v' w') (h : wpList P ops Q rest (a.put o.dst v') w') : wpList P ops Q (o :: rest) a w := by
  refine wpList_plain hgd fun K hK => ?_
  unfold Oper.wp execOp
  simp only [ho, resolve, invoke, builtin, Sem.run_bind, Sem.run_pure, Result.andThen_ok, List.map_toArray, List.map_cons, List.map_nil, hs, hr]
  exact hK _ _ h
/-- What a row holds behind a splice. -/
def spl (cur : List Value) (o : Nat) (cs : List Value) : List Value := cur.take o ++ cs ++ cur.drop (o + cs.length)
theorem spl_len {cur : List Value} {o : Nat} {cs : List Value} (h : o + cs.length ≤ cur.length) : (spl cur o cs).length = cur.length := by unfold spl; simp; omega
/-- copy, elements of three cells. -/
theorem run_copy3 (w : World) (ty : TypeId) (g o dLen dCap : Nat) (a : Addr) (sLen sCap : Nat) (cur : List Value) (t : TypeId) (cs : List Value)
    (hg : w.heap[g]? = some (.cells cur.toArray t (0, 0))) (hn : cs.length = Nat.min sLen dLen * 3)
    (hsrc : ∀ j v, cs[j]? = some v → w.cell? (a.add j) = some v) (hfit : o + cs.length ≤ cur.length) (h1 : ∀ v ∈ cs, v.oneCell' = true) :
    (Builtin.copy_ #[182, 182] ty #[.slice (some ⟨g, o, none⟩) dLen dCap, .slice (some a) sLen sCap]).run Tryz.prog w =
      .ok (goInt (Nat.min sLen dLen)) (w.setRow g (spl cur o cs).toArray) := by
  have hl := run_loadCells_list (P := Tryz.prog) w a cs hsrc
  have hst := run_storeCells_at Tryz.prog g o t cs 0 cur.toArray w hg (by simpa using hfit) h1
  obtain ⟨i, hq, hz, hi, _⟩ := infoX
  rw [hn] at hl
  simp only [Nat.add_zero] at hst
  simp [Builtin.copy_, run_underlying elemS, Builtin.lenOf, Builtin.firstCells, sizeOf, typeInfo, hq, hi, hl, hst, spl]
/-- append where there is room, elements of three cells, whatever the head's length. -/
theorem run_app3 (w : World) (ty : TypeId) (g n cap : Nat) (a : Addr) (m c : Nat) (cur : List Value) (news : List Value)
    (hg : w.heap[g]? = some (.cells cur.toArray 103 (0, 0))) (hl : news.length = m * 3) (hnews : ∀ j u, news[j]? = some u → w.cell? (a.add j) = some u) (h1 : ∀ u ∈ news, u.oneCell' = true)
    (hroom : n + m ≤ cap) (hfit : n * 3 + news.length ≤ cur.length) :
    (Builtin.append_ #[182, 182] ty #[.slice (some ⟨g, 0, none⟩) n cap, .slice (some a) m c]).run Tryz.prog w =
      .ok (.slice (some ⟨g, 0, none⟩) (n + m) cap) (w.setRow g (spl cur (n * 3) news).toArray) := by
  obtain ⟨i, hq, hz, hi, _⟩ := infoX
  have := run_append_room (P := Tryz.prog) w 182 ty 103 i elemS hq g n cap cur.toArray hg a m c news (by rw [hi]; exact hl) hnews h1 hroom (by rw [hi]; simpa using hfit)
  rw [hi] at this
  exact this
theorem Z3_one : ∀ u ∈ Z3, u.oneCell' = true := by unfold Z3; simp; decide
theorem zeroE (w : World) : (zeroValue 103).run Tryz.prog w = .ok (.agg Z3.toArray) w := by
  obtain ⟨i, hq, hz, hi, _⟩ := infoX
  simp [zeroValue, typeInfo, hq, hz]
theorem zc1 : (Builtin.zeroCells (Value.agg Z3.toArray).cells 1).toList = Z3 := by
  simp [Builtin.zeroCells, Value.cells, Z3, Array.range]
/-- clear of one element. -/
theorem run_clear3 (w : World) (ty : TypeId) (g o c : Nat) (cur : List Value) (t : TypeId) (hg : w.heap[g]? = some (.cells cur.toArray t (0, 0))) (hfit : o + 3 ≤ cur.length) :
    (Builtin.clear_ #[182] ty #[.slice (some ⟨g, o, none⟩) 1 c]).run Tryz.prog w = .ok (.tuple #[]) (w.setRow g (spl cur o Z3).toArray) := by
  have hst := run_storeCells_at Tryz.prog g o t Z3 0 cur.toArray w hg (by simpa [Z3] using hfit) Z3_one
  simp only [Nat.add_zero] at hst
  simp [Builtin.clear_, run_underlying elemS, zeroE]
  rw [show (Builtin.zeroCells (Value.agg ([.int .i64 0, .string ⟨#[]⟩, .int .i64 0] : List Value).toArray).cells 1).toList = Z3 from zc1, hst]
  simp [spl]
theorem cells_add (g o j : Nat) : (⟨g, o, none⟩ : Addr).add j = ⟨g, o + j, none⟩ := by unfold Addr.add; split <;> simp_all
theorem cell_row {w : World} {g : Nat} {cur : List Value} {t : TypeId} (hg : w.heap[g]? = some (.cells cur.toArray t (0, 0))) (j : Nat) : w.cell? ⟨g, j, none⟩ = cur[j]? := by
  simp [World.cell?, hg]
end Go.Proofs.YtgpkpheejefiiaaGreatDoor.Q20
end
section
set_option linter.unusedVariables false
set_option linter.unusedSimpArgs false
namespace Go.Proofs.YtgpkpheejefiiaaGreatDoor.Q20
open Go.RowKit
theorem ownsRow_of {w : World} {base g cap n : Nat} {cur xs : List Value} (hb : base ≤ g) (hg : w.heap[g]? = some (.cells cur.toArray 103 (0, 0))) (hn : n ≤ cap) (hc : cap ≤ maxLen) (hs : cur.length = cap * 3) (hx : cur.take (n * 3) = xs) :
    w.ownsRow base 103 3 (.slice (some ⟨g, 0, none⟩) n cap) n xs := by
  refine ⟨?_, .inr ⟨g, cap, cur.toArray, rfl, hb, hg, hn, hc, by simpa using hs, by simpa using hx⟩⟩
  rw [← hx, List.length_take, hs]
  have : n * 3 ≤ cap * 3 := Nat.mul_le_mul_right _ hn
  omega
theorem grown_setRow (w : World) (g : Nat) (cs : Array Value) : w.grownBy (w.setRow g cs) (some g) :=
  ⟨rfl, rfl, rfl, by simp, fun k hk hne => setRow_other w g k cs (fun e => hne (by rw [e]))⟩
theorem grown_drew (w : World) (r : Option Nat) : w.grownBy w.drew r := ⟨rfl, rfl, rfl, Nat.le_refl _, fun _ _ _ => rfl⟩
theorem grown_trans {a b c : World} {r : Option Nat} (h : a.grownBy b r) (k : b.grownBy c r) : a.grownBy c r :=
  ⟨k.os.trans h.os, k.tape.trans h.tape, k.output.trans h.output, Nat.le_trans h.size k.size, fun i hi hne => (k.block i (Nat.lt_of_lt_of_le hi h.size) hne).trans (h.block i hi hne)⟩
set_option maxHeartbeats 8000000 in
set_option maxRecDepth 100000 in
theorem delC (w : World) (base : Nat) (v : Value) (n : Nat) (xs : List Value) (hown : w.ownsRow base 103 3 v n xs) (i : Nat) (hi : i < n) (h1 : ∀ u ∈ xs, u.oneCell' = true) :
    Calls Tryz.prog 98 #[v, .int .i64 i, .int .i64 ((i : Int) + 1)] w fun e w' => ∃ v', e = .returned v' ∧ w'.ownsRow base 103 3 v' (n - 1) (xs.take (i * 3) ++ xs.drop ((i + 1) * 3)) ∧ w.grownBy w' v.ownBlock ∧ v'.ownBlock = v.ownBlock := by
  obtain ⟨hlen, ⟨_, h0⟩ | ⟨g, cap, cur, rfl, hb, hg, hn, hc, hs, hx⟩⟩ := hown
  · omega
  obtain ⟨cl, rfl⟩ : ∃ cl : List Value, cur = cl.toArray := ⟨cur.toList, by simp⟩
  obtain ⟨q, rfl⟩ : ∃ q, n = i + q + 1 := ⟨n - i - 1, by omega⟩
  simp only [List.size_toArray] at hs hx
  have hcl : cl.length = cap * 3 := hs
  have hxl : xs.length = (i + q + 1) * 3 := hlen
  have hm : maxLen = 9223372036854775807 := rfl
  obtain ⟨news, hnews⟩ : ∃ news, news = xs.drop ((i + 1) * 3) := ⟨_, rfl⟩
  have hnl : news.length = q * 3 := by rw [hnews, List.length_drop, hxl]; omega
  have hnc : ∀ j u, news[j]? = some u → cl[(i + 1) * 3 + j]? = some u := by
    intro j u hu
    rw [hnews, List.getElem?_drop, ← hx, List.getElem?_take] at hu
    split at hu
    · exact hu
    · simp at hu
  have hn1 : ∀ u ∈ news, u.oneCell' = true := fun u hu => h1 u (by rw [hnews] at hu; exact List.mem_of_mem_drop hu)
  obtain ⟨A, hA, hsrc⟩ : ∃ A : Addr, (if cap = i + 1 then some (⟨g, 0, none⟩ : Addr) else some ⟨g, (i + 1) * 3, none⟩) = some A ∧ Hid (∀ t u, news[t]? = some u → w.drew.cell? (A.add t) = some u) := by
    by_cases h : cap = i + 1
    · refine ⟨⟨g, 0, none⟩, by simp [h], Lib.hid fun t u hu => ?_⟩
      have h0 : news.length = 0 := by rw [hnl]; omega
      rw [List.length_eq_zero_iff.1 h0] at hu
      simp at hu
    · refine ⟨⟨g, (i + 1) * 3, none⟩, by simp [h], Lib.hid fun t u hu => ?_⟩
      rw [cells_add]
      exact (cell_row hg _).trans (hnc t u hu)
  have hgd : w.drew.heap[g]? = some (.cells cl.toArray 103 (0, 0)) := hg
  have hap := Lib.hid (fun ty => run_app3 w.drew ty g i cap A q (cap - (i + 1)) cl news hgd hnl hsrc.out hn1 (by omega) (by rw [hnl, hcl]; omega))
  obtain ⟨c1, hc1⟩ : ∃ c1, c1 = spl cl (i * 3) news := ⟨_, rfl⟩
  rw [← hc1] at hap
  have hc1l : c1.length = cap * 3 := by rw [hc1, spl_len (by rw [hnl, hcl]; omega), hcl]
  obtain ⟨W1, hW1⟩ : ∃ W1, W1 = w.drew.setRow g c1.toArray := ⟨_, rfl⟩
  rw [← hW1] at hap
  have hg1 : W1.heap[g]? = some (.cells c1.toArray 103 (0, 0)) := by rw [hW1]; exact setRow_heap w.drew g _ _ 103 (0, 0) hgd
  have hcr := Lib.hid (fun ty => run_clear3 W1 ty g ((i + q) * 3) (cap - (i + q)) c1 103 hg1 (by rw [hc1l]; omega))
  obtain ⟨c2, hc2⟩ : ∃ c2, c2 = spl c1 ((i + q) * 3) Z3 := ⟨_, rfl⟩
  rw [← hc2] at hcr
  have hc2l : c2.length = cap * 3 := by rw [hc2, spl_len (by rw [hc1l]; simp [Z3]; omega), hc1l]
  have hfin : Hid ((W1.setRow g c2.toArray).ownsRow base 103 3 (.slice (some ⟨g, 0, none⟩) (i + q) cap) (i + q + 1 - 1) (xs.take (i * 3) ++ xs.drop ((i + 1) * 3)) ∧ w.grownBy (W1.setRow g c2.toArray) (some g)) := Lib.hid ⟨by
    refine ownsRow_of hb (setRow_heap W1 g _ _ 103 (0, 0) hg1) (by omega) hc hc2l ?_
    rw [← hnews, hc2, spl, List.append_assoc, List.take_append_of_le_length (by rw [List.length_take, hc1l]; omega), List.take_take, Nat.min_self, hc1, spl, List.append_assoc]
    have hcx : cl.take (i * 3) = xs.take (i * 3) := by rw [← hx, List.take_take]; congr 1; omega
    rw [hcx, ← List.append_assoc, List.take_append_of_le_length (by simp [hxl, hnl]; omega), List.take_of_length_le (by simp [hxl, hnl]; omega)], by
    rw [hW1]
    exact grown_trans (grown_trans (grown_drew w _) (grown_setRow _ _ _)) (grown_setRow _ _ _)⟩
  have hicap : i + 1 ≤ cap := by omega
  have hic2 : i ≤ cap := by omega
  have hiq : i + q ≤ cap := by omega
  have hiq1 : i + q + 1 ≤ cap := by omega
  have hcne : ¬ (cap = i + q) := by omega
  have hwi : IntKind.i64.wrap ((i : Int) + 1) = (i : Int) + 1 := by rw [IntKind.wrap_i64]; omega
  have hj1 : (0 : Int) ≤ (i : Int) + 1 := by omega
  have hj2 : (i : Int) ≤ (i : Int) + (q : Int) := by omega
  have mixed : Tryz.prog.follows Departure.mixedOrders = true := by kernel_rfl
  clear hx hnc hsrc hgd hc1 hW1 hg1 hc2 hc1l hc2l hnews hs hcl hxl hlen hm
  go_enter Tryz.func98, Tryz.ntmps98
  go_wp2_with fail
  go_region_law_o (refine step_append_runI rfl (.tmp 22) (.tmp 25) 182 182 rfl _ _ (by simp [Act.eval, Act.put]) (by simp [Act.eval, Act.put]) (hap.out _) ?_)
  have hcr0 := hcr.out 0
  go_wp2_with fail
  go_ret
  exact ⟨_, rfl, hfin.out.1, hfin.out.2, rfl⟩
end Go.Proofs.YtgpkpheejefiiaaGreatDoor.Q20
end
section
set_option linter.unusedVariables false
set_option linter.unusedSimpArgs false
namespace Go.Proofs.YtgpkpheejefiiaaGreatDoor.Q20
open Go.RowKit
theorem sizeE (w : World) : (Go.sizeOf 103).run Tryz.prog w = .ok 3 w := by
  obtain ⟨i, hq, hz, hi, _⟩ := infoX
  simp [sizeOf, typeInfo, hq, hi]
/-- What stands behind an insertion. -/
theorem spl_ins {cl xs x : List Value} {i q cap : Nat} (hcl : cl.length = cap * 3) (hq : i + q + 2 ≤ cap) (hx : cl.take ((i + q + 1) * 3) = xs) (hx3 : x.length = 3) :
    (spl (spl cl ((i + 1) * 3) (xs.drop (i * 3))) (i * 3) x).take ((i + q + 2) * 3) = xs.take (i * 3) ++ x ++ xs.drop (i * 3) ∧ (spl (spl cl ((i + 1) * 3) (xs.drop (i * 3))) (i * 3) x).length = cap * 3 := by
  have hxl : xs.length = (i + q + 1) * 3 := by rw [← hx, List.length_take, hcl]; omega
  have hdl : (xs.drop (i * 3)).length = (q + 1) * 3 := by rw [List.length_drop, hxl]; omega
  have l1 : (spl cl ((i + 1) * 3) (xs.drop (i * 3))).length = cap * 3 := by rw [spl_len (by rw [hdl, hcl]; omega), hcl]
  refine ⟨?_, by rw [spl_len (by rw [l1, hx3]; omega), l1]⟩
  have t1 : (spl cl ((i + 1) * 3) (xs.drop (i * 3))).take (i * 3) = xs.take (i * 3) := by
    unfold spl
    rw [List.append_assoc, List.take_append_of_le_length (by rw [List.length_take, hcl]; omega), List.take_take, ← hx, List.take_take]
    congr 1; omega
  have t2 : (spl cl ((i + 1) * 3) (xs.drop (i * 3))).drop (i * 3 + x.length) = xs.drop (i * 3) ++ cl.drop ((i + 1) * 3 + (q + 1) * 3) := by
    unfold spl
    rw [hx3, hdl, List.append_assoc, List.drop_append_of_le_length (by rw [List.length_take, hcl]; omega), List.drop_eq_nil_of_le (by rw [List.length_take, hcl]; omega), List.nil_append]
  rw [spl, t1, t2, ← List.append_assoc, List.take_append_of_le_length (by simp [hxl, hx3, hdl]; omega), List.take_of_length_le (by simp [hxl, hx3]; omega)]
theorem ov_apart (w : World) (vb g m vc off lb cb : Nat) (x cl : List Value) (hvb : w.heap[vb]? = some (.cells x.toArray 103 (0, 0))) (hg : w.heap[g]? = some (.cells cl.toArray 103 (0, 0))) (hne : vb ≠ g) (hcl : 0 < cl.length) :
    (callFunc 166 #[.slice (some ⟨vb, 0, none⟩) m vc, .slice (some ⟨g, off, none⟩) lb cb]).run Tryz.prog w = .ok (.value (.bool false)) w := by
  rw [run_callFunc_extern Tryz.func166 (by kernel_rfl) (by kernel_rfl) (by kernel_rfl) (e := Extern.SlicesOverlaps.overlaps #[182, 182] #[4]) (by kernel_rfl),
    Lib.run_overlaps_apart w 182 4 103 elemS 3 sizeE ⟨vb, 0, none⟩ ⟨g, off, none⟩ m vc lb cb hne 103 103 x.length cl.length (by simp [World.shape?, hvb]) (by simp [World.shape?, hg]) (by omega) (by simp [World.frozen?, hvb]) (by simp [World.frozen?, hvb])]
  rfl
set_option maxHeartbeats 8000000 in
set_option maxRecDepth 100000 in
/-- Room: in place. -/
theorem insShift (w : World) (base g cap i q vb : Nat) (xs x : List Value) (cl : List Value) (hb : base ≤ g) (hg : w.heap[g]? = some (.cells cl.toArray 103 (0, 0))) (hc : cap ≤ maxLen) (hcl : cl.length = cap * 3) (hroom : i + q + 2 ≤ cap)
    (hx : cl.take ((i + q + 1) * 3) = xs) (h1 : ∀ u ∈ xs, u.oneCell' = true) (hx3 : x.length = 3) (hx1 : ∀ u ∈ x, u.oneCell' = true) (hvb : w.heap[vb]? = some (.cells x.toArray 103 (0, 0))) (hne : vb ≠ g) :
    Calls Tryz.prog 104 #[.slice (some ⟨g, 0, none⟩) (i + q + 1) cap, .int .i64 i, .slice (some ⟨vb, 0, none⟩) 1 1] w fun e w' => ∃ v', e = .returned v' ∧ w'.ownsRow base 103 3 v' (i + q + 2) (xs.take (i * 3) ++ x ++ xs.drop (i * 3)) ∧ w.grownBy w' (some g) := by
  have hm : maxLen = 9223372036854775807 := rfl
  have hxl : xs.length = (i + q + 1) * 3 := by rw [← hx, List.length_take, hcl]; omega
  have hdl : (xs.drop (i * 3)).length = (q + 1) * 3 := by rw [List.length_drop, hxl]; omega
  have hov := fun off lb cb => ov_apart w vb g 1 1 off lb cb x cl hvb hg hne (by omega)
  have hgd : w.drew.heap[g]? = some (.cells cl.toArray 103 (0, 0)) := hg
  have hsrc : ∀ j v, (xs.drop (i * 3))[j]? = some v → w.drew.cell? ((⟨g, i * 3, none⟩ : Addr).add j) = some v := by
    intro j v hj
    rw [cells_add]
    refine (cell_row hg _).trans ?_
    rw [List.getElem?_drop, ← hx, List.getElem?_take] at hj
    split at hj
    · exact hj
    · simp at hj
  have hcp1 := fun ty => run_copy3 w.drew ty g ((i + 1) * 3) (q + 1) (cap - (i + 1)) ⟨g, i * 3, none⟩ (q + 2) (cap - i) cl 103 (xs.drop (i * 3)) hgd (by rw [hdl]; simp [Nat.min_def]) hsrc (by rw [hdl, hcl]; omega) (fun u hu => h1 u (List.mem_of_mem_drop hu))
  obtain ⟨c1, hc1⟩ : ∃ c1, c1 = spl cl ((i + 1) * 3) (xs.drop (i * 3)) := ⟨_, rfl⟩
  obtain ⟨s1, s2⟩ := spl_ins hcl hroom hx hx3
  rw [← hc1] at hcp1 s1 s2
  have hc1l : c1.length = cap * 3 := by rw [hc1, spl_len (by rw [hdl, hcl]; omega), hcl]
  obtain ⟨W1, hW1⟩ : ∃ W1, W1 = w.drew.setRow g c1.toArray := ⟨_, rfl⟩
  rw [← hW1] at hcp1
  have hg1 : W1.heap[g]? = some (.cells c1.toArray 103 (0, 0)) := by rw [hW1]; exact setRow_heap w.drew g _ _ 103 (0, 0) hgd
  have hv1 : W1.heap[vb]? = some (.cells x.toArray 103 (0, 0)) := by rw [hW1, setRow_other _ _ _ _ hne]; exact hvb
  have hcp2 := fun ty => run_copy3 W1 ty g (i * 3) (q + 2) (cap - i) ⟨vb, 0, none⟩ 1 1 c1 103 x hg1 (by rw [hx3]; simp [Nat.min_def]) (fun j v hj => by rw [cells_add]; exact (cell_row hv1 _).trans (by rw [Nat.zero_add]; exact hj)) (by rw [hx3, hc1l]; omega) hx1
  obtain ⟨c2, hc2⟩ : ∃ c2, c2 = spl c1 (i * 3) x := ⟨_, rfl⟩
  rw [← hc2] at hcp2 s1 s2
  have hfin : Hid ((W1.setRow g c2.toArray).ownsRow base 103 3 (.slice (some ⟨g, 0, none⟩) (i + q + 2) cap) (i + q + 2) (xs.take (i * 3) ++ x ++ xs.drop (i * 3)) ∧ w.grownBy (W1.setRow g c2.toArray) (some g)) := Lib.hid ⟨
    ownsRow_of hb (setRow_heap W1 g _ _ 103 (0, 0) hg1) hroom hc s2 s1, by
    rw [hW1]
    exact grown_trans (grown_trans (grown_drew w _) (grown_setRow _ _ _)) (grown_setRow _ _ _)⟩
  have em1 : Nat.min (q + 2) (q + 1) = q + 1 := by simp [Nat.min_def]
  have em2 : Nat.min 1 (q + 2) = 1 := by simp [Nat.min_def]
  rw [em1] at hcp1
  rw [em2] at hcp2
  have HCP1 := Lib.hid hcp1
  have hcp2' := fun ty => hcp2 ty
  have hw1 : IntKind.i64.wrap ((i : Int) + (q : Int) + 1 + 1) = (i : Int) + (q : Int) + 2 := by rw [IntKind.wrap_i64]; omega
  have hw2 : IntKind.i64.wrap ((i : Int) + 1) = (i : Int) + 1 := by rw [IntKind.wrap_i64]; omega
  have hgt : decide ((cap : Int) < (i : Int) + (q : Int) + 2) = false := by simp; omega
  have hgt' : decide ((i : Int) + (q : Int) + 2 > (cap : Int)) = false := by simp; omega
  have b1 : (0 : Int) ≤ (i : Int) + (q : Int) + 2 := by omega
  have b2 : (i : Int) + (q : Int) + 2 ≤ (cap : Int) := by omega
  have b3 : (0 : Int) ≤ (i : Int) + 1 := by omega
  have b4 : (i : Int) + 1 ≤ (i : Int) + (q : Int) + 2 := by omega
  have b5 : (i : Int) ≤ (i : Int) + (q : Int) + 2 := by omega
  have n1 : ((i : Int) + (q : Int) + 2).toNat = i + q + 2 := by omega
  have n2 : ¬ (cap = i + 1) := by omega
  have n3 : ¬ (cap = i) := by omega
  have n4 : i + q + 2 - (i + 1) = q + 1 := by omega
  have n5 : i + q + 2 - i = q + 2 := by omega
  have mixed : Tryz.prog.follows Departure.mixedOrders = true := by kernel_rfl
  clear hx hsrc hgd hc1 hW1 hg1 hv1 hc2 hc1l s1 s2 hcl hxl hm em1 em2 hdl hcp1 hcp2
  go_enter Tryz.func104, Tryz.ntmps104
  go_wp2_with fail
  go_region_law_o (refine step_copy_runI rfl (.tmp 73) (.tmp 76) 182 182 rfl (.slice (some ⟨g, (i + 1) * 3, none⟩) (q + 1) (cap - (i + 1))) (.slice (some ⟨g, i * 3, none⟩) (q + 2) (cap - i)) (by simp [Act.eval, Act.put, n4, n5]) (by simp [Act.eval, Act.put, n4, n5]) (HCP1.out _) ?_)
  have h16 := hcp2' 3
  go_wp2_with fail
  go_ret
  exact ⟨_, rfl, hfin.out.1, hfin.out.2⟩
theorem growBy_le : ∀ (r n c : Nat), r ≤ 4 → c ≤ 100000 → Builtin.growBy n r c ≤ 1000000 := by
  intro r n c hr hc
  match r, hr with
  | 0, _ => simp only [Builtin.growBy]; omega
  | 1, _ => simp only [Builtin.growBy]; (repeat' split) <;> omega
  | 2, _ => simp only [Builtin.growBy]; (repeat' split) <;> omega
  | 3, _ => simp only [Builtin.growBy]; (repeat' split) <;> omega
  | 4, _ => simp only [Builtin.growBy]; (repeat' split) <;> omega
theorem next_le (n c : Nat) (hn : n ≤ 100001) (hc : c ≤ 100000) : Builtin.nextslicecap n c ≤ 1000000 := by
  unfold Builtin.nextslicecap
  split
  · omega
  · split
    · omega
    · exact growBy_le 4 n c (by omega) hc
set_option maxHeartbeats 8000000 in
set_option maxRecDepth 100000 in
/-- No room: a new row. -/
theorem insGrow (w : World) (base g i q vb : Nat) (xs x : List Value) (cl : List Value) (hb : base ≤ w.heap.size) (hg : w.heap[g]? = some (.cells cl.toArray 103 (0, 0))) (hcl : cl.length = (i + q + 1) * 3) (hsm : i + q + 1 ≤ 100000)
    (hx : cl.take ((i + q + 1) * 3) = xs) (h1 : ∀ u ∈ xs, u.oneCell' = true) (hx3 : x.length = 3) (hx1 : ∀ u ∈ x, u.oneCell' = true) (hvb : w.heap[vb]? = some (.cells x.toArray 103 (0, 0))) :
    Calls Tryz.prog 104 #[.slice (some ⟨g, 0, none⟩) (i + q + 1) (i + q + 1), .int .i64 i, .slice (some ⟨vb, 0, none⟩) 1 1] w fun e w' => ∃ v', e = .returned v' ∧ w'.ownsRow base 103 3 v' (i + q + 2) (xs.take (i * 3) ++ x ++ xs.drop (i * 3)) ∧ w.grownBy w' (some g) := by
  have hm : maxLen = 9223372036854775807 := rfl
  have hxl : xs.length = (i + q + 1) * 3 := by rw [← hx, List.length_take, hcl]; omega
  have hdl : (xs.drop (i * 3)).length = (q + 1) * 3 := by rw [List.length_drop, hxl]; omega
  have hgl : g < w.heap.size := (Array.getElem?_eq_some_iff.1 hg).1
  have hvl : vb < w.heap.size := (Array.getElem?_eq_some_iff.1 hvb).1
  have hol : (xs.take (i * 3)).length = i * 3 := by rw [List.length_take, hxl]; omega
  have hocell : ∀ j v, (xs.take (i * 3))[j]? = some v → w.drew.cell? ((⟨g, 0, none⟩ : Addr).add j) = some v := by
    intro j v hj
    rw [cells_add, Nat.zero_add]
    refine (cell_row hg _).trans ?_
    rw [List.getElem?_take] at hj
    split at hj
    · rw [← hx, List.getElem?_take] at hj
      split at hj
      · exact hj
      · simp at hj
    · simp at hj
  obtain ⟨inf, hq, hz, hi, hby⟩ := infoX
  have hold : (Builtin.firstCells inf.size i (.slice (some ⟨g, 0, none⟩) i (i + q + 1))).run Tryz.prog w.drew = .ok (xs.take (i * 3)).toArray w.drew := by
    have hl := run_loadCells_list (P := Tryz.prog) w.drew ⟨g, 0, none⟩ (xs.take (i * 3)) hocell
    rw [hol] at hl
    rw [hi]
    exact hl
  have hap := fun ty => Lib.run_append_grow_zeros (P := Tryz.prog) w 182 3 ty 103 inf (.agg Z3.toArray) .i64 .i64 elemS Tryz.underlying3 hq hz (some ⟨g, 0, none⟩) i (i + q + 1) (xs.take (i * 3)) hold (q + 2) (by omega) (by omega) (by omega) (by omega) (by rw [hby]; omega) (by rw [hby]; have := next_le (i + (q + 2)) (i + q + 1) (by omega) (by omega); omega)
  have hge := grownCap_ge w (i + (q + 2)) (i + q + 1) 103
  have hle := grownCap_le_maxLen w (i + (q + 2)) (i + q + 1) 103 (by omega)
  generalize grownCap w (i + (q + 2)) (i + q + 1) 103 = gc at *
  obtain ⟨c0, hc0⟩ : ∃ c0 : List Value, c0 = xs.take (i * 3) ++ (Builtin.zeroCells (Value.agg Z3.toArray).cells (q + 2)).toList ++ (Builtin.zeroCells (Value.agg Z3.toArray).cells (gc - (i + (q + 2)))).toList := ⟨_, rfl⟩
  have hc0a : (xs.take (i * 3)).toArray ++ Builtin.zeroCells (Value.agg Z3.toArray).cells (q + 2) ++ Builtin.zeroCells (Value.agg Z3.toArray).cells (gc - (i + (q + 2))) = c0.toArray := by rw [hc0]; apply Array.ext'; simp
  have hz3 : (Value.agg Z3.toArray).cells.size = 3 := rfl
  have hc0l : c0.length = gc * 3 := by
    rw [hc0]
    simp only [List.length_append, Array.length_toList, size_zeroCells, hz3, hol]
    omega
  have hc0t : c0.take (i * 3) = xs.take (i * 3) := by
    rw [hc0, List.append_assoc, List.take_append_of_le_length (by omega), List.take_of_length_le (by omega)]
  rw [hc0a] at hap
  obtain ⟨W0, hW0⟩ : ∃ W0, W0 = w.drew.alloc (.cells c0.toArray 103) := ⟨_, rfl⟩
  simp only [← hW0] at hap
  have hgW0 : W0.heap[w.heap.size]? = some (.cells c0.toArray 103 (0, 0)) := by rw [hW0]; exact heap_alloc_new w.drew _
  have hgo0 : W0.heap[g]? = some (.cells cl.toArray 103 (0, 0)) := by rw [hW0]; exact (heap_alloc_old w.drew (.cells c0.toArray 103) hgl).trans hg
  have hvo0 : W0.heap[vb]? = some (.cells x.toArray 103 (0, 0)) := by rw [hW0]; exact (heap_alloc_old w.drew (.cells c0.toArray 103) hvl).trans hvb
  have hcp1 := fun ty => run_copy3 W0 ty w.heap.size (i * 3) (q + 2) (gc - i) ⟨vb, 0, none⟩ 1 1 c0 103 x hgW0 (by rw [hx3]; simp [Nat.min_def]) (fun j v hj => by rw [cells_add]; exact (cell_row hvo0 _).trans (by rw [Nat.zero_add]; exact hj)) (by rw [hx3, hc0l]; omega) hx1
  obtain ⟨c1, hc1⟩ : ∃ c1, c1 = spl c0 (i * 3) x := ⟨_, rfl⟩
  rw [← hc1] at hcp1
  have hc1l : c1.length = gc * 3 := by rw [hc1, spl_len (by rw [hx3, hc0l]; omega), hc0l]
  obtain ⟨W1, hW1⟩ : ∃ W1, W1 = W0.setRow w.heap.size c1.toArray := ⟨_, rfl⟩
  rw [← hW1] at hcp1
  have hgW1 : W1.drew.heap[w.heap.size]? = some (.cells c1.toArray 103 (0, 0)) := by rw [hW1]; exact setRow_heap W0 _ _ _ 103 (0, 0) hgW0
  have hgo1 : W1.heap[g]? = some (.cells cl.toArray 103 (0, 0)) := by rw [hW1, setRow_other _ _ _ _ (by omega)]; exact hgo0
  have hsrc : ∀ j v, (xs.drop (i * 3))[j]? = some v → W1.drew.cell? ((⟨g, i * 3, none⟩ : Addr).add j) = some v := by
    intro j v hj
    rw [cells_add]
    refine (cell_row hgo1 _).trans ?_
    rw [List.getElem?_drop, ← hx, List.getElem?_take] at hj
    split at hj
    · exact hj
    · simp at hj
  have hcp2 := fun ty => run_copy3 W1.drew ty w.heap.size ((i + 1) * 3) (q + 1) (gc - (i + 1)) ⟨g, i * 3, none⟩ (q + 1) (q + 1) c1 103 (xs.drop (i * 3)) hgW1 (by rw [hdl]; simp [Nat.min_def]) hsrc (by rw [hdl, hc1l]; omega) (fun u hu => h1 u (List.mem_of_mem_drop hu))
  obtain ⟨c2, hc2⟩ : ∃ c2, c2 = spl c1 ((i + 1) * 3) (xs.drop (i * 3)) := ⟨_, rfl⟩
  rw [← hc2] at hcp2
  have hfin : Hid ((W1.drew.setRow w.heap.size c2.toArray).ownsRow base 103 3 (.slice (some ⟨w.heap.size, 0, none⟩) (i + (q + 2)) gc) (i + q + 2) (xs.take (i * 3) ++ x ++ xs.drop (i * 3)) ∧ w.grownBy (W1.drew.setRow w.heap.size c2.toArray) (some g)) := Lib.hid ⟨by
    rw [show i + (q + 2) = i + q + 2 by omega]
    refine ownsRow_of hb (setRow_heap W1.drew _ _ _ 103 (0, 0) hgW1) (by omega) hle (by rw [hc2, spl_len (by rw [hdl, hc1l]; omega), hc1l]) ?_
    have e1 : c1.take ((i + 1) * 3) = xs.take (i * 3) ++ x := by
      rw [hc1, spl, hc0t, List.take_append_of_le_length (by simp [hol, hx3]; omega), List.take_of_length_le (by simp [hol, hx3]; omega)]
    rw [hc2, spl, e1, List.take_append_of_le_length (by simp [hxl, hx3]; omega), List.take_of_length_le (by simp [hxl, hx3]; omega)], by
    have hs0 : W0.heap.size = w.heap.size + 1 := by rw [hW0]; simp
    refine ⟨by rw [setRow_os]; show W1.os = _; rw [hW1, setRow_os, hW0]; rfl, by rw [setRow_tape]; show W1.tape = _; rw [hW1, setRow_tape, hW0]; rfl, by rw [setRow_output]; show W1.output = _; rw [hW1, setRow_output, hW0]; rfl, by rw [setRow_size]; show _ ≤ W1.heap.size; rw [hW1, setRow_size, hs0]; omega, fun k hk _ => ?_⟩
    rw [setRow_other _ _ _ _ (by omega)]
    show W1.heap[k]? = _
    rw [hW1, setRow_other _ _ _ _ (by omega), hW0]
    exact heap_alloc_old w.drew (.cells c0.toArray 103) hk⟩
  have em1 : Nat.min 1 (q + 2) = 1 := by simp [Nat.min_def]
  have em2 : Nat.min (q + 1) (q + 1) = q + 1 := by simp [Nat.min_def]
  rw [em1] at hcp1
  rw [em2] at hcp2
  have HAP := Lib.hid hap
  have HCP1 := Lib.hid hcp1
  have HCP2 := Lib.hid hcp2
  have hw1 : IntKind.i64.wrap ((i : Int) + (q : Int) + 1 + 1) = (i : Int) + (q : Int) + 2 := by rw [IntKind.wrap_i64]; omega
  have hw2 : IntKind.i64.wrap ((i : Int) + 1) = (i : Int) + 1 := by rw [IntKind.wrap_i64]; omega
  have hw3 : IntKind.i64.wrap ((i : Int) + (q : Int) + 2 - (i : Int)) = ((q + 2 : Nat) : Int) := by rw [IntKind.wrap_i64]; omega
  have hgt : decide ((i : Int) + (q : Int) + 1 < (i : Int) + (q : Int) + 2) = true := by simp
  have hgt' : decide ((i : Int) + (q : Int) + 2 > (i : Int) + (q : Int) + 1) = true := by simp
  have b1 : (0 : Int) ≤ (i : Int) + 1 := by omega
  have b2 : i ≤ i + q + 1 := by omega
  have b3 : (i : Int) + 1 ≤ (i : Int) + ((q : Int) + 2) := by omega
  have b5 : (i : Int) ≤ (i : Int) + (q : Int) + 1 := by omega
  have b4 : (i : Int) ≤ (i : Int) + ((q : Int) + 2) := by omega
  have n2 : ¬ (gc = i + 1) := by omega
  have n3 : ¬ (gc = i) := by omega
  have n4 : i + (q + 2) - (i + 1) = q + 1 := by omega
  have n5 : i + (q + 2) - i = q + 2 := by omega
  have n6 : i + q + 1 - i = q + 1 := by omega
  have n7 : ¬ (i + q + 1 = i) := by omega
  have mixed : Tryz.prog.follows Departure.mixedOrders = true := by kernel_rfl
  clear hx hsrc hc0 hc0a hc0l hc0t hW0 hgW0 hgo0 hvo0 hc1 hW1 hgW1 hgo1 hc2 hc1l hcl hxl hm em1 em2 hdl hcp1 hcp2 hap hold hocell hol hq hz hi hby hge hle
  have h10 := HCP1.out 3
  go_enter Tryz.func104, Tryz.ntmps104
  go_wp2_with (at_builtin; refine Lib.wpList_append_run _ rfl _ _ 182 3 rfl (.slice (some ⟨g, 0, none⟩) i (i + q + 1)) (.int .i64 ((q + 2 : Nat) : Int)) rfl rfl _ _ (HAP.out _) ?_)
  go_region_law_o (refine step_copy_runI rfl (.tmp 50) (.tmp 53) 182 182 rfl (.slice (some ⟨w.heap.size, (i + 1) * 3, none⟩) (q + 1) (gc - (i + 1))) (.slice (some ⟨g, i * 3, none⟩) (q + 1) (q + 1)) (by simp [Act.eval, Act.put, n4, n5, n6]) (by simp [Act.eval, Act.put, n4, n5, n6]) (HCP2.out _) ?_)
  go_wp2_with fail
  go_ret
  exact ⟨_, rfl, hfin.out.1, hfin.out.2⟩
set_option maxHeartbeats 8000000 in
set_option maxRecDepth 100000 in
/-- At the end. -/
theorem insEnd (w : World) (base vb n : Nat) (v : Value) (xs x : List Value) (hown : w.ownsRow base 103 3 v n xs) (hb : base ≤ w.heap.size) (hsm : n ≤ 100000) (hx3 : x.length = 3) (hx1 : ∀ u ∈ x, u.oneCell' = true) (hvb : w.heap[vb]? = some (.cells x.toArray 103 (0, 0))) :
    Calls Tryz.prog 104 #[v, .int .i64 n, .slice (some ⟨vb, 0, none⟩) 1 1] w fun e w' => ∃ v', e = .returned v' ∧ w'.ownsRow base 103 3 v' (n + 1) (xs ++ x) ∧ w.grownBy w' v.ownBlock := by
  have hm : maxLen = 9223372036854775807 := rfl
  obtain ⟨inf, hq, hz, hi, hby⟩ := infoX
  have hnews : ∀ j u, x[j]? = some u → w.cell? ((⟨vb, 0, none⟩ : Addr).add j) = some u := fun j v hj => by rw [cells_add]; exact (cell_row hvb _).trans (by rw [Nat.zero_add]; exact hj)
  have hz3 : (Value.agg Z3.toArray).cells.size = 3 := rfl
  have HO := Lib.hid hown
  have hown' := hown
  obtain ⟨_, ⟨rfl, rfl⟩ | ⟨g, cap, cur, rfl, _, _, hn, hc, _, _⟩⟩ := hown
  · clear hown'
    go_enter Tryz.func104, Tryz.ntmps104
    go_wp2_with (at_builtin; refine wpList_append_own _ rfl _ _ 182 rfl base 103 inf (.agg Z3.toArray) 3 32 elemS hq hz hi hby hz3 (by decide) (.slice none 0 0) 0 xs rfl HO.out ⟨vb, 0, none⟩ 1 1 x rfl (by omega) hnews hx1 (by omega) (by omega) hb ?_; intro v1 w1 ho hg _; have HR := Lib.hid ho; have HG := Lib.hid hg; clear ho hg)
    go_ret
    exact ⟨_, rfl, HR.out, HG.out⟩
  · clear hown'
    have hnn : (n : Int) ≤ (n : Int) := by omega
    go_enter Tryz.func104, Tryz.ntmps104
    go_wp2_with (at_builtin; refine wpList_append_own _ rfl _ _ 182 rfl base 103 inf (.agg Z3.toArray) 3 32 elemS hq hz hi hby hz3 (by decide) (.slice (some ⟨g, 0, none⟩) n cap) n xs rfl HO.out ⟨vb, 0, none⟩ 1 1 x rfl (by omega) hnews hx1 (by omega) (by omega) hb ?_; intro v1 w1 ho hg _; have HR := Lib.hid ho; have HG := Lib.hid hg; clear ho hg)
    all_goals
      go_ret
      exact ⟨_, rfl, HR.out, HG.out⟩
/-- slices.Insert of one element, wherever. -/
theorem insC (w : World) (base vb n i : Nat) (v : Value) (xs x : List Value) (hown : w.ownsRow base 103 3 v n xs) (hi : i ≤ n) (hb : base ≤ w.heap.size) (hsm : n ≤ 100000) (h1 : ∀ u ∈ xs, u.oneCell' = true) (hx3 : x.length = 3) (hx1 : ∀ u ∈ x, u.oneCell' = true)
    (hvb : w.heap[vb]? = some (.cells x.toArray 103 (0, 0))) (hne : some vb ≠ v.ownBlock) :
    Calls Tryz.prog 104 #[v, .int .i64 i, .slice (some ⟨vb, 0, none⟩) 1 1] w fun e w' => ∃ v', e = .returned v' ∧ w'.ownsRow base 103 3 v' (n + 1) (xs.take (i * 3) ++ x ++ xs.drop (i * 3)) ∧ w.grownBy w' v.ownBlock := by
  by_cases hin : i = n
  · subst hin
    have hl := hown.1
    rw [List.take_of_length_le (by omega), List.drop_eq_nil_of_le (by omega), List.append_nil]
    exact insEnd w base vb i v xs x hown hb hsm hx3 hx1 hvb
  · have hown' := hown
    obtain ⟨hlen, ⟨_, h0⟩ | ⟨g, cap, cur, rfl, hbg, hg, hn, hc, hs, hx⟩⟩ := hown
    · omega
    obtain ⟨cl, rfl⟩ : ∃ cl : List Value, cur = cl.toArray := ⟨cur.toList, by simp⟩
    obtain ⟨q, rfl⟩ : ∃ q, n = i + q + 1 := ⟨n - i - 1, by omega⟩
    simp only [List.size_toArray] at hs hx
    by_cases hroom : i + q + 2 ≤ cap
    · have hvg : vb ≠ g := fun e => hne (by rw [e]; rfl)
      exact insShift w base g cap i q vb xs x cl hbg hg hc hs hroom hx h1 hx3 hx1 hvb hvg
    · obtain rfl : cap = i + q + 1 := by omega
      exact insGrow w base g i q vb xs x cl hb hg hs hsm hx h1 hx3 hx1 hvb
end Go.Proofs.YtgpkpheejefiiaaGreatDoor.Q20
end
section
set_option linter.unusedVariables false
set_option linter.unusedSimpArgs false
namespace Go.Proofs.YtgpkpheejefiiaaGreatDoor.Q20
open Go.RowKit
theorem wp_gen {P : Program} {c : Code} {Q : Exit → Act → World → Prop} {a : Act} {w : World} (Φ : World → Prop) (hΦ : Φ w) (h : ∀ W, Φ W → c.wp P Q a W) : c.wp P Q a w := h w hΦ
theorem calls_gen {P : Program} {f : FuncId} {args : Array Value} {R : Ending → World → Prop} {w : World} (Φ : World → Prop) (hΦ : Φ w) (h : ∀ W, Φ W → Calls P f args W R) : Calls P f args w R := h w hΦ
def Bel (w w' : World) : Prop := Below w.heap.size w w'
theorem Bel.refl (w : World) : Bel w w := Below.refl _ w
theorem Bel.trans {w w1 w2 : World} (h : Bel w w1) (k : Bel w1 w2) : Bel w w2 := ⟨k.os.trans h.os, k.tape.trans h.tape, k.output.trans h.output, Nat.le_trans h.size k.size, fun i hi => (k.block i (Nat.lt_of_lt_of_le hi h.size)).trans (h.block i hi)⟩
theorem Bel.alloc (w : World) (o : Obj) : Bel w (w.alloc o) := (Below.refl _ w).alloc (Nat.le_refl _) o
theorem Bel.drew (w : World) : Bel w w.drew := ⟨rfl, rfl, rfl, Nat.le_refl _, fun _ _ => rfl⟩
theorem Bel.drewN (w : World) : ∀ n, Bel w (w.drewN n)
  | n => ⟨rfl, rfl, rfl, Nat.le_refl _, fun _ _ => rfl⟩
theorem blk_lt {w : World} {k : Nat} {o : Obj} (h : w.heap[k]? = some o) : k < w.heap.size := (Array.getElem?_eq_some_iff.1 h).1
theorem blk_below {w w1 : World} {g : Nat} {o : Obj} (h : w.heap[g]? = some o) (k : Bel w w1) : w1.heap[g]? = some o := (k.block g (blk_lt h)).trans h
theorem blk_cell {w : World} {g : Nat} {cs : Array Value} {t : TypeId} (h : w.heap[g]? = some (.cells cs t (0, 0))) (j : Nat) : w.cell? ⟨g, j, none⟩ = cs[j]? := by simp [World.cell?, h]
theorem blk_frozen {w : World} {g : Nat} {cs : Array Value} {t : TypeId} (h : w.heap[g]? = some (.cells cs t (0, 0))) (j : Nat) : w.frozen? ⟨g, j, none⟩ = false := by simp [World.frozen?, h]
theorem cellB {w w1 : World} (h : Bel w w1) {a : Addr} {v : Value} (hc : w.cell? a = some v) : w1.cell? a = some v :=
  (World.cell?_of_block (h.block a.block (World.block_lt_of_cell? w a hc))).trans hc
theorem bel_grown {w w1 : World} (h : Bel w w1) (r : Option Nat) : w.grownBy w1 r := ⟨h.os, h.tape, h.output, h.size, fun k hk _ => h.block k hk⟩
theorem w64i {x : Int} (h1 : -9223372036854775808 ≤ x) (h2 : x ≤ 9223372036854775807) : IntKind.i64.wrap x = x := by
  rw [IntKind.wrap_i64]; omega
/-- An element. -/
structure El where
  f0 : Int
  f1 : ByteArray
  f2 : Int
def enc (x : El) : List Value := [.int .i64 x.f0, .string x.f1, .int .i64 x.f2]
def flat (l : List El) : List Value := l.flatMap enc
theorem flat_nil : flat [] = [] := rfl
theorem flat_cons (x : El) (l : List El) : flat (x :: l) = enc x ++ flat l := rfl
theorem flat_append (l m : List El) : flat (l ++ m) = flat l ++ flat m := by unfold flat; simp
theorem flat_len (l : List El) : (flat l).length = l.length * 3 := by
  induction l with
  | nil => rfl
  | cons x l ih => rw [flat_cons, List.length_append, ih]; simp [enc]; omega
theorem flat_take (l : List El) (i : Nat) : (flat l).take (i * 3) = flat (l.take i) := by
  induction l generalizing i with
  | nil => simp [flat]
  | cons x l ih =>
    cases i with
    | zero => simp [flat]
    | succ i =>
      rw [flat_cons, List.take_succ_cons, flat_cons, ← ih i]
      have : (i + 1) * 3 = (enc x).length + i * 3 := by simp [enc]; omega
      rw [this, List.take_length_add_append]
theorem flat_drop (l : List El) (i : Nat) : (flat l).drop (i * 3) = flat (l.drop i) := by
  induction l generalizing i with
  | nil => simp [flat]
  | cons x l ih =>
    cases i with
    | zero => simp
    | succ i =>
      rw [flat_cons, List.drop_succ_cons, ← ih i]
      have : (i + 1) * 3 = (enc x).length + i * 3 := by simp [enc]; omega
      rw [this, List.drop_length_add_append]
theorem enc_one (x : El) : ∀ u ∈ enc x, u.oneCell' = true := by
  intro u hu
  simp only [enc, List.mem_cons, List.mem_nil_iff, or_false] at hu
  rcases hu with rfl | rfl | rfl <;> rfl
theorem flat_one (l : List El) : ∀ u ∈ flat l, u.oneCell' = true := by
  intro u hu
  unfold flat at hu
  obtain ⟨x, _, h⟩ := List.mem_flatMap.1 hu
  exact enc_one x u h
def el0 : El := ⟨0, ByteArray.empty, 0⟩
def nth (l : List El) (i : Nat) : El := l.getD i el0
theorem nth_get {l : List El} {i : Nat} (h : i < l.length) : l[i]? = some (nth l i) := by
  unfold nth; rw [List.getD_eq_getElem?_getD, List.getElem?_eq_getElem h]; rfl
theorem nth_mem {l : List El} {i : Nat} (h : i < l.length) : nth l i ∈ l := List.mem_of_getElem? (nth_get h)
theorem drop_nth {l : List El} {i : Nat} (h : i < l.length) : l.drop i = nth l i :: l.drop (i + 1) := by
  rw [List.drop_eq_getElem_cons h]
  congr 1
  have := nth_get h
  rw [List.getElem?_eq_getElem h] at this
  exact Option.some.inj this
/-- A row of the call's own. -/
def Row (w : World) (base : Nat) (v : Value) (l : List El) : Prop := w.ownsRow base 103 3 v l.length (flat l)
/-- A row that is read. -/
def RC (w : World) (A : Option Addr) (l : List El) : Prop := ∀ i, i < l.length → ∃ ad, A = some ad ∧ w.cell? (ad.add (i * 3)) = some (.int .i64 (nth l i).f0) ∧ w.cell? ⟨(ad.add (i * 3)).block, (ad.add (i * 3)).off + 1, none⟩ = some (.string (nth l i).f1) ∧ w.cell? ⟨(ad.add (i * 3)).block, (ad.add (i * 3)).off + 2, none⟩ = some (.int .i64 (nth l i).f2)
theorem RC.below {w w1 : World} {A : Option Addr} {l : List El} (h : RC w A l) (k : Bel w w1) : RC w1 A l := fun i hi => by
  obtain ⟨ad, e, h1, h2, h3⟩ := h i hi
  exact ⟨ad, e, cellB k h1, cellB k h2, cellB k h3⟩
theorem Row.nil (w : World) (base : Nat) : Row w base (.slice none 0 0) [] := World.ownsRow_nil w base 103 3
theorem Row.reads {w : World} {base : Nat} {v : Value} {l : List El} (h : Row w base v l) : ∃ A c, v = .slice A l.length c ∧ l.length ≤ c ∧ RC w A l := by
  obtain ⟨hl, ⟨rfl, h0⟩ | ⟨g, cap, cur, rfl, hb, hg, hn, hc, hs, hx⟩⟩ := h
  · refine ⟨none, 0, by rw [h0], by omega, fun i hi => by omega⟩
  · refine ⟨_, _, rfl, hn, fun i hi => ⟨_, rfl, ?_⟩⟩
    have key : ∀ j u, (enc (nth l i))[j]? = some u → w.cell? ⟨g, i * 3 + j, none⟩ = some u := by
      intro j u hu
      have hj : j < 3 := by have := (List.getElem?_eq_some_iff.1 hu).1; simpa [enc] using this
      have h1 : (flat l)[i * 3 + j]? = some u := by
        rw [← List.getElem?_drop, flat_drop, drop_nth hi, flat_cons, List.getElem?_append_left (by simp [enc]; omega)]
        exact hu
      rw [← hx, List.getElem?_take] at h1
      split at h1
      · rw [blk_cell hg]; simpa using h1
      · simp at h1
    rw [cells_add]
    exact ⟨by simpa using key 0 _ rfl, by simpa using key 1 _ rfl, by simpa using key 2 _ rfl⟩
theorem Row.bel {w w1 : World} {base : Nat} {v : Value} {l : List El} (h : Row w base v l) (k : Bel w w1) : Row w1 base v l :=
  World.ownsRow.kept h (bel_grown k none) (by cases hv : v.ownBlock <;> simp)
theorem Row.blk {w : World} {base : Nat} {v : Value} {l : List El} (h : Row w base v l) {k : Nat} (hk : v.ownBlock = some k) : base ≤ k ∧ ∃ cs, w.heap[k]? = some (.cells cs 103 (0, 0)) := by
  obtain ⟨hl, ⟨rfl, h0⟩ | ⟨g, cap, cur, rfl, hb, hg, hn, hc, hs, hx⟩⟩ := h
  · simp [Value.ownBlock] at hk
  · simp [Value.ownBlock] at hk
    subst hk
    exact ⟨hb, _, hg⟩
theorem Row.len {w : World} {base : Nat} {v : Value} {l : List El} (h : Row w base v l) : ∃ A c, v = .slice A l.length c := by
  obtain ⟨A, c, h1, _⟩ := h.reads; exact ⟨A, c, h1⟩
/-- What else there is (but for block g, and rows of ours) stays. -/
structure Kp (base g : Nat) (w w' : World) : Prop where
  os : w'.os = w.os
  tape : w'.tape = w.tape
  output : w'.output = w.output
  size : w.heap.size ≤ w'.heap.size
  blk : ∀ k, k < w.heap.size → k ≠ g → (k < base ∨ ∀ cs, w.heap[k]? ≠ some (.cells cs 103 (0, 0))) → w'.heap[k]? = w.heap[k]?
theorem Kp.of_bel {base g : Nat} {w w' : World} (h : Bel w w') : Kp base g w w' := ⟨h.os, h.tape, h.output, h.size, fun k hk _ _ => h.block k hk⟩
theorem Kp.trans {base g : Nat} {a b c : World} (h : Kp base g a b) (k : Kp base g b c) : Kp base g a c :=
  ⟨k.os.trans h.os, k.tape.trans h.tape, k.output.trans h.output, Nat.le_trans h.size k.size, fun i hi hne hq => by
    have e := h.blk i hi hne hq
    rw [← e]
    exact k.blk i (Nat.lt_of_lt_of_le hi h.size) hne (by rw [e]; exact hq)⟩
theorem Kp.of_grown {base g : Nat} {w w' : World} {v : Value} {l : List El} (h : w.grownBy w' v.ownBlock) (hr : Row w base v l) : Kp base g w w' :=
  ⟨h.os, h.tape, h.output, h.size, fun k hk _ hq => h.block k hk (fun e => by
    obtain ⟨h1, cs, h2⟩ := hr.blk e.symm
    rcases hq with hq | hq
    · omega
    · exact hq cs h2)⟩
theorem Kp.of_set {base g : Nat} {w : World} (p : Addr) (hp : p.block = g) (u : Value) : Kp base g w (w.setCell p u) :=
  ⟨rfl, rfl, rfl, (((Below.refl 0 w).setCell (p := p) (Nat.zero_le _) u).size), fun k hk hne _ => Below.heap_setCell w p u k (by rw [hp]; exact hne)⟩
theorem Kp.refl (base g : Nat) (w : World) : Kp base g w w := Kp.of_bel (Bel.refl w)
theorem Kp.below {base g : Nat} {w w' : World} (h : Kp base g w w') (hg : base ≤ g) (hb : base = w.heap.size) : Bel w w' :=
  ⟨h.os, h.tape, h.output, h.size, fun k hk => h.blk k hk (by omega) (.inl (by omega))⟩
theorem Kp.below' {base g : Nat} {w w1 w2 : World} (hb : Bel w w1) (h : Kp w.heap.size g w1 w2) (hg : w.heap.size ≤ g) : Bel w w2 :=
  ⟨h.os.trans hb.os, h.tape.trans hb.tape, h.output.trans hb.output, Nat.le_trans hb.size h.size, fun k hk => (h.blk k (Nat.lt_of_lt_of_le hk hb.size) (by omega) (.inl hk)).trans (hb.block k hk)⟩
/-- A block of another type, kept. -/
theorem Kp.keep {base g : Nat} {w w' : World} (h : Kp base g w w') {k : Nat} {cs : Array Value} {t : TypeId} (hk : w.heap[k]? = some (.cells cs t (0, 0))) (hne : k ≠ g) (ht : t ≠ 103) : w'.heap[k]? = some (.cells cs t (0, 0)) := by
  rw [h.blk k (blk_lt hk) hne (.inr fun cs' e => ?_)]
  · exact hk
  · rw [hk] at e
    simp at e
    exact ht e.2
theorem insRow (w : World) (base vb i : Nat) (v : Value) (l : List El) (x : El) (h : Row w base v l) (hi : i ≤ l.length) (hb : base ≤ w.heap.size) (hsm : l.length ≤ 100000) (hvb : w.heap[vb]? = some (.cells (enc x).toArray 103 (0, 0))) (hne : some vb ≠ v.ownBlock) :
    Calls Tryz.prog 104 #[v, .int .i64 i, .slice (some ⟨vb, 0, none⟩) 1 1] w fun e w' => ∃ v', e = .returned v' ∧ Row w' base v' (l.take i ++ x :: l.drop i) ∧ w.grownBy w' v.ownBlock := by
  refine (insC w base vb l.length i v (flat l) (enc x) h hi hb hsm (flat_one l) rfl (enc_one x) hvb hne).mono ?_
  rintro e w' ⟨v', rfl, h1, h2⟩
  refine ⟨v', rfl, ?_, h2⟩
  unfold Row
  rw [flat_append, flat_cons, ← flat_take, ← flat_drop, ← List.append_assoc]
  have : (l.take i ++ x :: l.drop i).length = l.length + 1 := by simp; omega
  rw [this]
  exact h1
theorem delRow (w : World) (base i : Nat) (v : Value) (l : List El) (h : Row w base v l) (hi : i < l.length) :
    Calls Tryz.prog 98 #[v, .int .i64 i, .int .i64 ((i : Int) + 1)] w fun e w' => ∃ v', e = .returned v' ∧ Row w' base v' (l.take i ++ l.drop (i + 1)) ∧ w.grownBy w' v.ownBlock := by
  refine (delC w base v l.length (flat l) h i hi (flat_one l)).mono ?_
  rintro e w' ⟨v', rfl, h1, h2, _⟩
  refine ⟨v', rfl, ?_, h2⟩
  unfold Row
  rw [flat_append, ← flat_take, ← flat_drop]
  have : (l.take i ++ l.drop (i + 1)).length = l.length - 1 := by simp; omega
  rw [this]
  exact h1
/-! ### found by keys -/
theorem isNaN (a : Int) (w : World) : Calls Tryz.prog 208 #[.int .i64 a] w fun e w' => e = .returned (.bool false) ∧ w = w' := by
  go_enter Tryz.func208, Tryz.ntmps208
  go_wp2_with fail
  go_ret
  exact ⟨by simp, rfl⟩
def cmpF (a b : Int) : Int := if a < b then -1 else if b < a then 1 else 0
set_option maxHeartbeats 1000000 in
theorem compare (a b : Int) (w : World) : Calls Tryz.prog 149 #[.int .i64 a, .int .i64 b] w fun e w' => e = .returned (.int .i64 (cmpF a b)) ∧ w = w' := by
  have K := Lib.hid isNaN
  unfold cmpF
  by_cases h1 : a < b
  · rw [if_pos h1]
    go_enter Tryz.func149, Tryz.ntmps149
    go_wp2_with fail
    refine (K.out _ _).mono ?_
    rintro e w1 ⟨rfl, rfl⟩
    go_wp2_with fail
    refine (K.out _ _).mono ?_
    rintro e w1 ⟨rfl, rfl⟩
    go_wp2_with fail
    go_ret
    exact ⟨rfl, rfl⟩
  · rw [if_neg h1]
    by_cases h2 : b < a
    · rw [if_pos h2]
      go_enter Tryz.func149, Tryz.ntmps149
      go_wp2_with fail
      refine (K.out _ _).mono ?_
      rintro e w1 ⟨rfl, rfl⟩
      go_wp2_with fail
      refine (K.out _ _).mono ?_
      rintro e w1 ⟨rfl, rfl⟩
      go_wp2_with fail
      go_ret
      exact ⟨rfl, rfl⟩
    · rw [if_neg h2]
      go_enter Tryz.func149, Tryz.ntmps149
      go_wp2_with fail
      refine (K.out _ _).mono ?_
      rintro e w1 ⟨rfl, rfl⟩
      go_wp2_with fail
      refine (K.out _ _).mono ?_
      rintro e w1 ⟨rfl, rfl⟩
      go_wp2_with fail
      go_ret
      exact ⟨rfl, rfl⟩
set_option maxHeartbeats 1000000 in
theorem closure (x : El) (t : Int) (w : World) : Calls Tryz.prog 148 #[.agg #[.int .i64 x.f0, .string x.f1, .int .i64 x.f2], .int .i64 t] w fun e w' => e = .returned (.int .i64 (cmpF x.f0 t)) ∧ Bel w w' := by
  obtain ⟨a, b, c⟩ := x
  have K := Lib.hid (compare a t)
  go_enter Tryz.func148, Tryz.ntmps148
  go_wp2_with fail
  refine (K.out _).mono ?_
  rintro e w1 ⟨rfl, rfl⟩
  go_wp2_with fail
  go_ret
  exact ⟨rfl, Bel.alloc _ _⟩
/-- Place i parts the keys below t from the others. -/
def FindAt (l : List El) (t : Int) (i : Nat) : Prop := i ≤ l.length ∧ (∀ j : Nat, j < i → (nth l j).f0 < t) ∧ (∀ j : Nat, i ≤ j → j < l.length → t ≤ (nth l j).f0)
def Rising (l : List El) : Prop := ∀ i j : Nat, i < j → j < l.length → (nth l i).f0 < (nth l j).f0
/-- Is it there? -/
def isAt (l : List El) (t : Int) (i : Nat) : Bool := decide (i < l.length) && decide ((nth l i).f0 = t)
set_option maxHeartbeats 4000000 in
set_option maxRecDepth 100000 in
theorem bsf (A : Option Addr) (c : Nat) (l : List El) (t : Int) (hs : Rising l) (hlen : l.length ≤ 1000000) (w : World) (hC : RC w A l) :
    Calls Tryz.prog 147 #[.slice A l.length c, .int .i64 t, .func (.func 148) #[] #[]] w fun e w' => ∃ (i : Nat), e = .returned (.tuple #[.int .i64 i, .bool (isAt l t i)]) ∧ FindAt l t i ∧ Bel w w' := by
  have K := Lib.hid (fun x => closure x t)
  have HC := Lib.hid hC
  have HS := Lib.hid hs
  have hll : Hid (l.length = l.length) := Lib.hid rfl
  clear hC hs
  go_enter Tryz.func147, Tryz.ntmps147
  go_wp2_with fail
  have hlm : (0 : Int) ≤ l.length := by omega
  go_loopw [9, 10] (fun v9 v10 wr => ∃ (lo hi : Nat), v9 = .int .i64 lo ∧ v10 = .int .i64 hi ∧ lo ≤ hi ∧ hi ≤ l.length ∧ Hid (Bel w wr ∧ (∀ j : Nat, j < lo → (nth l j).f0 < t) ∧ (∀ j : Nat, hi ≤ j → j < l.length → t ≤ (nth l j).f0))) (fun v9 v10 _ => (intOf v10 - intOf v9).toNat)
  case atStart => exact ⟨0, l.length, rfl, rfl, by omega, by omega, Lib.hid ⟨Bel.refl _, fun j hj => absurd hj (by omega), fun j h1 h2 => absurd h1 (by omega)⟩⟩
  case round =>
    obtain ⟨wo, rfl⟩ : ∃ wo : World, wo = wr := ⟨_, rfl⟩
    obtain ⟨lo, hi, rfl, rfl, hlh, hin, HI⟩ := hrel
    have hC' := HC.out.below HI.out.1
    by_cases hlt : lo < hi
    · obtain ⟨ad, rfl, x0, x1, x2⟩ := hC' ((lo + hi) / 2) (by omega)
      generalize hy : nth l ((lo + hi) / 2) = y at x0 x1 x2
      have HCl := Lib.hid (fun wx => K.out y wx)
      obtain ⟨y0, y1, y2⟩ := y
      simp only [] at x0 x1 x2 HCl
      have HY := Lib.hid hy
      clear hy hC'
      by_cases hc : y0 < t
      · have hcm : cmpF y0 t = -1 := by unfold cmpF; rw [if_pos (by omega)]
        rw [hcm] at HCl
        clear hcm
        go_wp2_with fail
        refine (HCl.out _).mono ?_
        rintro e w' ⟨rfl, hb⟩
        go_wp2_with fail
        have hfin : Hid (Bel w w' ∧ (∀ j : Nat, j < (lo + hi) / 2 + 1 → (nth l j).f0 < t) ∧ (∀ j : Nat, hi ≤ j → j < l.length → t ≤ (nth l j).f0)) := Lib.hid ⟨HI.out.1.trans hb, fun j hj => by
          by_cases hjm : j = (lo + hi) / 2
          · rw [hjm, HY.out]; exact hc
          · have := HS.out j ((lo + hi) / 2) (by omega) (by omega)
            rw [HY.out] at this
            exact Int.lt_trans this hc, HI.out.2.2⟩
        exact ⟨⟨(lo + hi) / 2 + 1, hi, by first | (congr 1; done) | (congr 1; omega), rfl, by omega, by omega, hfin⟩, by simp [intOf]; omega⟩
      · have hcm : 0 ≤ cmpF y0 t := by unfold cmpF; rw [if_neg (by omega)]; split <;> omega
        generalize cmpF y0 t = q at *
        go_wp2_with fail
        refine (HCl.out _).mono ?_
        rintro e w' ⟨rfl, hb⟩
        go_wp2_with fail
        have hfin : Hid (Bel w w' ∧ (∀ j : Nat, j < lo → (nth l j).f0 < t) ∧ (∀ j : Nat, (lo + hi) / 2 ≤ j → j < l.length → t ≤ (nth l j).f0)) := Lib.hid ⟨HI.out.1.trans hb, HI.out.2.1, fun j h1 h2 => by
          by_cases hjm : j = (lo + hi) / 2
          · rw [hjm, HY.out]; simp only []; omega
          · have := HS.out ((lo + hi) / 2) j (by omega) h2
            rw [HY.out] at this
            simp only [] at this
            omega⟩
        exact ⟨⟨lo, (lo + hi) / 2, rfl, by first | (congr 1; done) | (congr 1; omega), by omega, by omega, hfin⟩, by simp [intOf]; omega⟩
    · have hle : hi = lo := by omega
      subst hle
      have hfa : Hid (FindAt l t hi) := Lib.hid ⟨hin, HI.out.2.1, HI.out.2.2⟩
      have hbw := HI.out.1
      by_cases hn : hi < l.length
      · obtain ⟨ad, rfl, x0, x1, x2⟩ := hC' hi hn
        have hia : Hid (isAt l t hi = decide ((nth l hi).f0 = t)) := Lib.hid (by unfold isAt; simp [hn])
        have hge := hfa.out.2.2 hi (Nat.le_refl _) hn
        generalize nth l hi = y at *
        have HCl := Lib.hid (fun wx => K.out y wx)
        obtain ⟨y0, y1, y2⟩ := y
        simp only [] at x0 x1 x2 HCl hge hia
        have hcd : (cmpF y0 t = 0) ↔ (y0 = t) := by unfold cmpF; constructor <;> intro h <;> (repeat' split at h) <;> first | omega | (repeat' split) <;> omega
        have hcb : Hid (decide (cmpF y0 t = 0) = decide (y0 = t)) := Lib.hid (decide_eq_decide.2 hcd)
        have hcb2 : Hid ((cmpF y0 t == 0) = decide (y0 = t)) := Lib.hid (by rw [← hcb.out]; rfl)
        clear hcd hge
        generalize cmpF y0 t = q at *
        clear hC' HI
        go_wp2_with fail
        refine (HCl.out _).mono ?_
        rintro e w' ⟨rfl, hb⟩
        go_wp2_with fail
        go_ret2
        exact ⟨hi, by rw [hia.out]; first | (rw [← hcb.out]; rfl) | (rw [← hcb2.out]; rfl), hfa.out, hbw.trans hb⟩
      · have hia : Hid (isAt l t hi = false) := Lib.hid (by unfold isAt; simp [hn])
        clear hC' HI
        go_wp2_with fail
        go_ret2
        exact ⟨hi, by rw [hia.out]; rfl, hfa.out, hbw⟩
end Go.Proofs.YtgpkpheejefiiaaGreatDoor.Q20
end
