/- Rows of structs of three cells: how an element is taken out (slices.Delete) and put in (slices.Insert). Cell by cell. -/
import Derived.Test.YthhigmkheccfpaaProg
import Derived.WalkKit
import Derived.KernelRfl
import Derived.Below
import Derived.Lib.Hide
import Derived.Laws.AppendOwn
import Derived.Laws.CopyOwn
import Derived.Laws.IdiomCopy
import Derived.Laws.MakeOwn
import Derived.Laws.Externs
import Derived.Lib.AppendZeros
import Derived.Lib.AppendZerosOnto
import Derived.Lib.Overlaps
import Derived.Lib.SliceRun
import Derived.Deep.RegionLaw
import Derived.Deep.OwnRows
import Derived.Shelf.RegionOpenPlain
import Derived.ArgAppend
import Derived.OrdersHeld
set_option linter.unusedVariables false
set_option linter.unusedSimpArgs false
namespace Go.Proofs.Ythhigmkheccfpaa
open Go.RowKit
/-- The cells of an element that is zero. -/
def Z3 : List Value := [.int .i64 0, .int .i64 0, .int .i64 0]
theorem infoE : (Try.prog.info? 51).map (fun i => (i.zero, i.size, i.bytes)) = some (some (.agg Z3.toArray), 3, 24) := by kernel_rfl
theorem infoX : ∃ i, Try.prog.info? 51 = some i ∧ i.zero = some (.agg Z3.toArray) ∧ i.size = 3 ∧ i.bytes = 24 := by
  have h := infoE
  cases hi : Try.prog.info? 51 with
  | none => rw [hi] at h; simp at h
  | some i =>
    rw [hi] at h
    simp only [Option.map_some, Option.some.injEq, Prod.mk.injEq] at h
    exact ⟨i, rfl, h.1, h.2.1, h.2.2⟩
theorem elemS : Try.prog.underlying 47 = some (.slice 51) := Try.underlying47
theorem step_copy_runI {P : Program} {ops : Array Oper} {o : Oper} {a : Act} {w : World} {K : Act → World → Prop} {Q : Exit → Act → World → Prop} {E : Prop}
    (hg : o.guard = none) (d x : Operand) (dT sT : TypeId) (hop : o.op = Op.call { callee := Callee.builtin Builtin.copy, args := #[d, x], argTypes := #[dT, sT] })
    (v u : Value) (hd : a.eval d = v) (hx : a.eval x = u) {v' : Value} {w' : World} (hr : (Builtin.copy_ #[dT, sT] o.type #[v, u]).run P w = .ok v' w') (hK : K (a.put o.dst v') w') :
    if Region.wanted o (yielded ops a.tmps) = true then Oper.wp P o a w K Q else E := by
  have hw : Region.wanted o (yielded ops a.tmps) = true := by simp [Region.wanted, hg]
  rw [if_pos hw]
  unfold Oper.wp
  simp [execOp, hop, resolve, invoke, builtin, hd, hx, hr, Result.andThen]
  exact hK
theorem wpList_copy_runI {P : Program} (w : World) {ops : Array Oper} {rest : List Oper} {o : Oper} {a : Act} {Q : Exit → Act → World → Prop} (hgd : o.guard = none) (d s : Operand) (t t' : TypeId)
    (ho : o.op = .call { callee := .builtin .copy, args := #[d, s], argTypes := #[t, t'] }) (v u : Value) (hd : a.eval d = v) (hs : a.eval s = u) {v' : Value} {w' : World}
    (hr : (Builtin.copy_ #[t, t'] o.type #[v, u]).run P w = .ok v' w') (h : wpList P ops Q rest (a.put o.dst v') w') : wpList P ops Q (o :: rest) a w := by
  refine wpList_plain hgd fun K hK => ?_
  unfold Oper.wp execOp
  simp only [ho, resolve, invoke, builtin, Sem.run_bind, Sem.run_pure, Result.andThen_ok, List.map_toArray, List.map_cons, List.map_nil, hd, hs, hr]
  exact hK _ _ h
theorem step_append_runI {P : Program} {ops : Array Oper} {o : Oper} {a : Act} {w : World} {K : Act → World → Prop} {Q : Exit → Act → World → Prop} {E : Prop}
    (hg : o.guard = none) (d x : Operand) (dT sT : TypeId) (hop : o.op = Op.call { callee := Callee.builtin Builtin.append, args := #[d, x], argTypes := #[dT, sT] })
    (v u : Value) (hd : a.eval d = v) (hx : a.eval x = u) {v' : Value} {w' : World} (hr : (Builtin.append_ #[dT, sT] o.type #[v, u]).run P w = .ok v' w') (hK : K (a.put o.dst v') w') :
    if Region.wanted o (yielded ops a.tmps) = true then Oper.wp P o a w K Q else E := by
  have hw : Region.wanted o (yielded ops a.tmps) = true := by simp [Region.wanted, hg]
  rw [if_pos hw]
  unfold Oper.wp
  simp [execOp, hop, resolve, invoke, builtin, hd, hx, hr, Result.andThen]
  exact hK
theorem wpList_clear_runI {P : Program} (w : World) {ops : Array Oper} {rest : List Oper} {o : Oper} {a : Act} {Q : Exit → Act → World → Prop} (hgd : o.guard = none) (s : Operand) (t : TypeId)
    (ho : o.op = .call { callee := .builtin .clear, args := #[s], argTypes := #[t] }) (u : Value) (hs : a.eval s = u) {v' : Value} {w' : World}
    (hr : (Builtin.clear_ #[t] o.type #[u]).run P w = .ok v' w') (h : wpList P ops Q rest (a.put o.dst v') w') : wpList P ops Q (o :: rest) a w := by
  refine wpList_plain hgd fun K hK => ?_
  unfold Oper.wp execOp
  simp only [ho, resolve, invoke, builtin, Sem.run_bind, Sem.run_pure, Result.andThen_ok, List.map_toArray, List.map_cons, List.map_nil, hs, hr]
  exact hK _ _ h
/-- What a row holds behind a splice. -/
def spl (cur : List Value) (o : Nat) (cs : List Value) : List Value := cur.take o ++ cs ++ cur.drop (o + cs.length)
theorem spl_len {cur : List Value} {o : Nat} {cs : List Value} (h : o + cs.length ≤ cur.length) : (spl cur o cs).length = cur.length := by unfold spl; simp; omega
/-- copy, elements of three cells. -/
theorem run_copy3 (w : World) (ty : TypeId) (g o dLen dCap : Nat) (a : Addr) (sLen sCap : Nat) (cur : List Value) (t : TypeId) (cs : List Value)
    (hg : w.heap[g]? = some (.cells cur.toArray t (0, 0))) (hn : cs.length = Nat.min sLen dLen * 3)
    (hsrc : ∀ j v, cs[j]? = some v → w.cell? (a.add j) = some v) (hfit : o + cs.length ≤ cur.length) (h1 : ∀ v ∈ cs, v.oneCell' = true) :
    (Builtin.copy_ #[47, 47] ty #[.slice (some ⟨g, o, none⟩) dLen dCap, .slice (some a) sLen sCap]).run Try.prog w =
      .ok (goInt (Nat.min sLen dLen)) (w.setRow g (spl cur o cs).toArray) := by
  have hl := run_loadCells_list (P := Try.prog) w a cs hsrc
  have hst := run_storeCells_at Try.prog g o t cs 0 cur.toArray w hg (by simpa using hfit) h1
  obtain ⟨i, hq, hz, hi, _⟩ := infoX
  rw [hn] at hl
  simp only [Nat.add_zero] at hst
  simp [Builtin.copy_, run_underlying elemS, Builtin.lenOf, Builtin.firstCells, sizeOf, typeInfo, hq, hi, hl, hst, spl]
/-- append where there is room, elements of three cells, whatever the head's length. -/
theorem run_app3 (w : World) (ty : TypeId) (g n cap : Nat) (a : Addr) (m c : Nat) (cur : List Value) (news : List Value)
    (hg : w.heap[g]? = some (.cells cur.toArray 51 (0, 0))) (hl : news.length = m * 3) (hnews : ∀ j u, news[j]? = some u → w.cell? (a.add j) = some u) (h1 : ∀ u ∈ news, u.oneCell' = true)
    (hroom : n + m ≤ cap) (hfit : n * 3 + news.length ≤ cur.length) :
    (Builtin.append_ #[47, 47] ty #[.slice (some ⟨g, 0, none⟩) n cap, .slice (some a) m c]).run Try.prog w =
      .ok (.slice (some ⟨g, 0, none⟩) (n + m) cap) (w.setRow g (spl cur (n * 3) news).toArray) := by
  obtain ⟨i, hq, hz, hi, _⟩ := infoX
  have := run_append_room (P := Try.prog) w 47 ty 51 i elemS hq g n cap cur.toArray hg a m c news (by rw [hi]; exact hl) hnews h1 hroom (by rw [hi]; simpa using hfit)
  rw [hi] at this
  exact this
theorem Z3_one : ∀ u ∈ Z3, u.oneCell' = true := by unfold Z3; simp; decide
theorem zeroE (w : World) : (zeroValue 51).run Try.prog w = .ok (.agg Z3.toArray) w := by
  obtain ⟨i, hq, hz, hi, _⟩ := infoX
  simp [zeroValue, typeInfo, hq, hz]
theorem zc1 : (Builtin.zeroCells (Value.agg Z3.toArray).cells 1).toList = Z3 := by
  simp [Builtin.zeroCells, Value.cells, Z3, Array.range]
/-- clear of one element. -/
theorem run_clear3 (w : World) (ty : TypeId) (g o c : Nat) (cur : List Value) (t : TypeId) (hg : w.heap[g]? = some (.cells cur.toArray t (0, 0))) (hfit : o + 3 ≤ cur.length) :
    (Builtin.clear_ #[47] ty #[.slice (some ⟨g, o, none⟩) 1 c]).run Try.prog w = .ok (.tuple #[]) (w.setRow g (spl cur o Z3).toArray) := by
  have hst := run_storeCells_at Try.prog g o t Z3 0 cur.toArray w hg (by simpa [Z3] using hfit) Z3_one
  simp only [Nat.add_zero] at hst
  simp [Builtin.clear_, run_underlying elemS, zeroE]
  rw [show (Builtin.zeroCells (Value.agg ([.int .i64 0, .int .i64 0, .int .i64 0] : List Value).toArray).cells 1).toList = Z3 from zc1, hst]
  simp [spl]
theorem cells_add (g o j : Nat) : (⟨g, o, none⟩ : Addr).add j = ⟨g, o + j, none⟩ := by unfold Addr.add; split <;> simp_all
theorem cell_row {w : World} {g : Nat} {cur : List Value} {t : TypeId} (hg : w.heap[g]? = some (.cells cur.toArray t (0, 0))) (j : Nat) : w.cell? ⟨g, j, none⟩ = cur[j]? := by
  simp [World.cell?, hg]
end Go.Proofs.Ythhigmkheccfpaa
