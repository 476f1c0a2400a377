/- Queue: what each block's data is; taking the oldest, again and again. -/
import Derived.Test.YtffegfidaolgjaaQOld
import Derived.Test.YtffegfidaolgjaaTMap
import Derived.Test.YtffegfidaolgjaaAct
import Derived.WideMake
set_option linter.unusedVariables false
set_option linter.unusedSimpArgs false
namespace Go.Proofs.Ytffegfidaolgjaa
open Go.RowKit
def dat (s : QS) (x : Int) : Option ByteArray := if has s x = true then some (nth s.rs (pos s.rs x)).f1 else none
theorem dat_iff {s : QS} (h : OkQ s) (x : Int) (d : ByteArray) : dat s x = some d ↔ ∃ y ∈ s.rs, y.f0 = x ∧ y.f1 = d := by
  unfold dat
  constructor
  · intro hd
    split at hd
    · rename_i hh
      obtain ⟨h1, h2⟩ := has_at hh
      exact ⟨_, nth_mem h1, h2, Option.some.inj hd⟩
    · simp at hd
  · rintro ⟨y, hy, rfl, rfl⟩
    obtain ⟨h1, h2⟩ := nth_key h hy
    rw [if_pos h1, h2]
theorem dat_none {s : QS} (x : Int) : dat s x = none ↔ has s x = false := by
  unfold dat
  split
  · rename_i hh; simp [hh]
  · rename_i hh; simpa using hh
theorem dat_some {s : QS} (x : Int) : (dat s x).isSome = has s x := by
  unfold dat
  split
  · rename_i hh; simp [hh]
  · rename_i hh; simp at hh ⊢; exact hh
theorem dat_put {s : QS} (h : OkQ s) {key : Int} {d : ByteArray} (he : putE s key d = 0) (x : Int) : dat (putS s key d) x = if x = key then some d else dat s x := by
  have ho := ok_put h key d
  have hm := mem_put h.up he
  by_cases hx : x = key
  · rw [if_pos hx, dat_iff ho]
    exact ⟨_, (hm _).2 (.inr rfl), hx.symm, rfl⟩
  · rw [if_neg hx]
    apply Option.ext
    intro e
    rw [dat_iff ho, dat_iff h]
    constructor
    · rintro ⟨y, hy, rfl, rfl⟩
      rcases (hm y).1 hy with ⟨hy, _⟩ | rfl
      · exact ⟨y, hy, rfl, rfl⟩
      · exact absurd rfl hx
    · rintro ⟨y, hy, rfl, rfl⟩
      exact ⟨y, (hm y).2 (.inl ⟨hy, hx⟩), rfl, rfl⟩
theorem dat_take {s : QS} (h : OkQ s) (key x : Int) : dat (takeS s key) x = if x = key then none else dat s x := by
  have ho := ok_take h key
  have hm := mem_take h.up key
  by_cases hx : x = key
  · rw [if_pos hx, dat_none, ← Bool.not_eq_true, has_take h]
    exact fun e => e.2 hx
  · rw [if_neg hx]
    apply Option.ext
    intro e
    rw [dat_iff ho, dat_iff h]
    constructor
    · rintro ⟨y, hy, rfl, rfl⟩
      exact ⟨y, ((hm y).1 hy).1, rfl, rfl⟩
    · rintro ⟨y, hy, rfl, rfl⟩
      exact ⟨y, (hm y).2 ⟨hy, hx⟩, rfl, rfl⟩
/-- The map says what each block's data is. -/
def WS (s : QS) (gm : Int → Option ByteArray) : Prop := ∀ x, gm x = dat s x
theorem ws_put {s : QS} (h : OkQ s) {key : Int} {d : ByteArray} (he : putE s key d = 0) {gm : Int → Option ByteArray} (hs : WS s gm) : WS (putS s key d) (fun z => if z = key then some d else gm z) := fun x => by
  rw [dat_put h he, ← hs x]
/-- k acts are done. -/
structure D1 (s : QS) (k : Nat) : Prop where
  ok : OkQ s
  most : s.most = 256
  len : s.rs.length ≤ k
  clock : s.clock ≤ k
theorem d1_put {s : QS} {k : Nat} (h : D1 s k) (key : Int) (d : ByteArray) : D1 (putS s key d) (k + 1) := by
  refine ⟨ok_put h.ok key d, by rw [put_most, h.most], ?_, ?_⟩
  · by_cases he : putE s key d = 0
    · rw [put_len he]; have := h.len; split <;> omega
    · rw [putS_no he]; have := h.len; omega
  · have := put_clock s key d; have := h.clock; omega
theorem d1_take {s : QS} {k : Nat} (h : D1 s k) (key : Int) : D1 (takeS s key) (k + 1) := by
  refine ⟨ok_take h.ok key, by rw [take_most, h.most], ?_, ?_⟩
  · rw [take_len]; have := h.len; omega
  · rw [take_clock]; have := h.clock; omega
/-- What is still there, all younger than ag. -/
structure D2 (s : QS) (gm : Int → Option ByteArray) (ag : Int) (m : Nat) : Prop where
  ok : OkQ s
  len : s.rs.length = m
  age : ∀ x ∈ s.rs, ag < x.f2
  dat : ∀ x ∈ s.rs, gm x.f0 = some x.f1
theorem d2_of {s : QS} {gm : Int → Option ByteArray} {k : Nat} (h : D1 s k) (hs : WS s gm) : D2 s gm (-1) s.rs.length :=
  ⟨h.ok, rfl, fun x hx => by have := h.ok.age x hx; omega, fun x hx => by rw [hs, dat_iff h.ok]; exact ⟨x, hx, rfl, rfl⟩⟩
theorem nodup_get {l : List El} (h : (l.map El.f2).Nodup) {i j : Nat} (hi : i < l.length) (hj : j < l.length) (e : (nth l i).f2 = (nth l j).f2) : i = j := by
  rw [nth_el hi, nth_el hj] at e
  exact (List.getElem_inj (h₀ := by simpa using hi) (h₁ := by simpa using hj) h).1 (by simpa using e)
theorem d2_step {s : QS} {gm : Int → Option ByteArray} {ag : Int} {m k : Nat} (h : D2 s gm ag m) (h0 : 0 < m) (hk : OldOf s.rs s.rs.length k) :
    has s (nth s.rs k).f0 = true ∧ takeV s (nth s.rs k).f0 = nth s.rs k ∧ ag < (nth s.rs k).f2 ∧ gm (nth s.rs k).f0 = some (nth s.rs k).f1 ∧ (nth s.rs k).f1.size = 64 ∧ D2 (takeS s (nth s.rs k).f0) gm (nth s.rs k).f2 (m - 1) := by
  obtain ⟨hk1, hk2⟩ := hk
  have hx := nth_mem hk1
  obtain ⟨h1, h2⟩ := nth_key h.ok hx
  refine ⟨h1, by unfold takeV; rw [if_pos h1, h2], h.age _ hx, h.dat _ hx, h.ok.data _ hx, ok_take h.ok _, by rw [take_len, if_pos h1, h.len], fun y hy => ?_, fun y hy => h.dat y ((mem_take h.ok.up _ y).1 hy).1⟩
  obtain ⟨hy1, hy2⟩ := (mem_take h.ok.up _ y).1 hy
  obtain ⟨j, hj, rfl⟩ := mem_nth hy1
  have h3 := hk2 j hj
  by_cases e : (nth s.rs k).f2 = (nth s.rs j).f2
  · have := nodup_get h.ok.ages hk1 hj e
    subst this; exact absurd rfl hy2
  · omega
abbrev SM (w : World) (b : Nat) (g : Int → Option ByteArray) (n : Nat) : Prop := TMap Try.prog 3 9 (fun x : Int => Value.int .i64 x) (fun x => (Lit.int .i64 x).wf = true) (fun b : ByteArray => Value.string b) w b g n
theorem keyed3 : Maps.Keyed Try.prog 3 := Maps.int_keyed Try.underlying3
theorem zero9 (w : World) : (zeroValue 9).run Try.prog w = .ok (.string ByteArray.empty) w := by kernel_rfl
theorem plain9 (d : ByteArray) (hd : d.size ≤ 1000) : plainElem (H := Unit) Try.prog 9 (.string d) = some (.lit (.string d.data.toList), []) := plainElem_string Try.underlying9 (by have : maxLen = 9223372036854775807 := rfl; omega)
theorem SM.look {w : World} {b n : Nat} {g : Int → Option ByteArray} (h : SM w b g n) (x : Int) (hx : (Lit.int .i64 x).wf = true) : (Instr.lookup 38 (.map (some b)) (.int .i64 x) false).run Try.prog w = .ok (.string ((g x).getD ByteArray.empty)) w :=
  TMap.lookup (a0 := ByteArray.empty) h keyed3 Try.underlying38 (zero9 w) (plain9 ByteArray.empty (by decide)) hx (Maps.keyOf_int_mk Try.underlying3 hx)
theorem SM.isMap {w : World} {b n : Nat} {g : Int → Option ByteArray} (h : SM w b g n) : ∃ es clock, w.heap[b]? = some (.map es clock) := by
  obtain ⟨D, ⟨es, clock, h1, _⟩, _⟩ := h
  exact ⟨es, clock, h1⟩
theorem SM.kp {base l : Nat} {w w' : World} {b n : Nat} {g : Int → Option ByteArray} (h : SM w b g n) (k : Kp base l w w') (hne : b ≠ l) : SM w' b g n := by
  obtain ⟨es, clock, hm⟩ := h.isMap
  exact TMap.keep h (k.blk b (blk_lt hm) hne (.inr fun cs e => by rw [hm] at e; simp at e))
theorem IsQ.map {w w' : World} {base g b : Nat} {v : Value} {s : QS} {es : _} {clock : _} (h : IsQ w base g v s) (hm : w.heap[b]? = some (.map es clock)) (hg : w.grownBy w' (some b)) : IsQ w' base g v s := by
  refine ⟨(hg.block g (blk_lt h.blk) (fun e => ?_)).trans h.blk, World.ownsRow.kept (row := some b) h.row hg ?_⟩
  · have := h.blk
    rw [Option.some.inj e, hm] at this
    simp at this
  · cases hv : v.ownBlock with
    | none => exact .inl rfl
    | some k =>
      refine .inr fun e => ?_
      obtain ⟨_, cs', h2⟩ := h.row.blk hv
      rw [Option.some.inj e, hm] at h2
      simp at h2
theorem bel_map {w0 w w' : World} {b : Nat} (h : Bel w0 w) (hg : w.grownBy w' (some b)) (hb : w0.heap.size ≤ b) : Bel w0 w' :=
  ⟨hg.os.trans h.os, hg.tape.trans h.tape, hg.output.trans h.output, Nat.le_trans h.size hg.size, fun k hk => (hg.block k (Nat.lt_of_lt_of_le hk h.size) (by simp; omega)).trans (h.block k hk)⟩
theorem sl37 (M : Nat) (hM : M ≤ 1000) (A : Option Addr) (c n : Nat) (hn : n ≤ c) (W : World) : (Instr.slice 37 (.slice A n c) none (some (.int .i64 (min (n : Int) M))) none).run Try.prog W = .ok (.slice A (min M n) c) W := by
  have hel : Try.prog.elem 37 = 23 := by simp [Program.elem, Try.underlying37]
  have hu : Try.prog.underlying 37 = some (.slice (Try.prog.elem 37)) := by rw [hel]; exact Try.underlying37
  have hi3 : (Try.prog.info? 23).map (fun i => i.size) = some 4 := by kernel_rfl
  obtain ⟨inf, hinf, hsz⟩ : ∃ inf, Try.prog.info? 23 = some inf ∧ inf.size = 4 := by
    cases h : Try.prog.info? 23 with
    | none => rw [h] at hi3; simp at hi3
    | some inf => rw [h] at hi3; simp at hi3; exact ⟨inf, rfl, hi3⟩
  rw [run_slice_h W 37 A n c hu .i64 _ (by omega) (by omega), hel]
  have e : (min (n : Int) M).toNat = min M n := by omega
  have em : Option.map (fun x : Addr => x.add 0) A = A := by cases A <;> simp [Addr.add]
  simp [sizeOf, typeInfo, hinf, hsz, sliced, Result.andThen, e, em]
end Go.Proofs.Ytffegfidaolgjaa
