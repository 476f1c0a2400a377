/- An array that the evaluator has told of, as the engine wants it. -/
import Derived.Test.YtgpkpheejefiiaaGreatDoorX30
import Derived.Test.YtgpkpheejefiiaaGreatDoorX33
import Derived.Test.YtgpkpheejefiiaaGreatDoorX03
set_option linter.unusedVariables false
set_option linter.unusedSimpArgs false
namespace Go.Proofs.YtgpkpheejefiiaaGreatDoor
open Go.RowKit
set_option maxRecDepth 100000
/-- What the evaluator tells of a world. -/
structure YS (base : Nat) (r0 : Pl) (S : Tr) (n : Nat) (r : Pl) (w : World) : Prop where
  le : r0.le r
  sim : Sim r S n w
  gl : Glob r
  ft : ∀ k, feet r k → k ≤ 1 ∨ base ≤ k
theorem YS.bel {base : Nat} {r0 : Pl} {S : Tr} {n : Nat} {r : Pl} {w w' : World} (h : YS base r0 S n r w) (k : Bel w w') : YS base r0 S n r w' := ⟨h.le, h.sim.bel k, h.gl, h.ft⟩
theorem YS.call {base : Nat} {q : Pl} {S : Tr} {n : Nat} {r : Pl} {w : World} (h : YS base q S n r w) (hb : base ≤ w.heap.size) {f : Nat} {args : List SV} {s : SV} {S' : Tr} {n' : Nat} (hr : runF f args S n = .val s S' n') {args' : List Value} (ha : EmbL r args args')
    (he : (callFunc f args'.toArray).run Tryz.prog w = .ok (.enter f args'.toArray) w) : Calls Tryz.prog f args'.toArray w fun e w' => ∃ r' v, e = .returned v ∧ Emb r' s v ∧ YS base r S' n' r' w' ∧ Kf (feet r) w w' ∧ ∀ k, feet r' k → feet r k ∨ w.heap.size ≤ k := by
  refine (runF_ok hr h.sim h.gl ha he).mono ?_
  rintro e w' ⟨r', v, rfl, h1, h2, h3, h4⟩
  refine ⟨r', v, rfl, h3, ⟨h1, h2, h.gl.up h1, fun k hk => ?_⟩, Kf.of_upd h4, h4.foot⟩
  rcases h4.foot k hk with e | e
  · exact h.ft k e
  · right; omega
theorem EmbL.five {r : Pl} {a b c d e : SV} {u : List Value} (h : EmbL r [a, b, c, d, e] u) : ∃ a' b' c' d' e', u = [a', b', c', d', e'] ∧ Emb r a a' ∧ Emb r b b' ∧ Emb r e e' := by
  cases h with | cons _ v1 _ _ h1 k =>
  cases k with | cons _ v2 _ _ h2 k =>
  cases k with | cons _ v3 _ _ h3 k =>
  cases k with | cons _ v4 _ _ h4 k =>
  cases k with | cons _ v5 _ _ h5 k =>
  cases k with | nil => exact ⟨v1, v2, v3, v4, v5, rfl, h1, h2, h5⟩
theorem Sim.arr {r : Pl} {S : Tr} {n : Nat} {w : World} (hs : Sim r S n w) {a ag c : Nat} (hr : r a = some (ag, c)) (ha : ∃ x y z t, atT S a = some (.cells [x, y, z, t, .bool false] 121)) : ∃ x y z t, w.heap[ag]? = some (.cells #[x, y, z, t, .bool false] 121 (0, 0)) := by
  obtain ⟨x, y, z, t, hg⟩ := ha
  obtain ⟨b', c', yy, k1, k2, k3⟩ := hs.obj a _ hg
  rw [hr] at k1
  obtain ⟨rfl, rfl⟩ : ag = b' ∧ c = c' := by simpa using k1
  cases k3 with
  | cells _ _ _ u hu =>
    obtain ⟨a', b', c', d', e', rfl, h1, h2, h5⟩ := hu.five
    cases h5
    exact ⟨a', b', c', d', k2⟩
theorem arrT_of {base : Nat} {q : Pl} {S3 S4 : Tr} {n3 n4 : Nat} {r : Pl} {w : World} {M Q : Nat} (h : YS base q S3 n3 r w) (hb : base ≤ w.heap.size) {a ag c : Nat} (hr : r a = some (ag, c)) (ha3 : ∃ x y z t, atT S3 a = some (.cells [x, y, z, t, .bool false] 121))
    (hl : ∃ x y z, runF 21 [.ptr a 0] S3 n3 = .val (.agg [i64S (Int.ofNat M), i64S (Int.ofNat Q), x, y, z]) S4 n4) (ha4 : ∃ x y z t, atT S4 a = some (.cells [x, y, z, t, .bool false] 121)) (hg : glob2 S4 = true) (hG : GOK M Q) :
    ArrT (feet r) (fun w' => ∃ r', YS base r S4 n4 r' w' ∧ ∀ k, feet r' k → feet r k ∨ w.heap.size ≤ k) w ag M Q := by
  refine ⟨fun k ⟨g, d, e⟩ => (h.sim.dom g k d e).1, h.sim.arr hr ha3, fun w1 hb1 => ?_, fun w1 w2 ⟨r', y, z⟩ k => ⟨r', y.bel k, z⟩, fun w1 ⟨r', y, _⟩ => ⟨y.sim.arr (y.le _ _ hr) ha4, ?_⟩, hG⟩
  · obtain ⟨x, y, z, hl⟩ := hl
    have hy := h.bel hb1
    refine (hy.call (Nat.le_trans hb hb1.size) hl (args' := [PTR ag]) (.cons _ _ _ _ (.ptr a 0 ag c hr) .nil) (enter_run (by kernel_rfl) _ _)).mono ?_
    rintro e w' ⟨r', v, rfl, hv, hy', hk, hft⟩
    cases hv with
    | agg _ u hu =>
      obtain ⟨a', b', c', d', e', rfl, h1, h2, _⟩ := hu.five
      cases h1
      cases h2
      exact ⟨c', d', e', rfl, hk, r', hy', fun k hk => (hft k hk).imp id (fun h => Nat.le_trans hb1.size h)⟩
  · have := GW.of_sim y.sim y.gl hg
    obtain ⟨m, h1, h2⟩ := this.g0
    refine ⟨m.toArray, ?_, h2⟩
    rw [ints0] at h1
    cases h1
    rfl
end Go.Proofs.YtgpkpheejefiiaaGreatDoor
