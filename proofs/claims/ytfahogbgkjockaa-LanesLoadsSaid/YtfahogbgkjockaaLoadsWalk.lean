/- LanesLoads, the walk. -/
import Derived.Test.YtfahogbgkjockaaWakes
import Derived.OpenShut
namespace Go.Proofs.Ytfahogbgkjockaa
open Go.RowKit Go.Proofs.YtfahogbgkjockaaW.PrintWords
theorem and15 (a : Int) : 0 ≤ Go.bits .and .i64 a 15 ∧ Go.bits .and .i64 a 15 ≤ 15 := by
  show 0 ≤ IntKind.i64.wrap ((BitVec.ofInt 64 a &&& BitVec.ofInt 64 (15 : Int)).toNat : Int) ∧ IntKind.i64.wrap ((BitVec.ofInt 64 a &&& BitVec.ofInt 64 (15 : Int)).toNat : Int) ≤ 15
  rw [BitVec.toNat_and, show (BitVec.ofInt 64 (15 : Int)).toNat = 2 ^ 4 - 1 by decide, Nat.and_two_pow_sub_one_eq_mod, IntKind.wrap_i64]
  omega
set_option maxHeartbeats 8000000 in
set_option maxRecDepth 100000 in
theorem loads_calls (s : ByteArray) (a : Int) (w : World) (hs : s.size ≤ 140737488351232) (ha : -9223372036854775808 ≤ a) (ha2 : a < 9223372036854775808) : Calls Try.prog 3 #[.string s, .int .i64 a] w fun e w' => e = .returned (.bool true) ∧ Below w.heap.size w w' := by
  have h15 := and15 a
  by_cases h : s.size ≤ 1000
  · go_enter Try.func3, Try.ntmps3
    go_wp2_with fail
    refine (wakesB _).mono ?_
    rintro e w1 ⟨rfl, hb1⟩
    go_wp2_with fail
    refine (loadB s a _ h ha ha2).mono ?_
    rintro e w2 ⟨rfl, hb2⟩
    go_wp2_with fail
    refine (rloadB s a _ h).mono ?_
    rintro e w3 ⟨rfl, hb3⟩
    go_wp2_with fail
    refine (loadB s _ _ h (by omega) (by omega)).mono ?_
    rintro e w4 ⟨rfl, hb4⟩
    go_wp2_with fail
    refine (rloadB s _ _ h).mono ?_
    rintro e w5 ⟨rfl, hb5⟩
    go_wp2_with fail
    go_ret
    exact ⟨rfl, ((((hb1.trans hb2).trans hb3).trans hb4).trans hb5).below⟩
  · have hx : (s.extract 0 1000).size ≤ 1000 := by rw [ByteArray.size_extract]; omega
    go_enter Try.func3, Try.ntmps3
    go_wp2_with fail
    refine (wakesB _).mono ?_
    rintro e w1 ⟨rfl, hb1⟩
    go_wp2_with fail
    refine (loadB (s.extract 0 1000) a _ hx ha ha2).mono ?_
    rintro e w2 ⟨rfl, hb2⟩
    go_wp2_with fail
    refine (rloadB (s.extract 0 1000) a _ hx).mono ?_
    rintro e w3 ⟨rfl, hb3⟩
    go_wp2_with fail
    refine (loadB (s.extract 0 1000) _ _ hx (by omega) (by omega)).mono ?_
    rintro e w4 ⟨rfl, hb4⟩
    go_wp2_with fail
    refine (rloadB (s.extract 0 1000) _ _ hx).mono ?_
    rintro e w5 ⟨rfl, hb5⟩
    go_wp2_with fail
    go_ret
    exact ⟨rfl, ((((hb1.trans hb2).trans hb3).trans hb4).trans hb5).below⟩
theorem has_i64 {a : Int} (h : (Lit.int .i64 a).wf = true) : -9223372036854775808 ≤ a ∧ a < 9223372036854775808 := by
  have := bounds_i64 h
  omega
theorem loads_law (s : ByteArray) (a : Int) (hs : s.size ≤ 140737488351232) (ha : (Lit.int .i64 a).wf = true) (w : World) : Calls Try.prog 3 #[.string s, .int .i64 a] w fun e w' => e = .returned (.bool true) ∧ Below w.heap.size w w' :=
  loads_calls s a w hs (has_i64 ha).1 (has_i64 ha).2
end Go.Proofs.Ytfahogbgkjockaa
