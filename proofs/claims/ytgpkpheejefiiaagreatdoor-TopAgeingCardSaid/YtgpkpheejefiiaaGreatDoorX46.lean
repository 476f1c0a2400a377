/- The row of TopAgeing: whatever the input, the law returns true. It holds without a condition. -/
import Derived.Test.YtgpkpheejefiiaaGreatDoorTie
import Derived.Test.YtgpkpheejefiiaaGreatDoorCards
import Derived.Test.YtgpkpheejefiiaaGreatDoorX15
import Derived.Test.YtgpkpheejefiiaaGreatDoorX39
import Derived.Test.YtgpkpheejefiiaaGreatDoorX44
import Derived.Test.YtgpkpheejefiiaaGreatDoorX45
import Derived.SevenTiedAt
namespace Go.Proofs.YtgpkpheejefiiaaGreatDoor
theorem ageing (x0 x1 x2 x3 x4 x5 x6 : Int) (A : Option Addr) (cl : Nat) (l : List LA) (hl : l.length ≤ cl) (w : World) (hw : GW w) (hC : LAC w A l) :
    Calls Tryz.prog 3 #[SV7 x0 x1 x2 x3 x4 x5 x6, .slice A l.length cl] w fun e w' => e = .returned (.bool true) ∧ Bel w w' := by
  obtain ⟨m, s, hg, K29⟩ := sizes29 x0 x1 x2 x3 x4 x5 x6
  obtain ⟨q, age, rows, dear, ahead, hO, hd, ha, K30⟩ := options30 x0 x1 x2 x3 x4 x5 x6
  obtain ⟨M, rfl⟩ : ∃ M : Nat, m = M := ⟨m.toNat, by have := hg.m1; omega⟩
  obtain ⟨Q, rfl⟩ : ∃ Q : Nat, s = Q := ⟨s.toNat, by have := hg.s1; omega⟩
  obtain ⟨b, S1, n1, S2, n2, a, S3, n3, S4, n4, a2, S5, n5, S6, n6, hB⟩ := begB_ok (beg_all M Q (by have := hg.m1; omega) (by have := hg.m2; omega) (by have := hg.s1; omega) (by have := hg.s2; omega))
  exact ageing3 w x0 x1 x2 x3 x4 x5 x6 A cl l hl M Q hg q age rows dear ahead hO hd ha hB hw hC (fun w1 hw1 => begin6 w1 x0 x1 x2 x3 x4 x5 x6 M Q hg q age rows dear ahead hO K29 K30 hB hw1)
end Go.Proofs.YtgpkpheejefiiaaGreatDoor
namespace Go.Proofs.YtgpkpheejefiiaaGreatDoor.topAgeing
open Go.ChangeShapes Go.WideShapes Go.ChangeAt Go.RowKit
set_option linter.unusedVariables false
set_option maxRecDepth 100000
theorem lifted (os : Os) (started : os.Started) (H : Type) (enc : TypeId × Value → H) :
    ReturnsInHanded {} Tryz.checked os 3 .any (fun w args => (Rows.topAgeingSpec.pre enc Tryz.prog Tryz.f3 [] false w args ∧ laidMetH Tryz.prog Rows.topAgeingRow.laid w) ∧ sizedMet enc Tryz.prog Tryz.f3 (OpenSpec.ofChange Rows.topAgeingSpec) false w args) (Rows.topAgeingSpec.post enc Tryz.prog Tryz.f3 false true false false) := by
  refine returns_shaped (C := Tryz.checked) (X := fun w _ => laidMetH Tryz.prog Rows.topAgeingRow.laid w) (fun _ _ _ hh h => h.of_heap hh) own started (by kernel_rfl) Tryz.func3
    (ChangeSpec.witness_at (enc := enc) (C := Tryz.checked) (os := os) (X := fun w _ => laidMetH Tryz.prog Rows.topAgeingRow.laid w) false (laidWorld os) #[.agg #[.int .i64 0, .int .i64 0, .int .i64 0, .int .i64 0, .int .i64 0, .int .i64 0, .int .i64 0], .slice none 0 0] 8 rfl (by kernel_rfl) (by kernel_rfl) (by kernel_rfl) (by kernel_rfl) (by kernel_rfl) (laidWorld_met os _)) ?_
  intro W base args ds gs before hsh hval0 hW hL
  have hval : ∀ (j : Nat) t v, Tryz.f3.params[j]? = some t → args[j]? = some v → Value.okWide Tryz.prog W .any base t v := hval0
  have hW' := hW
  obtain ⟨p, q, hA0, hV, rfl, hfz, hnd⟩ := hW
  have hA : DataW.TrodAll enc Tryz.prog W 0 (fun _ => true) true Tryz.f3.params.toList args.toList ds p := hA0
  have hGW := gw_of hsh hL
  rw [Tryz.params3] at hA hval
  obtain ⟨v0, vs0, d0, ds0, p0, q0, hargs, rfl, rfl, h0, r0⟩ := trodAll_cons hA
  obtain ⟨v1, vs1, d1, ds1, p1, q1, rfl, rfl, rfl, h1, r1⟩ := trodAll_cons r0
  obtain ⟨rfl, rfl, rfl⟩ := trodAll_nil r1
  obtain rfl : args = #[v0, v1] := by cases args; simp_all
  obtain ⟨rfl, rfl⟩ := trodVars_none hV
  have k0 := h0
  have lt0 : ∀ x ∈ p0, x.block < W.heap.size := by obtain ⟨m, hm⟩ := k0; exact DataW.trod_lt m _ _ _ hm
  obtain ⟨a0_0, a0_1, a0_2, a0_3, a0_4, a0_5, a0_6, rfl, w0_0, w0_1, w0_2, w0_3, w0_4, w0_5, w0_6⟩ := open_setup (hval 0 23 v0 rfl rfl)
  obtain ⟨a1, len1, cap1, rfl⟩ := okWide_slice Tryz.underlying24 (hval 1 24 v1 rfl rfl)
  have k1 := h1
  have lt1 : ∀ x ∈ p1, x.block < W.heap.size := by obtain ⟨m, hm⟩ := k1; exact DataW.trod_lt m _ _ _ hm
  obtain ⟨z1, y1, w1, c1⟩ : ∃ l : List LA, len1 = l.length ∧ l.length ≤ cap1 ∧ LAC W a1 l := by
    obtain ⟨fuel, hf⟩ := h1
    obtain ⟨A, c, l, e, h1, h2⟩ := open_las hf
    simp only [Value.slice.injEq] at e
    obtain ⟨rfl, rfl, rfl⟩ := e
    exact ⟨l, rfl, h1, h2⟩
  subst y1
  clear hA0 hval0
  refine (ageing a0_0 a0_1 a0_2 a0_3 a0_4 a0_5 a0_6 a1 cap1 z1 w1 W hGW c1).mono fun e W' ⟨he, bel⟩ => ?_
  subst he
  exact ⟨_, rfl, _, _, _, [], _, [], hW', trodAll_mk1 (shut_bool Tryz.underlying4 _), (trodAll_cons_mk (Below.trod laidOut (by kernel_rfl) (of_decide_eq_true (by kernel_rfl)) k0 bel lt0) (trodAll_cons_mk (Below.trod laidOut (by kernel_rfl) (of_decide_eq_true (by kernel_rfl)) k1 bel lt1) trodAll_mk0)), rfl, bel.frame _, fun h => by cases h⟩
theorem over : Rows.topAgeingRow.holds Tryz.pinned (OpenSpec.ofChange Rows.topAgeingSpec) :=
  OpenClaim.holds_of_wide 3 Tryz.f3 rfl rfl rfl rfl rfl rfl rfl ⟨rfl, rfl, rfl, rfl, rfl⟩ rfl rfl rfl rfl rfl cg3 Tryz.func3 cfAll cf13 cf14
    (fun os started H enc _ => lifted os started H enc)
theorem card_holds : Rows.TopAgeingCardSaid :=
  Claim7.holds_tied_plain_at .later [] [.data, .data] true (true, "8580c5d3ab1ef80a409cf26dee30f9800b769394e50cceecab1067241b87fa71") false
    over (fun _ h => by cases h) cg1 (fun _ h => by cases h) topAgeing_row_tie rfl ⟨rfl, rfl⟩ cg2 rfl
    (fun f fn hf hfn => by
      obtain rfl : f = 3 := Option.some.inj (cg3.symm.trans hf) |>.symm
      obtain rfl : fn = Tryz.f3 := (Option.some.inj (Tryz.func3.symm.trans hfn)).symm
      exact ⟨cg4, fun j t ht => by
        have ht' : Tryz.f3.params[j]? = some t := ht
        rw [Tryz.params3] at ht'
        have h3 : t = 23 ∨ t = 24 := by
          match j, ht' with
          | 0, h => first | (have h2 := Option.some.inj h; simp [← h2]) | simp_all
          | 1, h => first | (have h2 := Option.some.inj h; simp [← h2]) | simp_all
          | j + 2, h => simp at h
        rcases h3 with rfl | rfl
        · exact cg5
        · exact cg6⟩)
    cg7
theorem proved : Rows.TopAgeingCardSaid := card_holds
end Go.Proofs.YtgpkpheejefiiaaGreatDoor.topAgeing
namespace Go.Proofs.YtgpkpheejefiiaaGreatDoor
/-- The row, under a short name, for the claim. -/
theorem topAgeing_holds : Rows.TopAgeingCardSaid := topAgeing.proved
end Go.Proofs.YtgpkpheejefiiaaGreatDoor
