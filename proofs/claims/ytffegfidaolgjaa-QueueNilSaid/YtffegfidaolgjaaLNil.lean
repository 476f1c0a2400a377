/- Queue: the walk of QueueNil. -/
import Derived.Test.YtffegfidaolgjaaQWakes
set_option linter.unusedVariables false
set_option linter.unusedSimpArgs false
namespace Go.Proofs.Ytffegfidaolgjaa
open Go.RowKit
set_option maxHeartbeats 8000000 in
set_option maxRecDepth 100000 in
theorem lawNilW (x0 x1 : Int) (x2 x3 : Bool) (w : World) : Calls Try.prog 6 #[.agg #[.int .i64 x0, .int .u8 x1, .bool x2, .bool x3]] w fun e w' => e = .returned (.bool true) ∧ Bel w w' := by
  have K1 := Lib.hid (fun w => getN w x0)
  have K2 := Lib.hid (fun w => takeN w x0)
  have K3 := Lib.hid oldN
  have K4 := Lib.hid wakesQ
  have K5 := Lib.hid (fun w => secB x1 x2 w)
  generalize secV x1 x2 = sv at *
  have K6 := Lib.hid (fun w => putN w x0 sv)
  have K7 := Lib.hid lenN
  have K8 := Lib.hid fullN
  have K9 := Lib.hid itemsN
  have K10 := Lib.hid spansN
  have K11 := Lib.hid clockN
  have hel : elV el0 = .agg #[.int .i64 0, .string ⟨#[]⟩, .int .i64 0] := rfl
  rw [hel] at K2 K3
  clear hel
  go_enter Try.func6, Try.ntmps6
  go_wp2_with fail
  refine calls_gen (fun W => Bel w W ∧ W.heap[w.heap.size]? = some (.cells #[.int .i64 x0, .int .u8 x1, .bool x2, .bool x3] 23 (0, 0))) ⟨Bel.alloc _ _, heap_alloc_new _ _⟩ ?_
  rintro W0 ⟨hB0, hx⟩
  refine (K1.out _).mono ?_
  rintro e w1 ⟨rfl, hb1⟩
  have HX1 := Lib.hid (blk_below hx hb1)
  have HB1 := Lib.hid (hB0.trans hb1)
  clear hx hB0 hb1
  have c0 := blk_cell HX1.out 0
  go_wp2_with fail
  refine (K2.out _).mono ?_
  rintro e w2 ⟨rfl, hb2⟩
  have HX2 := Lib.hid (blk_below HX1.out hb2)
  have HB2 := Lib.hid (HB1.out.trans hb2)
  clear hb2 HX1 HB1 c0
  go_wp2_with fail
  refine calls_gen (fun W => Bel w2 W) (Bel.alloc _ _) ?_
  rintro W3 hb3
  refine (K3.out _).mono ?_
  rintro e w4 ⟨rfl, hb4⟩
  have HX4 := Lib.hid (blk_below HX2.out (hb3.trans hb4))
  have HB4 := Lib.hid (HB2.out.trans (hb3.trans hb4))
  clear hb3 hb4 HX2 HB2
  go_wp2_with fail
  refine wp_gen (fun W => Bel w4 W) (Bel.alloc _ _) ?_
  rintro W5 hb5
  have HX5 := Lib.hid (blk_below HX4.out hb5)
  have HB5 := Lib.hid (HB4.out.trans hb5)
  clear hb5 HX4 HB4
  have q0 := fun wx (h : Bel W5 wx) => blk_cell (blk_below HX5.out h) 0
  have q1 := fun wx (h : Bel W5 wx) => blk_cell (blk_below HX5.out h) 1
  have q2 := fun wx (h : Bel W5 wx) => blk_cell (blk_below HX5.out h) 2
  have hU := Bel.refl W5
  go_region_held3 (fun w' => Bel W5 w') (first | assumption | exact Bel.drew _ | exact Bel.trans (by assumption) (Bel.drew _) | exact Bel.trans (by assumption) (by assumption)) ((first | (go_at_call 14; refine (K4.out _).mono ?_; rintro e wx1 ⟨rfl, hbx1⟩) | (go_at_call 11; refine (K5.out _).mono ?_; rintro e wx2 ⟨rfl, hbx2⟩) | (go_at_call 10; refine (K6.out _).mono ?_; rintro e wx3 ⟨rfl, hbx3⟩) | (go_at_call 16; refine (K7.out _).mono ?_; rintro e wx4 ⟨rfl, hbx4⟩) | (go_at_call 9; refine (K8.out _).mono ?_; rintro e wx5 ⟨rfl, hbx5⟩) | (go_at_call 22; refine (K9.out _).mono ?_; rintro e wx6 ⟨rfl, hbx6⟩) | (go_at_call 23; refine (K10.out _).mono ?_; rintro e wx7 ⟨rfl, hbx7⟩) | (go_at_call 24; refine (K11.out _).mono ?_; rintro e wx8 ⟨rfl, hbx8⟩)))
  all_goals
    go_wp2_with fail
    go_ret
    exact ⟨rfl, HB5.out.trans (by assumption)⟩
end Go.Proofs.Ytffegfidaolgjaa
