/- LanesStores, the walk. -/
import Derived.Test.YtfahogbgkjockaaWakes
import Derived.OpenShut
import Derived.Deep.RegionHeld3
namespace Go.Proofs.Ytfahogbgkjockaa
open Go.RowKit Go.Proofs.YtfahogbgkjockaaW.PrintWords
theorem Bel.drew (w : World) : Bel w w.drew := below_drew (Below.refl _ w)
set_option maxHeartbeats 8000000 in
set_option maxRecDepth 100000 in
theorem stores_calls (b0 b1 b2 b3 b4 b5 b6 b7 b : Nat) (w : World) (h : By [b0, b1, b2, b3, b4, b5, b6, b7]) (hb : b < 256) : Calls Try.prog 5 #[.int .u64 (W [b0, b1, b2, b3, b4, b5, b6, b7] : Nat), .int .u8 b] w fun e w' => e = .returned (.bool true) ∧ Bel w w' := by
  have hby := fun w => bytesB [b0, b1, b2, b3, b4, b5, b6, b7] w h rfl
  simp only [arr8, List.getD_cons_zero, List.getD_cons_succ] at hby
  have Hby := Lib.hid hby
  clear hby
  have hst := fun w => storeB [b0, b1, b2, b3, b4, b5, b6, b7] w h rfl
  have hhi := fun w => highB [b0, b1, b2, b3, b4, b5, b6, b7] w h rfl
  have Hhi := Lib.hid hhi
  clear hhi
  have hrh := fun w => rhighB [b0, b1, b2, b3, b4, b5, b6, b7] w h rfl
  have Hrh := Lib.hid hrh
  clear hrh
  have hwd := fun w => wordB [b, b, b, b, b, b, b, b] w (by intro c hc; simp at hc; omega) rfl
  simp only [arr8, List.getD_cons_zero, List.getD_cons_succ] at hwd
  have Hwd := Lib.hid hwd
  clear hwd
  generalize hX : ((W [b0, b1, b2, b3, b4, b5, b6, b7] : Nat) : Int) = X at *
  generalize hY : ((W ([b0, b1, b2, b3, b4, b5, b6, b7].map hi8) : Nat) : Int) = Y at *
  clear hX hY
  simp only [List.map] at hst
  have hcv : ∀ (w1 wx : World), Bel (w1.alloc (Obj.cells #[Value.int IntKind.u8 ↑b0, Value.int IntKind.u8 ↑b1, Value.int IntKind.u8 ↑b2, Value.int IntKind.u8 ↑b3, Value.int IntKind.u8 ↑b4, Value.int IntKind.u8 ↑b5, Value.int IntKind.u8 ↑b6, Value.int IntKind.u8 ↑b7] 29)) wx → Sem.run Try.prog (convert 31 9 (Value.slice (some { block := w1.heap.size, off := 0 }) 8 8)) wx = .ok (.string (strOfNums [(b0 : Int), b1, b2, b3, b4, b5, b6, b7])) wx := by
    intro w1 wx hx
    refine run_convert_bytes_arg _ 31 5 Try.underlying31 Try.underlying5 _ 0 8 8 [(b0 : Int), b1, b2, b3, b4, b5, b6, b7] rfl ?_ 9 Try.underlying9
    intro i hi
    rw [hx.cell (by simp)]
    rcases (by omega : i = 0 ∨ i = 1 ∨ i = 2 ∨ i = 3 ∨ i = 4 ∨ i = 5 ∨ i = 6 ∨ i = 7) with rfl | rfl | rfl | rfl | rfl | rfl | rfl | rfl <;> simp [go_sem]
  generalize hST : strOfNums [(b0 : Int), b1, b2, b3, b4, b5, b6, b7] = ST at hst hcv
  clear hST
  have Hst := Lib.hid hst
  clear hst
  have Hcv := Lib.hid hcv
  clear hcv
  go_enter Try.func5, Try.ntmps5
  go_wp2_with fail
  refine (Hby.out _).mono ?_
  rintro e w1 ⟨rfl, hb1⟩
  go_wp2_with fail
  have hc := Hcv.out w1
  have hW := Bel.alloc w1 (Obj.cells #[Value.int IntKind.u8 ↑b0, Value.int IntKind.u8 ↑b1, Value.int IntKind.u8 ↑b2, Value.int IntKind.u8 ↑b3, Value.int IntKind.u8 ↑b4, Value.int IntKind.u8 ↑b5, Value.int IntKind.u8 ↑b6, Value.int IntKind.u8 ↑b7] 29)
  generalize w1.alloc (Obj.cells #[Value.int IntKind.u8 ↑b0, Value.int IntKind.u8 ↑b1, Value.int IntKind.u8 ↑b2, Value.int IntKind.u8 ↑b3, Value.int IntKind.u8 ↑b4, Value.int IntKind.u8 ↑b5, Value.int IntKind.u8 ↑b6, Value.int IntKind.u8 ↑b7] 29) = W0 at hc hW ⊢
  go_region_held3 (fun w' => Bel W0 w') (first | exact Bel.drew _ | exact Bel.trans (by assumption) (by assumption) | trace_state) ((first | (go_at_call 9; refine (wakesB _).mono ?_; rintro e wa ⟨rfl, hba⟩) | (go_at_call 12; refine (Hst.out _).mono ?_; rintro e wb ⟨rfl, hbb⟩) | (go_at_call 16; refine (spreadB b _ hb).mono ?_; rintro e wc ⟨rfl, hbc⟩) | (go_at_call 17; refine (Hwd.out _).mono ?_; rintro e wd ⟨rfl, hbd⟩) | (go_at_call 18; refine (Hhi.out _).mono ?_; rintro e we ⟨rfl, hbe⟩) | (go_at_call 19; refine (Hrh.out _).mono ?_; rintro e wf ⟨rfl, hbf⟩)))
  go_wp2_with fail
  go_ret
  exact ⟨rfl, (((((((hb1.trans hW).trans (Bel.drew W0)).trans hba).trans hbb).trans hbc).trans hbd).trans hbe).trans hbf⟩
theorem stores_law (x b : Int) (hx : (Lit.int .u64 x).wf = true) (hb : (Lit.int .u8 b).wf = true) (w : World) : Calls Try.prog 5 #[.int .u64 x, .int .u8 b] w fun e w' => e = .returned (.bool true) ∧ Below w.heap.size w w' := by
  have h1 := bounds_u64 hx
  have h2 := bounds_u8 hb
  obtain ⟨l, h8, hl, e⟩ := of8 x.toNat (by omega)
  obtain ⟨b0, b1, b2, b3, b4, b5, b6, b7, rfl⟩ := list8 l h8
  obtain ⟨c, rfl⟩ := Int.eq_ofNat_of_zero_le h2.1
  have hX : x = ((W [b0, b1, b2, b3, b4, b5, b6, b7] : Nat) : Int) := by omega
  rw [hX]
  exact stores_calls _ _ _ _ _ _ _ _ c w hl (by omega)
end Go.Proofs.Ytfahogbgkjockaa
