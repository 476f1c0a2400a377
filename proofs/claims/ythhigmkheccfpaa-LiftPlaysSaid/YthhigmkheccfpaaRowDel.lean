/- Rows of structs of three cells: slices.Delete of one element. -/
import Derived.Test.YthhigmkheccfpaaRowOps
set_option linter.unusedVariables false
set_option linter.unusedSimpArgs false
namespace Go.Proofs.Ythhigmkheccfpaa
open Go.RowKit
theorem ownsRow_of {w : World} {base g cap n : Nat} {cur xs : List Value} (hb : base ≤ g) (hg : w.heap[g]? = some (.cells cur.toArray 51 (0, 0))) (hn : n ≤ cap) (hc : cap ≤ maxLen) (hs : cur.length = cap * 3) (hx : cur.take (n * 3) = xs) :
    w.ownsRow base 51 3 (.slice (some ⟨g, 0, none⟩) n cap) n xs := by
  refine ⟨?_, .inr ⟨g, cap, cur.toArray, rfl, hb, hg, hn, hc, by simpa using hs, by simpa using hx⟩⟩
  rw [← hx, List.length_take, hs]
  have : n * 3 ≤ cap * 3 := Nat.mul_le_mul_right _ hn
  omega
theorem grown_setRow (w : World) (g : Nat) (cs : Array Value) : w.grownBy (w.setRow g cs) (some g) :=
  ⟨rfl, rfl, rfl, by simp, fun k hk hne => setRow_other w g k cs (fun e => hne (by rw [e]))⟩
theorem grown_drew (w : World) (r : Option Nat) : w.grownBy w.drew r := ⟨rfl, rfl, rfl, Nat.le_refl _, fun _ _ _ => rfl⟩
theorem grown_trans {a b c : World} {r : Option Nat} (h : a.grownBy b r) (k : b.grownBy c r) : a.grownBy c r :=
  ⟨k.os.trans h.os, k.tape.trans h.tape, k.output.trans h.output, Nat.le_trans h.size k.size, fun i hi hne => (k.block i (Nat.lt_of_lt_of_le hi h.size) hne).trans (h.block i hi hne)⟩
set_option maxHeartbeats 8000000 in
set_option maxRecDepth 100000 in
theorem delC (w : World) (base : Nat) (v : Value) (n : Nat) (xs : List Value) (hown : w.ownsRow base 51 3 v n xs) (i : Nat) (hi : i < n) (h1 : ∀ u ∈ xs, u.oneCell' = true) :
    Calls Try.prog 23 #[v, .int .i64 i, .int .i64 ((i : Int) + 1)] w fun e w' => ∃ v', e = .returned v' ∧ w'.ownsRow base 51 3 v' (n - 1) (xs.take (i * 3) ++ xs.drop ((i + 1) * 3)) ∧ w.grownBy w' v.ownBlock ∧ v'.ownBlock = v.ownBlock := by
  obtain ⟨hlen, ⟨_, h0⟩ | ⟨g, cap, cur, rfl, hb, hg, hn, hc, hs, hx⟩⟩ := hown
  · omega
  obtain ⟨cl, rfl⟩ : ∃ cl : List Value, cur = cl.toArray := ⟨cur.toList, by simp⟩
  obtain ⟨q, rfl⟩ : ∃ q, n = i + q + 1 := ⟨n - i - 1, by omega⟩
  simp only [List.size_toArray] at hs hx
  have hcl : cl.length = cap * 3 := hs
  have hxl : xs.length = (i + q + 1) * 3 := hlen
  have hm : maxLen = 9223372036854775807 := rfl
  obtain ⟨news, hnews⟩ : ∃ news, news = xs.drop ((i + 1) * 3) := ⟨_, rfl⟩
  have hnl : news.length = q * 3 := by rw [hnews, List.length_drop, hxl]; omega
  have hnc : ∀ j u, news[j]? = some u → cl[(i + 1) * 3 + j]? = some u := by
    intro j u hu
    rw [hnews, List.getElem?_drop, ← hx, List.getElem?_take] at hu
    split at hu
    · exact hu
    · simp at hu
  have hn1 : ∀ u ∈ news, u.oneCell' = true := fun u hu => h1 u (by rw [hnews] at hu; exact List.mem_of_mem_drop hu)
  obtain ⟨A, hA, hsrc⟩ : ∃ A : Addr, (if cap = i + 1 then some (⟨g, 0, none⟩ : Addr) else some ⟨g, (i + 1) * 3, none⟩) = some A ∧ Hid (∀ t u, news[t]? = some u → w.drew.cell? (A.add t) = some u) := by
    by_cases h : cap = i + 1
    · refine ⟨⟨g, 0, none⟩, by simp [h], Lib.hid fun t u hu => ?_⟩
      have h0 : news.length = 0 := by rw [hnl]; omega
      rw [List.length_eq_zero_iff.1 h0] at hu
      simp at hu
    · refine ⟨⟨g, (i + 1) * 3, none⟩, by simp [h], Lib.hid fun t u hu => ?_⟩
      rw [cells_add]
      exact (cell_row hg _).trans (hnc t u hu)
  have hgd : w.drew.heap[g]? = some (.cells cl.toArray 51 (0, 0)) := hg
  have hap := Lib.hid (fun ty => run_app3 w.drew ty g i cap A q (cap - (i + 1)) cl news hgd hnl hsrc.out hn1 (by omega) (by rw [hnl, hcl]; omega))
  obtain ⟨c1, hc1⟩ : ∃ c1, c1 = spl cl (i * 3) news := ⟨_, rfl⟩
  rw [← hc1] at hap
  have hc1l : c1.length = cap * 3 := by rw [hc1, spl_len (by rw [hnl, hcl]; omega), hcl]
  obtain ⟨W1, hW1⟩ : ∃ W1, W1 = w.drew.setRow g c1.toArray := ⟨_, rfl⟩
  rw [← hW1] at hap
  have hg1 : W1.heap[g]? = some (.cells c1.toArray 51 (0, 0)) := by rw [hW1]; exact setRow_heap w.drew g _ _ 51 (0, 0) hgd
  have hcr := Lib.hid (fun ty => run_clear3 W1 ty g ((i + q) * 3) (cap - (i + q)) c1 51 hg1 (by rw [hc1l]; omega))
  obtain ⟨c2, hc2⟩ : ∃ c2, c2 = spl c1 ((i + q) * 3) Z3 := ⟨_, rfl⟩
  rw [← hc2] at hcr
  have hc2l : c2.length = cap * 3 := by rw [hc2, spl_len (by rw [hc1l]; simp [Z3]; omega), hc1l]
  have hfin : Hid ((W1.setRow g c2.toArray).ownsRow base 51 3 (.slice (some ⟨g, 0, none⟩) (i + q) cap) (i + q + 1 - 1) (xs.take (i * 3) ++ xs.drop ((i + 1) * 3)) ∧ w.grownBy (W1.setRow g c2.toArray) (some g)) := Lib.hid ⟨by
    refine ownsRow_of hb (setRow_heap W1 g _ _ 51 (0, 0) hg1) (by omega) hc hc2l ?_
    rw [← hnews, hc2, spl, List.append_assoc, List.take_append_of_le_length (by rw [List.length_take, hc1l]; omega), List.take_take, Nat.min_self, hc1, spl, List.append_assoc]
    have hcx : cl.take (i * 3) = xs.take (i * 3) := by rw [← hx, List.take_take]; congr 1; omega
    rw [hcx, ← List.append_assoc, List.take_append_of_le_length (by simp [hxl, hnl]; omega), List.take_of_length_le (by simp [hxl, hnl]; omega)], by
    rw [hW1]
    exact grown_trans (grown_trans (grown_drew w _) (grown_setRow _ _ _)) (grown_setRow _ _ _)⟩
  have hicap : i + 1 ≤ cap := by omega
  have hic2 : i ≤ cap := by omega
  have hiq : i + q ≤ cap := by omega
  have hiq1 : i + q + 1 ≤ cap := by omega
  have hcne : ¬ (cap = i + q) := by omega
  have hwi : IntKind.i64.wrap ((i : Int) + 1) = (i : Int) + 1 := by rw [IntKind.wrap_i64]; omega
  have hj1 : (0 : Int) ≤ (i : Int) + 1 := by omega
  have hj2 : (i : Int) ≤ (i : Int) + (q : Int) := by omega
  have mixed : Try.prog.follows Departure.mixedOrders = true := by kernel_rfl
  clear hx hnc hsrc hgd hc1 hW1 hg1 hc2 hc1l hc2l hnews hs hcl hxl hlen hm
  go_enter Try.func23, Try.ntmps23
  go_wp2_with fail
  go_region_law_o (refine step_append_runI rfl (.tmp 22) (.tmp 25) 47 47 rfl _ _ (by simp [Act.eval, Act.put]) (by simp [Act.eval, Act.put]) (hap.out _) ?_)
  have hcr0 := hcr.out 0
  go_wp2_with fail
  go_ret
  exact ⟨_, rfl, hfin.out.1, hfin.out.2, rfl⟩
end Go.Proofs.Ythhigmkheccfpaa
