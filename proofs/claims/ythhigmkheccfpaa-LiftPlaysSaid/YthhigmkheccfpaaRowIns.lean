/- Rows of structs of three cells: slices.Insert of one element. -/
import Derived.Test.YthhigmkheccfpaaRowDel
set_option linter.unusedVariables false
set_option linter.unusedSimpArgs false
namespace Go.Proofs.Ythhigmkheccfpaa
open Go.RowKit
theorem sizeE (w : World) : (Go.sizeOf 51).run Try.prog w = .ok 3 w := by
  obtain ⟨i, hq, hz, hi, _⟩ := infoX
  simp [sizeOf, typeInfo, hq, hi]
/-- What stands behind an insertion. -/
theorem spl_ins {cl xs x : List Value} {i q cap : Nat} (hcl : cl.length = cap * 3) (hq : i + q + 2 ≤ cap) (hx : cl.take ((i + q + 1) * 3) = xs) (hx3 : x.length = 3) :
    (spl (spl cl ((i + 1) * 3) (xs.drop (i * 3))) (i * 3) x).take ((i + q + 2) * 3) = xs.take (i * 3) ++ x ++ xs.drop (i * 3) ∧ (spl (spl cl ((i + 1) * 3) (xs.drop (i * 3))) (i * 3) x).length = cap * 3 := by
  have hxl : xs.length = (i + q + 1) * 3 := by rw [← hx, List.length_take, hcl]; omega
  have hdl : (xs.drop (i * 3)).length = (q + 1) * 3 := by rw [List.length_drop, hxl]; omega
  have l1 : (spl cl ((i + 1) * 3) (xs.drop (i * 3))).length = cap * 3 := by rw [spl_len (by rw [hdl, hcl]; omega), hcl]
  refine ⟨?_, by rw [spl_len (by rw [l1, hx3]; omega), l1]⟩
  have t1 : (spl cl ((i + 1) * 3) (xs.drop (i * 3))).take (i * 3) = xs.take (i * 3) := by
    unfold spl
    rw [List.append_assoc, List.take_append_of_le_length (by rw [List.length_take, hcl]; omega), List.take_take, ← hx, List.take_take]
    congr 1; omega
  have t2 : (spl cl ((i + 1) * 3) (xs.drop (i * 3))).drop (i * 3 + x.length) = xs.drop (i * 3) ++ cl.drop ((i + 1) * 3 + (q + 1) * 3) := by
    unfold spl
    rw [hx3, hdl, List.append_assoc, List.drop_append_of_le_length (by rw [List.length_take, hcl]; omega), List.drop_eq_nil_of_le (by rw [List.length_take, hcl]; omega), List.nil_append]
  rw [spl, t1, t2, ← List.append_assoc, List.take_append_of_le_length (by simp [hxl, hx3, hdl]; omega), List.take_of_length_le (by simp [hxl, hx3]; omega)]
theorem ov_apart (w : World) (vb g m vc off lb cb : Nat) (x cl : List Value) (hvb : w.heap[vb]? = some (.cells x.toArray 51 (0, 0))) (hg : w.heap[g]? = some (.cells cl.toArray 51 (0, 0))) (hne : vb ≠ g) (hcl : 0 < cl.length) :
    (callFunc 32 #[.slice (some ⟨vb, 0, none⟩) m vc, .slice (some ⟨g, off, none⟩) lb cb]).run Try.prog w = .ok (.value (.bool false)) w := by
  rw [run_callFunc_extern Try.func32 (by kernel_rfl) (by kernel_rfl) (by kernel_rfl) (e := Extern.SlicesOverlaps.overlaps #[47, 47] #[4]) (by kernel_rfl),
    Lib.run_overlaps_apart w 47 4 51 elemS 3 sizeE ⟨vb, 0, none⟩ ⟨g, off, none⟩ m vc lb cb hne 51 51 x.length cl.length (by simp [World.shape?, hvb]) (by simp [World.shape?, hg]) (by omega) (by simp [World.frozen?, hvb]) (by simp [World.frozen?, hvb])]
  rfl
set_option maxHeartbeats 8000000 in
set_option maxRecDepth 100000 in
/-- Room: in place. -/
theorem insShift (w : World) (base g cap i q vb : Nat) (xs x : List Value) (cl : List Value) (hb : base ≤ g) (hg : w.heap[g]? = some (.cells cl.toArray 51 (0, 0))) (hc : cap ≤ maxLen) (hcl : cl.length = cap * 3) (hroom : i + q + 2 ≤ cap)
    (hx : cl.take ((i + q + 1) * 3) = xs) (h1 : ∀ u ∈ xs, u.oneCell' = true) (hx3 : x.length = 3) (hx1 : ∀ u ∈ x, u.oneCell' = true) (hvb : w.heap[vb]? = some (.cells x.toArray 51 (0, 0))) (hne : vb ≠ g) :
    Calls Try.prog 25 #[.slice (some ⟨g, 0, none⟩) (i + q + 1) cap, .int .i64 i, .slice (some ⟨vb, 0, none⟩) 1 1] w fun e w' => ∃ v', e = .returned v' ∧ w'.ownsRow base 51 3 v' (i + q + 2) (xs.take (i * 3) ++ x ++ xs.drop (i * 3)) ∧ w.grownBy w' (some g) := by
  have hm : maxLen = 9223372036854775807 := rfl
  have hxl : xs.length = (i + q + 1) * 3 := by rw [← hx, List.length_take, hcl]; omega
  have hdl : (xs.drop (i * 3)).length = (q + 1) * 3 := by rw [List.length_drop, hxl]; omega
  have hov := fun off lb cb => ov_apart w vb g 1 1 off lb cb x cl hvb hg hne (by omega)
  have hgd : w.drew.heap[g]? = some (.cells cl.toArray 51 (0, 0)) := hg
  have hsrc : ∀ j v, (xs.drop (i * 3))[j]? = some v → w.drew.cell? ((⟨g, i * 3, none⟩ : Addr).add j) = some v := by
    intro j v hj
    rw [cells_add]
    refine (cell_row hg _).trans ?_
    rw [List.getElem?_drop, ← hx, List.getElem?_take] at hj
    split at hj
    · exact hj
    · simp at hj
  have hcp1 := fun ty => run_copy3 w.drew ty g ((i + 1) * 3) (q + 1) (cap - (i + 1)) ⟨g, i * 3, none⟩ (q + 2) (cap - i) cl 51 (xs.drop (i * 3)) hgd (by rw [hdl]; simp [Nat.min_def]) hsrc (by rw [hdl, hcl]; omega) (fun u hu => h1 u (List.mem_of_mem_drop hu))
  obtain ⟨c1, hc1⟩ : ∃ c1, c1 = spl cl ((i + 1) * 3) (xs.drop (i * 3)) := ⟨_, rfl⟩
  obtain ⟨s1, s2⟩ := spl_ins hcl hroom hx hx3
  rw [← hc1] at hcp1 s1 s2
  have hc1l : c1.length = cap * 3 := by rw [hc1, spl_len (by rw [hdl, hcl]; omega), hcl]
  obtain ⟨W1, hW1⟩ : ∃ W1, W1 = w.drew.setRow g c1.toArray := ⟨_, rfl⟩
  rw [← hW1] at hcp1
  have hg1 : W1.heap[g]? = some (.cells c1.toArray 51 (0, 0)) := by rw [hW1]; exact setRow_heap w.drew g _ _ 51 (0, 0) hgd
  have hv1 : W1.heap[vb]? = some (.cells x.toArray 51 (0, 0)) := by rw [hW1, setRow_other _ _ _ _ hne]; exact hvb
  have hcp2 := fun ty => run_copy3 W1 ty g (i * 3) (q + 2) (cap - i) ⟨vb, 0, none⟩ 1 1 c1 51 x hg1 (by rw [hx3]; simp [Nat.min_def]) (fun j v hj => by rw [cells_add]; exact (cell_row hv1 _).trans (by rw [Nat.zero_add]; exact hj)) (by rw [hx3, hc1l]; omega) hx1
  obtain ⟨c2, hc2⟩ : ∃ c2, c2 = spl c1 (i * 3) x := ⟨_, rfl⟩
  rw [← hc2] at hcp2 s1 s2
  have hfin : Hid ((W1.setRow g c2.toArray).ownsRow base 51 3 (.slice (some ⟨g, 0, none⟩) (i + q + 2) cap) (i + q + 2) (xs.take (i * 3) ++ x ++ xs.drop (i * 3)) ∧ w.grownBy (W1.setRow g c2.toArray) (some g)) := Lib.hid ⟨
    ownsRow_of hb (setRow_heap W1 g _ _ 51 (0, 0) hg1) hroom hc s2 s1, by
    rw [hW1]
    exact grown_trans (grown_trans (grown_drew w _) (grown_setRow _ _ _)) (grown_setRow _ _ _)⟩
  have em1 : Nat.min (q + 2) (q + 1) = q + 1 := by simp [Nat.min_def]
  have em2 : Nat.min 1 (q + 2) = 1 := by simp [Nat.min_def]
  rw [em1] at hcp1
  rw [em2] at hcp2
  have HCP1 := Lib.hid hcp1
  have hcp2' := fun ty => hcp2 ty
  have hw1 : IntKind.i64.wrap ((i : Int) + (q : Int) + 1 + 1) = (i : Int) + (q : Int) + 2 := by rw [IntKind.wrap_i64]; omega
  have hw2 : IntKind.i64.wrap ((i : Int) + 1) = (i : Int) + 1 := by rw [IntKind.wrap_i64]; omega
  have hgt : decide ((cap : Int) < (i : Int) + (q : Int) + 2) = false := by simp; omega
  have hgt' : decide ((i : Int) + (q : Int) + 2 > (cap : Int)) = false := by simp; omega
  have b1 : (0 : Int) ≤ (i : Int) + (q : Int) + 2 := by omega
  have b2 : (i : Int) + (q : Int) + 2 ≤ (cap : Int) := by omega
  have b3 : (0 : Int) ≤ (i : Int) + 1 := by omega
  have b4 : (i : Int) + 1 ≤ (i : Int) + (q : Int) + 2 := by omega
  have b5 : (i : Int) ≤ (i : Int) + (q : Int) + 2 := by omega
  have n1 : ((i : Int) + (q : Int) + 2).toNat = i + q + 2 := by omega
  have n2 : ¬ (cap = i + 1) := by omega
  have n3 : ¬ (cap = i) := by omega
  have n4 : i + q + 2 - (i + 1) = q + 1 := by omega
  have n5 : i + q + 2 - i = q + 2 := by omega
  have mixed : Try.prog.follows Departure.mixedOrders = true := by kernel_rfl
  clear hx hsrc hgd hc1 hW1 hg1 hv1 hc2 hc1l s1 s2 hcl hxl hm em1 em2 hdl hcp1 hcp2
  go_enter Try.func25, Try.ntmps25
  go_wp2_with fail
  go_region_law_o (refine step_copy_runI rfl (.tmp 73) (.tmp 76) 47 47 rfl (.slice (some ⟨g, (i + 1) * 3, none⟩) (q + 1) (cap - (i + 1))) (.slice (some ⟨g, i * 3, none⟩) (q + 2) (cap - i)) (by simp [Act.eval, Act.put, n4, n5]) (by simp [Act.eval, Act.put, n4, n5]) (HCP1.out _) ?_)
  have h16 := hcp2' 3
  go_wp2_with fail
  go_ret
  exact ⟨_, rfl, hfin.out.1, hfin.out.2⟩
theorem growBy_le : ∀ (r n c : Nat), r ≤ 4 → c ≤ 100000 → Builtin.growBy n r c ≤ 1000000 := by
  intro r n c hr hc
  match r, hr with
  | 0, _ => simp only [Builtin.growBy]; omega
  | 1, _ => simp only [Builtin.growBy]; (repeat' split) <;> omega
  | 2, _ => simp only [Builtin.growBy]; (repeat' split) <;> omega
  | 3, _ => simp only [Builtin.growBy]; (repeat' split) <;> omega
  | 4, _ => simp only [Builtin.growBy]; (repeat' split) <;> omega
theorem next_le (n c : Nat) (hn : n ≤ 100001) (hc : c ≤ 100000) : Builtin.nextslicecap n c ≤ 1000000 := by
  unfold Builtin.nextslicecap
  split
  · omega
  · split
    · omega
    · exact growBy_le 4 n c (by omega) hc
set_option maxHeartbeats 8000000 in
set_option maxRecDepth 100000 in
/-- No room: a new row. -/
theorem insGrow (w : World) (base g i q vb : Nat) (xs x : List Value) (cl : List Value) (hb : base ≤ w.heap.size) (hg : w.heap[g]? = some (.cells cl.toArray 51 (0, 0))) (hcl : cl.length = (i + q + 1) * 3) (hsm : i + q + 1 ≤ 100000)
    (hx : cl.take ((i + q + 1) * 3) = xs) (h1 : ∀ u ∈ xs, u.oneCell' = true) (hx3 : x.length = 3) (hx1 : ∀ u ∈ x, u.oneCell' = true) (hvb : w.heap[vb]? = some (.cells x.toArray 51 (0, 0))) :
    Calls Try.prog 25 #[.slice (some ⟨g, 0, none⟩) (i + q + 1) (i + q + 1), .int .i64 i, .slice (some ⟨vb, 0, none⟩) 1 1] w fun e w' => ∃ v', e = .returned v' ∧ w'.ownsRow base 51 3 v' (i + q + 2) (xs.take (i * 3) ++ x ++ xs.drop (i * 3)) ∧ w.grownBy w' (some g) := by
  have hm : maxLen = 9223372036854775807 := rfl
  have hxl : xs.length = (i + q + 1) * 3 := by rw [← hx, List.length_take, hcl]; omega
  have hdl : (xs.drop (i * 3)).length = (q + 1) * 3 := by rw [List.length_drop, hxl]; omega
  have hgl : g < w.heap.size := (Array.getElem?_eq_some_iff.1 hg).1
  have hvl : vb < w.heap.size := (Array.getElem?_eq_some_iff.1 hvb).1
  have hol : (xs.take (i * 3)).length = i * 3 := by rw [List.length_take, hxl]; omega
  have hocell : ∀ j v, (xs.take (i * 3))[j]? = some v → w.drew.cell? ((⟨g, 0, none⟩ : Addr).add j) = some v := by
    intro j v hj
    rw [cells_add, Nat.zero_add]
    refine (cell_row hg _).trans ?_
    rw [List.getElem?_take] at hj
    split at hj
    · rw [← hx, List.getElem?_take] at hj
      split at hj
      · exact hj
      · simp at hj
    · simp at hj
  obtain ⟨inf, hq, hz, hi, hby⟩ := infoX
  have hold : (Builtin.firstCells inf.size i (.slice (some ⟨g, 0, none⟩) i (i + q + 1))).run Try.prog w.drew = .ok (xs.take (i * 3)).toArray w.drew := by
    have hl := run_loadCells_list (P := Try.prog) w.drew ⟨g, 0, none⟩ (xs.take (i * 3)) hocell
    rw [hol] at hl
    rw [hi]
    exact hl
  have hap := fun ty => Lib.run_append_grow_zeros (P := Try.prog) w 47 3 ty 51 inf (.agg Z3.toArray) .i64 .i64 elemS Try.underlying3 hq hz (some ⟨g, 0, none⟩) i (i + q + 1) (xs.take (i * 3)) hold (q + 2) (by omega) (by omega) (by omega) (by omega) (by rw [hby]; omega) (by rw [hby]; have := next_le (i + (q + 2)) (i + q + 1) (by omega) (by omega); omega)
  have hge := grownCap_ge w (i + (q + 2)) (i + q + 1) 51
  have hle := grownCap_le_maxLen w (i + (q + 2)) (i + q + 1) 51 (by omega)
  generalize grownCap w (i + (q + 2)) (i + q + 1) 51 = gc at *
  obtain ⟨c0, hc0⟩ : ∃ c0 : List Value, c0 = xs.take (i * 3) ++ (Builtin.zeroCells (Value.agg Z3.toArray).cells (q + 2)).toList ++ (Builtin.zeroCells (Value.agg Z3.toArray).cells (gc - (i + (q + 2)))).toList := ⟨_, rfl⟩
  have hc0a : (xs.take (i * 3)).toArray ++ Builtin.zeroCells (Value.agg Z3.toArray).cells (q + 2) ++ Builtin.zeroCells (Value.agg Z3.toArray).cells (gc - (i + (q + 2))) = c0.toArray := by rw [hc0]; apply Array.ext'; simp
  have hz3 : (Value.agg Z3.toArray).cells.size = 3 := rfl
  have hc0l : c0.length = gc * 3 := by
    rw [hc0]
    simp only [List.length_append, Array.length_toList, size_zeroCells, hz3, hol]
    omega
  have hc0t : c0.take (i * 3) = xs.take (i * 3) := by
    rw [hc0, List.append_assoc, List.take_append_of_le_length (by omega), List.take_of_length_le (by omega)]
  rw [hc0a] at hap
  obtain ⟨W0, hW0⟩ : ∃ W0, W0 = w.drew.alloc (.cells c0.toArray 51) := ⟨_, rfl⟩
  simp only [← hW0] at hap
  have hgW0 : W0.heap[w.heap.size]? = some (.cells c0.toArray 51 (0, 0)) := by rw [hW0]; exact heap_alloc_new w.drew _
  have hgo0 : W0.heap[g]? = some (.cells cl.toArray 51 (0, 0)) := by rw [hW0]; exact (heap_alloc_old w.drew (.cells c0.toArray 51) hgl).trans hg
  have hvo0 : W0.heap[vb]? = some (.cells x.toArray 51 (0, 0)) := by rw [hW0]; exact (heap_alloc_old w.drew (.cells c0.toArray 51) hvl).trans hvb
  have hcp1 := fun ty => run_copy3 W0 ty w.heap.size (i * 3) (q + 2) (gc - i) ⟨vb, 0, none⟩ 1 1 c0 51 x hgW0 (by rw [hx3]; simp [Nat.min_def]) (fun j v hj => by rw [cells_add]; exact (cell_row hvo0 _).trans (by rw [Nat.zero_add]; exact hj)) (by rw [hx3, hc0l]; omega) hx1
  obtain ⟨c1, hc1⟩ : ∃ c1, c1 = spl c0 (i * 3) x := ⟨_, rfl⟩
  rw [← hc1] at hcp1
  have hc1l : c1.length = gc * 3 := by rw [hc1, spl_len (by rw [hx3, hc0l]; omega), hc0l]
  obtain ⟨W1, hW1⟩ : ∃ W1, W1 = W0.setRow w.heap.size c1.toArray := ⟨_, rfl⟩
  rw [← hW1] at hcp1
  have hgW1 : W1.drew.heap[w.heap.size]? = some (.cells c1.toArray 51 (0, 0)) := by rw [hW1]; exact setRow_heap W0 _ _ _ 51 (0, 0) hgW0
  have hgo1 : W1.heap[g]? = some (.cells cl.toArray 51 (0, 0)) := by rw [hW1, setRow_other _ _ _ _ (by omega)]; exact hgo0
  have hsrc : ∀ j v, (xs.drop (i * 3))[j]? = some v → W1.drew.cell? ((⟨g, i * 3, none⟩ : Addr).add j) = some v := by
    intro j v hj
    rw [cells_add]
    refine (cell_row hgo1 _).trans ?_
    rw [List.getElem?_drop, ← hx, List.getElem?_take] at hj
    split at hj
    · exact hj
    · simp at hj
  have hcp2 := fun ty => run_copy3 W1.drew ty w.heap.size ((i + 1) * 3) (q + 1) (gc - (i + 1)) ⟨g, i * 3, none⟩ (q + 1) (q + 1) c1 51 (xs.drop (i * 3)) hgW1 (by rw [hdl]; simp [Nat.min_def]) hsrc (by rw [hdl, hc1l]; omega) (fun u hu => h1 u (List.mem_of_mem_drop hu))
  obtain ⟨c2, hc2⟩ : ∃ c2, c2 = spl c1 ((i + 1) * 3) (xs.drop (i * 3)) := ⟨_, rfl⟩
  rw [← hc2] at hcp2
  have hfin : Hid ((W1.drew.setRow w.heap.size c2.toArray).ownsRow base 51 3 (.slice (some ⟨w.heap.size, 0, none⟩) (i + (q + 2)) gc) (i + q + 2) (xs.take (i * 3) ++ x ++ xs.drop (i * 3)) ∧ w.grownBy (W1.drew.setRow w.heap.size c2.toArray) (some g)) := Lib.hid ⟨by
    rw [show i + (q + 2) = i + q + 2 by omega]
    refine ownsRow_of hb (setRow_heap W1.drew _ _ _ 51 (0, 0) hgW1) (by omega) hle (by rw [hc2, spl_len (by rw [hdl, hc1l]; omega), hc1l]) ?_
    have e1 : c1.take ((i + 1) * 3) = xs.take (i * 3) ++ x := by
      rw [hc1, spl, hc0t, List.take_append_of_le_length (by simp [hol, hx3]; omega), List.take_of_length_le (by simp [hol, hx3]; omega)]
    rw [hc2, spl, e1, List.take_append_of_le_length (by simp [hxl, hx3]; omega), List.take_of_length_le (by simp [hxl, hx3]; omega)], by
    have hs0 : W0.heap.size = w.heap.size + 1 := by rw [hW0]; simp
    refine ⟨by rw [setRow_os]; show W1.os = _; rw [hW1, setRow_os, hW0]; rfl, by rw [setRow_tape]; show W1.tape = _; rw [hW1, setRow_tape, hW0]; rfl, by rw [setRow_output]; show W1.output = _; rw [hW1, setRow_output, hW0]; rfl, by rw [setRow_size]; show _ ≤ W1.heap.size; rw [hW1, setRow_size, hs0]; omega, fun k hk _ => ?_⟩
    rw [setRow_other _ _ _ _ (by omega)]
    show W1.heap[k]? = _
    rw [hW1, setRow_other _ _ _ _ (by omega), hW0]
    exact heap_alloc_old w.drew (.cells c0.toArray 51) hk⟩
  have em1 : Nat.min 1 (q + 2) = 1 := by simp [Nat.min_def]
  have em2 : Nat.min (q + 1) (q + 1) = q + 1 := by simp [Nat.min_def]
  rw [em1] at hcp1
  rw [em2] at hcp2
  have HAP := Lib.hid hap
  have HCP1 := Lib.hid hcp1
  have HCP2 := Lib.hid hcp2
  have hw1 : IntKind.i64.wrap ((i : Int) + (q : Int) + 1 + 1) = (i : Int) + (q : Int) + 2 := by rw [IntKind.wrap_i64]; omega
  have hw2 : IntKind.i64.wrap ((i : Int) + 1) = (i : Int) + 1 := by rw [IntKind.wrap_i64]; omega
  have hw3 : IntKind.i64.wrap ((i : Int) + (q : Int) + 2 - (i : Int)) = ((q + 2 : Nat) : Int) := by rw [IntKind.wrap_i64]; omega
  have hgt : decide ((i : Int) + (q : Int) + 1 < (i : Int) + (q : Int) + 2) = true := by simp
  have hgt' : decide ((i : Int) + (q : Int) + 2 > (i : Int) + (q : Int) + 1) = true := by simp
  have b1 : (0 : Int) ≤ (i : Int) + 1 := by omega
  have b2 : i ≤ i + q + 1 := by omega
  have b3 : (i : Int) + 1 ≤ (i : Int) + ((q : Int) + 2) := by omega
  have b5 : (i : Int) ≤ (i : Int) + (q : Int) + 1 := by omega
  have b4 : (i : Int) ≤ (i : Int) + ((q : Int) + 2) := by omega
  have n2 : ¬ (gc = i + 1) := by omega
  have n3 : ¬ (gc = i) := by omega
  have n4 : i + (q + 2) - (i + 1) = q + 1 := by omega
  have n5 : i + (q + 2) - i = q + 2 := by omega
  have n6 : i + q + 1 - i = q + 1 := by omega
  have n7 : ¬ (i + q + 1 = i) := by omega
  have mixed : Try.prog.follows Departure.mixedOrders = true := by kernel_rfl
  clear hx hsrc hc0 hc0a hc0l hc0t hW0 hgW0 hgo0 hvo0 hc1 hW1 hgW1 hgo1 hc2 hc1l hcl hxl hm em1 em2 hdl hcp1 hcp2 hap hold hocell hol hq hz hi hby hge hle
  have h10 := HCP1.out 3
  go_enter Try.func25, Try.ntmps25
  go_wp2_with (at_builtin; refine Lib.wpList_append_run _ rfl _ _ 47 3 rfl (.slice (some ⟨g, 0, none⟩) i (i + q + 1)) (.int .i64 ((q + 2 : Nat) : Int)) rfl rfl _ _ (HAP.out _) ?_)
  go_region_law_o (refine step_copy_runI rfl (.tmp 50) (.tmp 53) 47 47 rfl (.slice (some ⟨w.heap.size, (i + 1) * 3, none⟩) (q + 1) (gc - (i + 1))) (.slice (some ⟨g, i * 3, none⟩) (q + 1) (q + 1)) (by simp [Act.eval, Act.put, n4, n5, n6]) (by simp [Act.eval, Act.put, n4, n5, n6]) (HCP2.out _) ?_)
  go_wp2_with fail
  go_ret
  exact ⟨_, rfl, hfin.out.1, hfin.out.2⟩
set_option maxHeartbeats 8000000 in
set_option maxRecDepth 100000 in
/-- At the end. -/
theorem insEnd (w : World) (base vb n : Nat) (v : Value) (xs x : List Value) (hown : w.ownsRow base 51 3 v n xs) (hb : base ≤ w.heap.size) (hsm : n ≤ 100000) (hx3 : x.length = 3) (hx1 : ∀ u ∈ x, u.oneCell' = true) (hvb : w.heap[vb]? = some (.cells x.toArray 51 (0, 0))) :
    Calls Try.prog 25 #[v, .int .i64 n, .slice (some ⟨vb, 0, none⟩) 1 1] w fun e w' => ∃ v', e = .returned v' ∧ w'.ownsRow base 51 3 v' (n + 1) (xs ++ x) ∧ w.grownBy w' v.ownBlock := by
  have hm : maxLen = 9223372036854775807 := rfl
  obtain ⟨inf, hq, hz, hi, hby⟩ := infoX
  have hnews : ∀ j u, x[j]? = some u → w.cell? ((⟨vb, 0, none⟩ : Addr).add j) = some u := fun j v hj => by rw [cells_add]; exact (cell_row hvb _).trans (by rw [Nat.zero_add]; exact hj)
  have hz3 : (Value.agg Z3.toArray).cells.size = 3 := rfl
  have HO := Lib.hid hown
  have hown' := hown
  obtain ⟨_, ⟨rfl, rfl⟩ | ⟨g, cap, cur, rfl, _, _, hn, hc, _, _⟩⟩ := hown
  · clear hown'
    go_enter Try.func25, Try.ntmps25
    go_wp2_with (at_builtin; refine wpList_append_own _ rfl _ _ 47 rfl base 51 inf (.agg Z3.toArray) 3 24 elemS hq hz hi hby hz3 (by decide) (.slice none 0 0) 0 xs rfl HO.out ⟨vb, 0, none⟩ 1 1 x rfl (by omega) hnews hx1 (by omega) (by omega) hb ?_; intro v1 w1 ho hg _; have HR := Lib.hid ho; have HG := Lib.hid hg; clear ho hg)
    go_ret
    exact ⟨_, rfl, HR.out, HG.out⟩
  · clear hown'
    have hnn : (n : Int) ≤ (n : Int) := by omega
    go_enter Try.func25, Try.ntmps25
    go_wp2_with (at_builtin; refine wpList_append_own _ rfl _ _ 47 rfl base 51 inf (.agg Z3.toArray) 3 24 elemS hq hz hi hby hz3 (by decide) (.slice (some ⟨g, 0, none⟩) n cap) n xs rfl HO.out ⟨vb, 0, none⟩ 1 1 x rfl (by omega) hnews hx1 (by omega) (by omega) hb ?_; intro v1 w1 ho hg _; have HR := Lib.hid ho; have HG := Lib.hid hg; clear ho hg)
    all_goals
      go_ret
      exact ⟨_, rfl, HR.out, HG.out⟩
/-- slices.Insert of one element, wherever. -/
theorem insC (w : World) (base vb n i : Nat) (v : Value) (xs x : List Value) (hown : w.ownsRow base 51 3 v n xs) (hi : i ≤ n) (hb : base ≤ w.heap.size) (hsm : n ≤ 100000) (h1 : ∀ u ∈ xs, u.oneCell' = true) (hx3 : x.length = 3) (hx1 : ∀ u ∈ x, u.oneCell' = true)
    (hvb : w.heap[vb]? = some (.cells x.toArray 51 (0, 0))) (hne : some vb ≠ v.ownBlock) :
    Calls Try.prog 25 #[v, .int .i64 i, .slice (some ⟨vb, 0, none⟩) 1 1] w fun e w' => ∃ v', e = .returned v' ∧ w'.ownsRow base 51 3 v' (n + 1) (xs.take (i * 3) ++ x ++ xs.drop (i * 3)) ∧ w.grownBy w' v.ownBlock := by
  by_cases hin : i = n
  · subst hin
    have hl := hown.1
    rw [List.take_of_length_le (by omega), List.drop_eq_nil_of_le (by omega), List.append_nil]
    exact insEnd w base vb i v xs x hown hb hsm hx3 hx1 hvb
  · have hown' := hown
    obtain ⟨hlen, ⟨_, h0⟩ | ⟨g, cap, cur, rfl, hbg, hg, hn, hc, hs, hx⟩⟩ := hown
    · omega
    obtain ⟨cl, rfl⟩ : ∃ cl : List Value, cur = cl.toArray := ⟨cur.toList, by simp⟩
    obtain ⟨q, rfl⟩ : ∃ q, n = i + q + 1 := ⟨n - i - 1, by omega⟩
    simp only [List.size_toArray] at hs hx
    by_cases hroom : i + q + 2 ≤ cap
    · have hvg : vb ≠ g := fun e => hne (by rw [e]; rfl)
      exact insShift w base g cap i q vb xs x cl hbg hg hc hs hroom hx h1 hx3 hx1 hvb hvg
    · obtain rfl : cap = i + q + 1 := by omega
      exact insGrow w base g i q vb xs x cl hb hg hs hsm hx h1 hx3 hx1 hvb
end Go.Proofs.Ythhigmkheccfpaa
