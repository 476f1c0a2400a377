/- Turns: rows of keys; which key is there. | Rows of numbers: slices.Delete of one. | Turns: what one holds; its calls that only read; a key is added. | Turns: a key is added; a key is touched. | Turns: what falls back; a key is touched. | Turns: a key is touched. -/
import Derived.Test.YtgpkpheejefiiaaGreatDoorX07
import Derived.Deep.LoopGhost
import Derived.BigRegion
import Derived.ChangeAlike
import Derived.RegionTactic
import Derived.Test.YtgpkpheejefiiaaGreatDoorX16
import Derived.Deep.QuietTactic
import Derived.Deep.DeepCutAuto
section
set_option linter.unusedVariables false
set_option linter.unusedSimpArgs false
namespace Go.Proofs.YtgpkpheejefiiaaGreatDoor
open Go.RowKit
def KI : Enc Int := ⟨fun x => [.int .i64 x], 1, 3, fun _ => rfl, fun p u hu => by simp at hu; subst hu; rfl, by decide, 0⟩
/-- An own row of numbers, read. -/
theorem readsI {w : World} {base : Nat} {v : Value} {l : List Int} (h : KI.Row w base v l) : ∃ A c, v = .slice A l.length c ∧ l.length ≤ c ∧ (0 < l.length → ∃ g, A = some ⟨g, 0, none⟩ ∧ v.ownBlock = some g ∧ ∀ i, i < l.length → w.cell? ⟨g, i, none⟩ = some (.int .i64 (KI.nth l i))) := by
  obtain ⟨hl, ⟨rfl, h0⟩ | ⟨g, cap, cur, rfl, hb, hg, hn, hc, hs, hx⟩⟩ := h
  · exact ⟨none, 0, by rw [h0], by omega, fun hi => by omega⟩
  · refine ⟨_, _, rfl, hn, fun _ => ⟨g, rfl, rfl, fun i hi => ?_⟩⟩
    have := KI.flat_get l i 0 hi (by decide)
    rw [← hx, List.getElem?_take] at this
    have hm : KI.m = 1 := rfl
    rw [hm] at this
    simp only [Nat.mul_one, Nat.add_zero] at this
    rw [if_pos (by omega)] at this
    rw [blk_cell hg, ← Array.getElem?_toList, this]
    rfl
/-- Where a key stands, from a place on. -/
def ixI (l : List Int) (key : Int) : Int := if key ∈ l then ((l.idxOf key : Nat) : Int) else -1
set_option maxHeartbeats 2000000 in
set_option maxRecDepth 100000 in
theorem indexI (w : World) (base : Nat) (v : Value) (l : List Int) (key : Int) (h : KI.Row w base v l) (hlen : l.length ≤ 1000000) :
    Calls Tryz.prog 258 #[v, .int .i64 key] w fun e w' => e = .returned (.int .i64 (ixI l key)) ∧ Bel w w' := by
  obtain ⟨A, c, rfl, hc, hR⟩ := readsI h
  have HR := Lib.hid hR
  have HX : Hid (Bel w w) := Lib.hid (Bel.refl w)
  clear h hR
  generalize hn : l.length = n at *
  have HN := Lib.hid hn
  clear hn
  go_enter Tryz.func258, Tryz.ntmps258
  go_wp2_with fail
  go_loopw [8] (fun v8 wr => ∃ k : Nat, v8 = .int .i64 k ∧ k ≤ n ∧ key ∉ l.take k ∧ wr = w) (fun v8 _ => n - (intOf v8).toNat)
  case atStart => exact ⟨0, rfl, by omega, by simp, rfl⟩
  case round =>
    obtain ⟨k, rfl, hk, hno, rfl⟩ := hrel
    by_cases hlt : k < n
    · obtain ⟨g, rfl, _, hcell⟩ := HR.out (by omega)
      have hx := hcell k hlt
      have hlt' : decide ((k : Int) < n) = true := by simp; omega
      have hkl : k < l.length := by rw [HN.out]; exact hlt
      have hnth : KI.nth l k = l[k] := by
        simp [Enc.nth, hkl]
      rw [hnth] at hx
      have HK := Lib.hid (And.intro hkl (And.intro hno hnth))
      have htk : Hid (l.take (k + 1) = l.take k ++ [l[k]]) := Lib.hid (by rw [List.take_add_one, List.getElem?_eq_getElem hkl]; rfl)
      have hix : Hid (key = l[k] → ixI l key = k) := Lib.hid (fun e => by
        unfold ixI
        rw [if_pos (by rw [e]; exact List.getElem_mem hkl)]
        congr 1
        have e2 : l = l.take k ++ l[k] :: l.drop (k + 1) := by rw [← List.drop_eq_getElem_cons hkl, List.take_append_drop]
        have e3 : (l[k] :: l.drop (k + 1)).idxOf key = 0 := by rw [e]; exact List.idxOf_cons_self
        rw [e2, List.idxOf_append, if_neg hno, e3]
        simp only [List.length_take, Nat.zero_add]
        omega)
      generalize l[k] = y at *
      clear hcell hnth hno
      by_cases hky : key = y
      · have e1 : (key == y) = true := by simpa using hky
        have e2 : decide (key = y) = true := by simpa using hky
        go_wp2_with fail
        go_ret
        refine ⟨?_, Bel.refl _⟩
        rw [hix.out hky]
        rfl
      · have e1 : (key == y) = false := by simpa using hky
        have e2 : decide (key = y) = false := by simpa using hky
        have HKY := Lib.hid hky
        clear hky
        go_wp2_with fail
        exact ⟨⟨k + 1, by congr 1, by omega, by rw [htk.out]; simp only [List.mem_append, List.mem_singleton, not_or]; exact ⟨HK.out.2.1, HKY.out⟩, by first | rfl | trivial⟩, by simp [intOf]; omega⟩
    · have hkn : k = n := by omega
      subst hkn
      have hlt' : decide ((k : Int) < k) = false := by simp
      have hix : Hid (ixI l key = -1) := Lib.hid (by
        unfold ixI
        rw [if_neg]
        rw [← HN.out, List.take_length] at hno
        exact hno)
      go_wp2_with fail
      go_ret
      refine ⟨?_, Bel.refl _⟩
      rw [hix.out]
      rfl
theorem containsI (w : World) (base : Nat) (v : Value) (l : List Int) (key : Int) (h : KI.Row w base v l) (hlen : l.length ≤ 1000000) :
    Calls Tryz.prog 214 #[v, .int .i64 key] w fun e w' => e = .returned (.bool (decide (key ∈ l))) ∧ Bel w w' := by
  have K := Lib.hid (indexI w base v l key h hlen)
  have hd : Hid (decide (0 ≤ ixI l key) = decide (key ∈ l)) := Lib.hid (by
    unfold ixI
    by_cases hk : key ∈ l
    · rw [if_pos hk]; simp [hk]
    · rw [if_neg hk]; simp [hk])
  clear h
  generalize ixI l key = i at *
  go_enter Tryz.func214, Tryz.ntmps214
  go_wp2_with (go_at_call 258; refine K.out.mono ?_; rintro e w1 ⟨rfl, hb⟩; have HB := Lib.hid hb; clear hb)
  go_ret
  refine ⟨?_, HB.out⟩
  rw [← hd.out]
  rfl
end Go.Proofs.YtgpkpheejefiiaaGreatDoor
end
section
set_option linter.unusedVariables false
set_option linter.unusedSimpArgs false
namespace Go.Proofs.YtgpkpheejefiiaaGreatDoor
open Go.RowKit
open Q20 (spl spl_len step_append_runI wpList_clear_runI cell_row grown_setRow grown_drew grown_trans)
def Z1 : List Value := [.int .i64 0]
theorem infoI : ∃ i, Tryz.prog.info? 3 = some i ∧ i.zero = some (.int .i64 0) ∧ i.size = 1 ∧ i.bytes = 8 := by
  have h : (Tryz.prog.info? 3).map (fun i => (i.zero, i.size, i.bytes)) = some (some (.int .i64 0), 1, 8) := by kernel_rfl
  cases hi : Tryz.prog.info? 3 with
  | none => rw [hi] at h; simp at h
  | some i =>
    rw [hi] at h
    simp only [Option.map_some, Option.some.injEq, Prod.mk.injEq] at h
    exact ⟨i, rfl, h.1, h.2.1, h.2.2⟩
theorem run_app1 (w : World) (ty : TypeId) (g n cap : Nat) (a : Addr) (m c : Nat) (cur : List Value) (news : List Value)
    (hg : w.heap[g]? = some (.cells cur.toArray 3 (0, 0))) (hl : news.length = m) (hnews : ∀ j u, news[j]? = some u → w.cell? (a.add j) = some u) (h1 : ∀ u ∈ news, u.oneCell' = true)
    (hroom : n + m ≤ cap) (hfit : n + news.length ≤ cur.length) :
    (Builtin.append_ #[284, 284] ty #[.slice (some ⟨g, 0, none⟩) n cap, .slice (some a) m c]).run Tryz.prog w =
      .ok (.slice (some ⟨g, 0, none⟩) (n + m) cap) (w.setRow g (spl cur n news).toArray) := by
  obtain ⟨i, hq, hz, hi, _⟩ := infoI
  have := run_append_room (P := Tryz.prog) w 284 ty 3 i Tryz.underlying284 hq g n cap cur.toArray hg a m c news (by rw [hi]; omega) hnews h1 hroom (by rw [hi]; simpa using hfit)
  rw [hi, Nat.mul_one] at this
  exact this
theorem zeroI (w : World) : (zeroValue 3).run Tryz.prog w = .ok (.int .i64 0) w := by
  obtain ⟨i, hq, hz, hi, _⟩ := infoI
  simp [zeroValue, typeInfo, hq, hz]
theorem zc1I : (Builtin.zeroCells (Value.int .i64 0).cells 1).toList = Z1 := by
  simp [Builtin.zeroCells, Value.cells, Z1, Array.range]
theorem run_clear1 (w : World) (ty : TypeId) (g o c : Nat) (cur : List Value) (t : TypeId) (hg : w.heap[g]? = some (.cells cur.toArray t (0, 0))) (hfit : o + 1 ≤ cur.length) :
    (Builtin.clear_ #[284] ty #[.slice (some ⟨g, o, none⟩) 1 c]).run Tryz.prog w = .ok (.tuple #[]) (w.setRow g (spl cur o Z1).toArray) := by
  have hst := run_storeCells_at Tryz.prog g o t Z1 0 cur.toArray w hg (by simpa [Z1] using hfit) (by simp [Z1]; rfl)
  simp only [Nat.add_zero] at hst
  simp [Builtin.clear_, run_underlying Tryz.underlying284, zeroI]
  rw [show (Builtin.zeroCells (Value.int .i64 0).cells 1).toList = Z1 from zc1I, hst]
  simp [spl]
theorem ownsRow_of1 {w : World} {base g cap n : Nat} {cur xs : List Value} (hb : base ≤ g) (hg : w.heap[g]? = some (.cells cur.toArray 3 (0, 0))) (hn : n ≤ cap) (hc : cap ≤ maxLen) (hs : cur.length = cap) (hx : cur.take n = xs) :
    w.ownsRow base 3 1 (.slice (some ⟨g, 0, none⟩) n cap) n xs := by
  refine ⟨?_, .inr ⟨g, cap, cur.toArray, rfl, hb, hg, hn, hc, by simpa using hs, by simpa using hx⟩⟩
  rw [← hx, List.length_take, hs]
  omega
set_option maxHeartbeats 8000000 in
set_option maxRecDepth 100000 in
theorem delC1 (w : World) (base : Nat) (v : Value) (n : Nat) (xs : List Value) (hown : w.ownsRow base 3 1 v n xs) (i : Nat) (hi : i < n) (h1 : ∀ u ∈ xs, u.oneCell' = true) :
    Calls Tryz.prog 259 #[v, .int .i64 i, .int .i64 ((i : Int) + 1)] w fun e w' => ∃ v', e = .returned v' ∧ w'.ownsRow base 3 1 v' (n - 1) (xs.take (i) ++ xs.drop (i + 1)) ∧ w.grownBy w' v.ownBlock ∧ v'.ownBlock = v.ownBlock := by
  obtain ⟨hlen, ⟨_, h0⟩ | ⟨g, cap, cur, rfl, hb, hg, hn, hc, hs, hx⟩⟩ := hown
  · omega
  obtain ⟨cl, rfl⟩ : ∃ cl : List Value, cur = cl.toArray := ⟨cur.toList, by simp⟩
  obtain ⟨q, rfl⟩ : ∃ q, n = i + q + 1 := ⟨n - i - 1, by omega⟩
  simp only [List.size_toArray, Nat.mul_one] at hs hx hlen
  have hcl : cl.length = cap := hs
  have hxl : xs.length = i + q + 1 := hlen
  have hm : maxLen = 9223372036854775807 := rfl
  obtain ⟨news, hnews⟩ : ∃ news, news = xs.drop (i + 1) := ⟨_, rfl⟩
  have hnl : news.length = q := by rw [hnews, List.length_drop, hxl]; omega
  have hnc : ∀ j u, news[j]? = some u → cl[(i + 1) + j]? = some u := by
    intro j u hu
    rw [hnews, List.getElem?_drop, ← hx, List.getElem?_take] at hu
    split at hu
    · exact hu
    · simp at hu
  have hn1 : ∀ u ∈ news, u.oneCell' = true := fun u hu => h1 u (by rw [hnews] at hu; exact List.mem_of_mem_drop hu)
  obtain ⟨A, hA, hsrc⟩ : ∃ A : Addr, (if cap = i + 1 then some (⟨g, 0, none⟩ : Addr) else some ⟨g, (i + 1), none⟩) = some A ∧ Hid (∀ t u, news[t]? = some u → w.drew.cell? (A.add t) = some u) := by
    by_cases h : cap = i + 1
    · refine ⟨⟨g, 0, none⟩, by simp [h], Lib.hid fun t u hu => ?_⟩
      have h0 : news.length = 0 := by rw [hnl]; omega
      rw [List.length_eq_zero_iff.1 h0] at hu
      simp at hu
    · refine ⟨⟨g, (i + 1), none⟩, by simp [h], Lib.hid fun t u hu => ?_⟩
      rw [cells_add]
      exact (cell_row hg _).trans (hnc t u hu)
  have hgd : w.drew.heap[g]? = some (.cells cl.toArray 3 (0, 0)) := hg
  have hap := Lib.hid (fun ty => run_app1 w.drew ty g i cap A q (cap - (i + 1)) cl news hgd hnl hsrc.out hn1 (by omega) (by rw [hnl, hcl]; omega))
  obtain ⟨c1, hc1⟩ : ∃ c1, c1 = spl cl (i) news := ⟨_, rfl⟩
  rw [← hc1] at hap
  have hc1l : c1.length = cap := by rw [hc1, spl_len (by rw [hnl, hcl]; omega), hcl]
  obtain ⟨W1, hW1⟩ : ∃ W1, W1 = w.drew.setRow g c1.toArray := ⟨_, rfl⟩
  rw [← hW1] at hap
  have hg1 : W1.heap[g]? = some (.cells c1.toArray 3 (0, 0)) := by rw [hW1]; exact setRow_heap w.drew g _ _ 3 (0, 0) hgd
  have hcr := Lib.hid (fun ty => run_clear1 W1 ty g (i + q) (cap - (i + q)) c1 3 hg1 (by rw [hc1l]; omega))
  obtain ⟨c2, hc2⟩ : ∃ c2, c2 = spl c1 (i + q) Z1 := ⟨_, rfl⟩
  rw [← hc2] at hcr
  have hc2l : c2.length = cap := by rw [hc2, spl_len (by rw [hc1l]; simp [Z1]; omega), hc1l]
  have hfin : Hid ((W1.setRow g c2.toArray).ownsRow base 3 1 (.slice (some ⟨g, 0, none⟩) (i + q) cap) (i + q + 1 - 1) (xs.take (i) ++ xs.drop (i + 1)) ∧ w.grownBy (W1.setRow g c2.toArray) (some g)) := Lib.hid ⟨by
    refine ownsRow_of1 hb (setRow_heap W1 g _ _ 3 (0, 0) hg1) (by omega) hc hc2l ?_
    rw [← hnews, hc2, spl, List.append_assoc, List.take_append_of_le_length (by rw [List.length_take, hc1l]; omega), List.take_take, Nat.min_self, hc1, spl, List.append_assoc]
    have hcx : cl.take (i) = xs.take (i) := by rw [← hx, List.take_take]; congr 1; omega
    rw [hcx, ← List.append_assoc, List.take_append_of_le_length (by simp [hxl, hnl]; omega), List.take_of_length_le (by simp [hxl, hnl]; omega)], by
    rw [hW1]
    exact grown_trans (grown_trans (grown_drew w _) (grown_setRow _ _ _)) (grown_setRow _ _ _)⟩
  have hicap : i + 1 ≤ cap := by omega
  have hic2 : i ≤ cap := by omega
  have hiq : i + q ≤ cap := by omega
  have hiq1 : i + q + 1 ≤ cap := by omega
  have hcne : ¬ (cap = i + q) := by omega
  have hwi : IntKind.i64.wrap ((i : Int) + 1) = (i : Int) + 1 := by rw [IntKind.wrap_i64]; omega
  have hj1 : (0 : Int) ≤ (i : Int) + 1 := by omega
  have hj2 : (i : Int) ≤ (i : Int) + (q : Int) := by omega
  have mixed : Tryz.prog.follows Departure.mixedOrders = true := by kernel_rfl
  clear hx hnc hsrc hgd hc1 hW1 hg1 hc2 hc1l hc2l hnews hs hcl hxl hlen hm
  go_enter Tryz.func259, Tryz.ntmps259
  go_wp2_with fail
  go_region_law_o (refine step_append_runI rfl (.tmp 22) (.tmp 25) 284 284 rfl _ _ (by simp [Act.eval, Act.put]) (by simp [Act.eval, Act.put]) (hap.out _) ?_)
  have hcr0 := hcr.out 0
  go_wp2_with fail
  go_ret
  exact ⟨_, rfl, hfin.out.1, hfin.out.2, rfl⟩
theorem flatI (l : List Int) : KI.flat l = l.map (Value.int .i64) := by
  unfold Enc.flat
  induction l with
  | nil => rfl
  | cons a l ih => rw [List.flatMap_cons, ih]; rfl
theorem delI (w : World) (base : Nat) (v : Value) (l : List Int) (h : KI.Row w base v l) (i : Nat) (hi : i < l.length) :
    Calls Tryz.prog 259 #[v, .int .i64 i, .int .i64 ((i : Int) + 1)] w fun e w' => ∃ v', e = .returned v' ∧ KI.Row w' base v' (l.take i ++ l.drop (i + 1)) ∧ w.grownBy w' v.ownBlock ∧ v'.ownBlock = v.ownBlock := by
  refine (delC1 w base v l.length (KI.flat l) h i hi (by rw [flatI]; simp; intro a _; rfl)).mono ?_
  rintro e w' ⟨v', h1, h2, h3, h4⟩
  refine ⟨v', h1, ?_, h3, h4⟩
  unfold Enc.Row
  have e1 : (l.take i ++ l.drop (i + 1)).length = l.length - 1 := by simp; omega
  rw [e1, flatI, List.map_append, List.map_take, List.map_drop, ← flatI]
  exact h2
/-- A row without a key. -/
def outL (l : List Int) (key : Int) : List Int := if key ∈ l then l.take (l.idxOf key) ++ l.drop (l.idxOf key + 1) else l
set_option maxRecDepth 100000 in
theorem outI (w : World) (base : Nat) (v : Value) (l : List Int) (key : Int) (h : KI.Row w base v l) (hlen : l.length ≤ 1000000) :
    Calls Tryz.prog 209 #[v, .int .i64 key] w fun e w' => ∃ v', e = .returned (.tuple #[v', .bool (decide (key ∈ l))]) ∧ KI.Row w' base v' (outL l key) ∧ w.grownBy w' v.ownBlock ∧ v'.ownBlock = v.ownBlock := by
  have K := Lib.hid (indexI w base v l key h hlen)
  have H := Lib.hid h
  clear h
  by_cases hk : key ∈ l
  · have hi : l.idxOf key < l.length := List.idxOf_lt_length_iff.2 hk
    have e1 : ixI l key = (l.idxOf key : Nat) := by unfold ixI; rw [if_pos hk]
    have e2 : outL l key = l.take (l.idxOf key) ++ l.drop (l.idxOf key + 1) := by unfold outL; rw [if_pos hk]
    rw [e1] at K
    rw [e2, decide_eq_true hk]
    have KD := Lib.hid (fun w1 (h1 : KI.Row w1 base v l) => delI w1 base v l h1 (l.idxOf key) hi)
    clear e1 e2 hk
    have hw : IntKind.i64.wrap ((l.idxOf key : Nat) + 1 : Int) = (l.idxOf key : Nat) + 1 := w64i (by omega) (by omega)
    generalize l.idxOf key = i at *
    have hd : decide ((i : Int) < 0) = false := by simp
    go_enter Tryz.func209, Tryz.ntmps209
    go_wp2_with (go_at_call 258; refine K.out.mono ?_; rintro e w1 ⟨rfl, hb⟩; have HB := Lib.hid hb; clear hb)
    refine (KD.out _ (H.out.bel HB.out)).mono ?_
    rintro e w2 ⟨v', rfl, h1, h2, h3⟩
    have HF := Lib.hid (And.intro h1 (And.intro h2 h3))
    clear h1 h2 h3
    go_wp2_with fail
    go_ret2
    exact ⟨v', rfl, HF.out.1, ⟨HF.out.2.1.os.trans HB.out.os, HF.out.2.1.tape.trans HB.out.tape, HF.out.2.1.output.trans HB.out.output, Nat.le_trans HB.out.size HF.out.2.1.size, fun k hk hne => (HF.out.2.1.block k (Nat.lt_of_lt_of_le hk HB.out.size) hne).trans (HB.out.block k hk)⟩, HF.out.2.2⟩
  · have e1 : ixI l key = -1 := by unfold ixI; rw [if_neg hk]
    have e2 : outL l key = l := by unfold outL; rw [if_neg hk]
    rw [e1] at K
    rw [e2, decide_eq_false hk]
    clear e1 e2 hk
    go_enter Tryz.func209, Tryz.ntmps209
    go_wp2_with (go_at_call 258; refine K.out.mono ?_; rintro e w1 ⟨rfl, hb⟩; have HB := Lib.hid hb; clear hb)
    go_ret2
    exact ⟨v, rfl, H.out.bel HB.out, ⟨HB.out.os, HB.out.tape, HB.out.output, HB.out.size, fun k hk _ => HB.out.block k hk⟩, rfl⟩
end Go.Proofs.YtgpkpheejefiiaaGreatDoor
end
section
set_option linter.unusedVariables false
set_option linter.unusedSimpArgs false
namespace Go.Proofs.YtgpkpheejefiiaaGreatDoor
open Go.RowKit
set_option maxRecDepth 100000
theorem mixedE : Tryz.prog.follows .mixedOrders = true := by kernel_rfl
structure TS where
  most : Int
  limit : Int
  P : List Int
  D : List Int
structure TA where
  g : Nat
  vp : Value
  vd : Value
  mp : Nat
/-- What a turn stands on, but for its map. -/
def TA.F (a : TA) : Nat → Prop := fun k => k = a.g ∨ ownF a.vp k ∨ ownF a.vd k
structure IsT (w : World) (base : Nat) (a : TA) (s : TS) : Prop where
  blk : w.heap[a.g]? = some (.cells #[.int .i64 s.most, .int .i64 s.limit, a.vp, a.vd, .map (some a.mp)] 287 (0, 0))
  p : KI.Row w base a.vp s.P
  d : KI.Row w base a.vd s.D
  two : ∀ k, ownF a.vp k → ¬ ownF a.vd k
  lp : s.P.length ≤ 1000
  ld : s.D.length ≤ 1000
theorem IsT.agree {w w' : World} {base : Nat} {a : TA} {s : TS} (h : IsT w base a s) (ha : ∀ k, a.F k → w'.heap[k]? = w.heap[k]?) : IsT w' base a s :=
  ⟨(ha _ (.inl rfl)).trans h.blk, h.p.agree (fun k hk => ha k (.inr (.inl hk))), h.d.agree (fun k hk => ha k (.inr (.inr hk))), h.two, h.lp, h.ld⟩
theorem IsT.bel {w w' : World} {base : Nat} {a : TA} {s : TS} (h : IsT w base a s) (k : Bel w w') : IsT w' base a s :=
  ⟨blk_below h.blk k, h.p.bel k, h.d.bel k, h.two, h.lp, h.ld⟩
theorem IsT.lt {w : World} {base : Nat} {a : TA} {s : TS} (h : IsT w base a s) : ∀ k, a.F k → k < w.heap.size := fun k hk => by
  rcases hk with rfl | hk | hk
  · exact blk_lt h.blk
  · exact h.p.foot_lt k hk
  · exact h.d.foot_lt k hk
theorem nil194 (w : World) (p : Option Addr) : (binOp .eql 194 (.pointer p) (.pointer none)).run Tryz.prog w = .ok (.bool p.isNone) w := run_eql_pointer_nil (P := Tryz.prog) w 194 p Tryz.underlying194
abbrev PTR (g : Nat) : Value := .pointer (some ⟨g, 0, none⟩)
set_option maxHeartbeats 4000000 in
theorem lenT (w : World) (base : Nat) (a : TA) (s : TS) (h : IsT w base a s) : Calls Tryz.prog 260 #[PTR a.g] w fun e w' => e = .returned (.tuple #[.int .i64 ((s.P.length : Int) + s.D.length), .int .i64 s.D.length]) ∧ Bel w w' := by
  obtain ⟨A, c, e1, _, _⟩ := readsI h.p
  obtain ⟨B, d, e2, _, _⟩ := readsI h.d
  have hb := h.blk
  rw [e1, e2] at hb
  have c2 := blk_cell hb 2
  have c3 := blk_cell hb 3
  have hn := nil194
  have hw : IntKind.i64.wrap ((s.P.length : Int) + s.D.length) = (s.P.length : Int) + s.D.length := w64i (by have := h.lp; have := h.ld; omega) (by have := h.lp; have := h.ld; omega)
  have hm := mixedE
  clear h hb e1 e2
  generalize s.P.length = n at *
  generalize s.D.length = m at *
  go_enter Tryz.func260, Tryz.ntmps260
  go_wp2_with fail
  go_region
  go_wp2_with fail
  go_ret2
  exact ⟨rfl, Bel.drew w⟩
set_option maxHeartbeats 4000000 in
theorem fullT (w : World) (base : Nat) (a : TA) (s : TS) (h : IsT w base a s) : Calls Tryz.prog 211 #[PTR a.g] w fun e w' => e = .returned (.bool (decide (s.most ≤ (s.P.length : Int) + s.D.length))) ∧ Bel w w' := by
  have K := Lib.hid (lenT w base a s h)
  have H := Lib.hid h
  have hn := nil194
  clear h
  go_enter Tryz.func211, Tryz.ntmps211
  go_wp2_with fail
  refine K.out.mono ?_
  rintro e w1 ⟨rfl, hb⟩
  have c0 := blk_cell (H.out.bel hb).blk 0
  have HB := Lib.hid hb
  clear hb
  go_wp2_with fail
  go_ret
  exact ⟨rfl, HB.out⟩
set_option maxHeartbeats 4000000 in
theorem hasT (w : World) (base : Nat) (a : TA) (s : TS) (key : Int) (h : IsT w base a s) : Calls Tryz.prog 155 #[PTR a.g, .int .i64 key] w fun e w' => e = .returned (.tuple #[.bool (decide (key ∈ s.P ++ s.D)), .bool (decide (key ∈ s.D))]) ∧ Bel w w' := by
  have KD := Lib.hid (containsI w base a.vd s.D key h.d (by have := h.ld; omega))
  have KP := Lib.hid (fun w1 (h1 : KI.Row w1 base a.vp s.P) => containsI w1 base a.vp s.P key h1 (by have := h.lp; omega))
  have H := Lib.hid h
  have hn := nil194
  have c3 := blk_cell h.blk 3
  clear h
  by_cases hd : key ∈ s.D
  · have e1 : decide (key ∈ s.D) = true := by simpa using hd
    have e2 : decide (key ∈ s.P ++ s.D) = true := by simp [hd]
    rw [e1] at KD
    rw [e1, e2]
    clear e1 e2 hd
    go_enter Tryz.func155, Tryz.ntmps155
    go_wp2_with fail
    refine KD.out.mono ?_
    rintro e w1 ⟨rfl, hb⟩
    have HB := Lib.hid hb
    clear hb c3
    go_wp2_with fail
    go_ret2
    exact ⟨rfl, HB.out⟩
  · have e1 : decide (key ∈ s.D) = false := by simpa using hd
    have e2 : decide (key ∈ s.P ++ s.D) = decide (key ∈ s.P) := by simp [hd]
    rw [e1] at KD
    rw [e1, e2]
    clear e1 e2 hd
    generalize decide (key ∈ s.P) = r at *
    go_enter Tryz.func155, Tryz.ntmps155
    go_wp2_with fail
    refine KD.out.mono ?_
    rintro e w1 ⟨rfl, hb⟩
    have H1 := Lib.hid (H.out.bel hb)
    have c2 := blk_cell H1.out.blk 2
    have HB := Lib.hid hb
    clear hb c3
    go_wp2_with (go_at_call 214; refine (KP.out _ H1.out.p).mono ?_; rintro e w2 ⟨rfl, hb2⟩; have HB2 := Lib.hid hb2; clear hb2)
    go_ret2
    exact ⟨rfl, HB.out.trans HB2.out⟩
end Go.Proofs.YtgpkpheejefiiaaGreatDoor
end
section
set_option linter.unusedVariables false
set_option linter.unusedSimpArgs false
namespace Go.Proofs.YtgpkpheejefiiaaGreatDoor
open Go.RowKit
set_option maxRecDepth 100000
/-- A row of a turn is another one. -/
theorem IsT.setP {w w' : World} {base : Nat} {a : TA} {s : TS} (h : IsT w base a s) {vp' : Value} {l' : List Int} (hr : KI.Row w' base vp' l') (hg : w.grownBy w' a.vp.ownBlock) (hwh : vp'.ownBlock = a.vp.ownBlock ∨ ∃ k, w.heap.size ≤ k ∧ vp'.ownBlock = some k) (hl : l'.length ≤ 1000) :
    w'.heap[a.g]? = some (.cells #[.int .i64 s.most, .int .i64 s.limit, a.vp, a.vd, .map (some a.mp)] 287 (0, 0)) ∧ IsT (w'.setCell ⟨a.g, 2, none⟩ vp') base { a with vp := vp' } { s with P := l' } ∧ Upd a.F w ({ a with vp := vp' } : TA).F (w'.setCell ⟨a.g, 2, none⟩ vp') := by
  have ne1 : a.vp.ownBlock ≠ some a.g := h.p.ne_blk h.blk (by decide)
  have hb' : w'.heap[a.g]? = some (.cells #[.int .i64 s.most, .int .i64 s.limit, a.vp, a.vd, .map (some a.mp)] 287 (0, 0)) := (hg.block a.g (blk_lt h.blk) (fun e => ne1 e.symm)).trans h.blk
  have ne2 := hr.ne_blk hb' (by decide)
  have d1 := h.d.grown_off hg (fun k hk e => h.two k hk e)
  have ne3 := d1.ne_blk hb' (by decide)
  refine ⟨hb', ⟨setc_blk (i := 2) hb' vp', hr.set_off ⟨a.g, 2, none⟩ ne2 vp', d1.set_off ⟨a.g, 2, none⟩ ne3 vp', fun k hk hd => ?_, hl, h.ld⟩, ?_⟩
  · rcases hwh with e | ⟨j, h1, h2⟩
    · exact h.two k (by unfold ownF at hk ⊢; rw [← e]; exact hk) hd
    · have : k = j := Option.some.inj (hk.symm.trans h2)
      have := h.d.foot_lt k hd
      omega
  · have u2 : Upd a.F w a.F w' := Upd.of_grown hg (fun k hk => .inr (.inl hk))
    have u3 : Upd a.F w' a.F (w'.setCell ⟨a.g, 2, none⟩ vp') := Upd.of_set _ (.inl rfl) _
    refine (u2.trans u3).foot_of (fun j hj => ?_)
    rcases hj with hj | hj | hj
    · exact .inl (.inl hj)
    · rcases hwh with e | ⟨j', h1, h2⟩
      · exact .inl (.inr (.inl (by unfold ownF at hj ⊢; rw [← e]; exact hj)))
      · right
        have : j = j' := Option.some.inj (hj.symm.trans h2)
        omega
    · exact .inl (.inr (.inr hj))
theorem IsT.setD {w w' : World} {base : Nat} {a : TA} {s : TS} (h : IsT w base a s) {vd' : Value} {l' : List Int} (hr : KI.Row w' base vd' l') (hg : w.grownBy w' a.vd.ownBlock) (hwh : vd'.ownBlock = a.vd.ownBlock ∨ ∃ k, w.heap.size ≤ k ∧ vd'.ownBlock = some k) (hl : l'.length ≤ 1000) :
    w'.heap[a.g]? = some (.cells #[.int .i64 s.most, .int .i64 s.limit, a.vp, a.vd, .map (some a.mp)] 287 (0, 0)) ∧ IsT (w'.setCell ⟨a.g, 3, none⟩ vd') base { a with vd := vd' } { s with D := l' } ∧ Upd a.F w ({ a with vd := vd' } : TA).F (w'.setCell ⟨a.g, 3, none⟩ vd') := by
  have ne1 : a.vd.ownBlock ≠ some a.g := h.d.ne_blk h.blk (by decide)
  have hb' : w'.heap[a.g]? = some (.cells #[.int .i64 s.most, .int .i64 s.limit, a.vp, a.vd, .map (some a.mp)] 287 (0, 0)) := (hg.block a.g (blk_lt h.blk) (fun e => ne1 e.symm)).trans h.blk
  have ne2 := hr.ne_blk hb' (by decide)
  have d1 := h.p.grown_off hg (fun k hk e => h.two k e hk)
  have ne3 := d1.ne_blk hb' (by decide)
  refine ⟨hb', ⟨setc_blk (i := 3) hb' vd', d1.set_off ⟨a.g, 3, none⟩ ne3 vd', hr.set_off ⟨a.g, 3, none⟩ ne2 vd', fun k hk hd => ?_, h.lp, hl⟩, ?_⟩
  · rcases hwh with e | ⟨j, h1, h2⟩
    · exact h.two k hk (by unfold ownF at hd ⊢; rw [← e]; exact hd)
    · have : k = j := Option.some.inj (hd.symm.trans h2)
      have := h.p.foot_lt k hk
      omega
  · have u2 : Upd a.F w a.F w' := Upd.of_grown hg (fun k hk => .inr (.inr hk))
    have u3 : Upd a.F w' a.F (w'.setCell ⟨a.g, 3, none⟩ vd') := Upd.of_set _ (.inl rfl) _
    refine (u2.trans u3).foot_of (fun j hj => ?_)
    rcases hj with hj | hj | hj
    · exact .inl (.inl hj)
    · exact .inl (.inr (.inl hj))
    · rcases hwh with e | ⟨j', h1, h2⟩
      · exact .inl (.inr (.inr (by unfold ownF at hj ⊢; rw [← e]; exact hj)))
      · right
        have : j = j' := Option.some.inj (hj.symm.trans h2)
        omega
theorem info3 : (Tryz.prog.info? 3).map (fun i => (i.zero, i.size, i.bytes)) = some (some (.int .i64 0), 1, 8) := by kernel_rfl
set_option maxHeartbeats 4000000 in
/-- A key that isn't there is added, where there is room. -/
theorem addT (w : World) (base : Nat) (a : TA) (s : TS) (key : Int) (h : IsT w base a s) (hno : key ∉ s.P ++ s.D) (hroom : (s.P.length : Int) + s.D.length < s.most) (hlp : s.P.length < 1000) (hbase : base ≤ w.heap.size) :
    Calls Tryz.prog 152 #[PTR a.g, .int .i64 key] w fun e w' => ∃ vp', e = .returned (.int .i64 0) ∧ IsT w' base { a with vp := vp' } { s with P := s.P ++ [key] } ∧ Upd a.F w ({ a with vp := vp' } : TA).F w' := by
  have KH := Lib.hid (hasT w base a s key h)
  rw [decide_eq_false hno] at KH
  have KF := Lib.hid (fun w1 (h1 : IsT w1 base a s) => fullT w1 base a s h1)
  rw [decide_eq_false (by omega)] at KF
  have H := Lib.hid h
  have HB := Lib.hid (And.intro hlp hbase)
  have hn := nil194
  clear h hno hroom hlp hbase
  generalize decide (key ∈ s.D) = dd at *
  go_enter Tryz.func152, Tryz.ntmps152
  go_wp2_with fail
  refine KH.out.mono ?_
  rintro e w1 ⟨rfl, hb1⟩
  have HB1 := Lib.hid hb1
  clear hb1
  go_wp2_with fail
  refine (KF.out _ (H.out.bel HB1.out)).mono ?_
  rintro e w2 ⟨rfl, hb2⟩
  have H2 := Lib.hid (H.out.bel (HB1.out.trans hb2))
  have HB2 := Lib.hid (HB1.out.trans hb2)
  have c2 := blk_cell H2.out.blk 2
  clear hb2
  go_wp2_with (first | (at_builtin; refine Enc.Row.append2 (K := KI) (W := w2) (base := base) H2.out.p key rfl (.tmp 24) (.tmp 26) 284 rfl (.int .i64 0) 8 Tryz.underlying284 info3 rfl (by decide) rfl rfl (by have := HB.out.1; omega) (Nat.le_trans HB.out.2 HB2.out.size) ?_; intro v3 w3 ho hg hwh; obtain ⟨A3, c3, hv3, _, _⟩ := readsI ho; rw [show (s.P ++ [key]).length = s.P.length + 1 by simp] at hv3; subst hv3; have HX := Lib.hid (H2.out.setP ho hg hwh (by have := HB.out.1; simp; omega)); have f2 := blk_frozen HX.out.1 2; have q2 := blk_cell HX.out.1 2; clear ho hg hwh))
  go_ret
  exact ⟨_, rfl, HX.out.2.1, (Upd.of_bel HB2.out).trans HX.out.2.2⟩
end Go.Proofs.YtgpkpheejefiiaaGreatDoor
end
section
set_option linter.unusedVariables false
set_option linter.unusedSimpArgs false
namespace Go.Proofs.YtgpkpheejefiiaaGreatDoor
open Go.RowKit
open Q20 (step_append_runI wp_gen)
set_option maxRecDepth 100000
def fallS (s : TS) : TS := if s.limit < (s.D.length : Int) then { s with P := s.P ++ s.D.take 1, D := s.D.drop 1 } else s
set_option maxHeartbeats 4000000 in
theorem fallsT (w : World) (base : Nat) (a : TA) (s : TS) (h : IsT w base a s) (hlim : 0 ≤ s.limit) (hlp : s.P.length < 1000) (hbase : base ≤ w.heap.size) :
    Calls Tryz.prog 210 #[PTR a.g] w fun e w' => ∃ vp' vd', e = .returned (.tuple #[]) ∧ IsT w' base { a with vp := vp', vd := vd' } (fallS s) ∧ Upd a.F w ({ a with vp := vp', vd := vd' } : TA).F w' := by
  have H := Lib.hid h
  obtain ⟨B, d, e2, _, hR⟩ := readsI h.d
  have hb := h.blk
  rw [e2] at hb
  have c1 := blk_cell hb 1
  have c3 := blk_cell hb 3
  have hm := mixedE
  by_cases hgt : s.limit < (s.D.length : Int)
  · have hS : fallS s = { s with P := s.P ++ s.D.take 1, D := s.D.drop 1 } := by unfold fallS; rw [if_pos hgt]
    rw [hS]
    have hd0 : 0 < s.D.length := by omega
    obtain ⟨gd, rfl, _, hc⟩ := hR hd0
    have x0 := hc 0 hd0
    have d1 : decide (s.limit < (s.D.length : Int)) = true := decide_eq_true hgt
    have d2 : decide ((s.D.length : Int) > s.limit) = true := decide_eq_true hgt
    have hnth : KI.nth s.D 0 :: s.D.drop 1 = s.D := by
      cases hD : s.D with
      | nil => rw [hD] at hd0; simp at hd0
      | cons y l => simp [Enc.nth]
    have HN := Lib.hid (And.intro hnth (And.intro hlp (And.intro hbase e2)))
    have HD0 := Lib.hid hd0
    have hii : (0 : Int) < (s.D.length : Int) := by omega
    have c2 := blk_cell h.blk 2
    clear hS hR hc hgt hnth h e2 hlp hbase
    generalize KI.nth s.D 0 = y at *
    go_enter Tryz.func210, Tryz.ntmps210
    go_wp2_with fail
    go_region
    go_wp2_with fail
    refine wp_gen (fun W => Bel w W) (Bel.drew w) ?_
    intro W1 hb1
    have H1 := Lib.hid (H.out.bel hb1)
    have HB1 := Lib.hid hb1
    have c2 := blk_cell H1.out.blk 2
    have c3 : W1.cell? ⟨a.g, 3, none⟩ = some (.slice (some ⟨gd, 0, none⟩) s.D.length d) := blk_cell (by have := H1.out.blk; rw [HN.out.2.2.2] at this; exact this) 3
    have x0 : W1.cell? ⟨gd, 0, none⟩ = some (.int .i64 y) := cellB hb1 x0
    have HAP : Hid (∃ v3 w3, (∀ ty, (Builtin.append_ #[284, 284] ty #[a.vp, .slice (some ⟨W1.heap.size, 0, none⟩) 1 1]).run Tryz.prog (W1.alloc (.cells #[.int .i64 y] 3)).drew = .ok v3 w3) ∧ IsT (w3.setCell ⟨a.g, 2, none⟩ v3) base { a with vp := v3 } { s with P := s.P ++ [y] } ∧ Upd a.F W1 ({ a with vp := v3 } : TA).F (w3.setCell ⟨a.g, 2, none⟩ v3) ∧ w3.cell? ⟨a.g, 2, none⟩ = some a.vp ∧ w3.frozen? ⟨a.g, 2, none⟩ = false ∧ ∃ A c, v3 = .slice A (s.P.length + 1) c) := Lib.hid (by
      have hB2 := hb1.trans (Bel.drew W1)
      have H2 := H.out.bel hB2
      obtain ⟨v3, w3, r1, r2, r3, r4⟩ := Enc.Row.append_at (K := KI) (W := W1.drew) H2.p y 284 284 (.int .i64 0) 8 Tryz.underlying284 info3 rfl (by decide) (by have := HN.out.2.1; omega) (Nat.le_trans HN.out.2.2.1 hB2.size)
      obtain ⟨q1, q2, q3⟩ := H2.setP r2 r3 r4 (by have := HN.out.2.1; simp; omega)
      obtain ⟨A, c, e, _, _⟩ := readsI r2
      rw [show (s.P ++ [y]).length = s.P.length + 1 by simp] at e
      refine ⟨v3, w3, fun ty => ?_, q2, ?_, blk_cell q1 2, blk_frozen q1 2, A, c, e⟩
      · exact r1
      · exact (Upd.of_bel (Bel.drew W1)).trans q3)
    obtain ⟨v3, w3, hap, hT3, hU3, k2, f2, A3, c3', rfl⟩ := HAP.out
    have HAP2 := Lib.hid hap
    have HT3 := Lib.hid (And.intro hT3 hU3)
    clear hap hT3 hU3 HAP c1 hb
    have a2 : ∀ o, (W1.alloc o).cell? ⟨a.g, 2, none⟩ = some a.vp := fun o => blk_cell (blk_below H1.out.blk (Bel.alloc W1 o)) 2
    go_cut [24] (fun s24 wx => wx = w3.setCell ⟨a.g, 2, none⟩ (.slice A3 (s.P.length + 1) c3'))
    case first =>
      go_region_law_o (refine step_append_runI rfl (.tmp 16) (.tmp 23) 284 284 rfl _ _ (by simp [Act.eval, Act.put]) (by simp [Act.eval, Act.put]) (HAP2.out _) ?_)
      all_goals
        go_wp2_with fail
        go_meet
        rfl
    case rest =>
      subst hcut
      have c7 : (w3.setCell ⟨a.g, 2, none⟩ (.slice A3 (s.P.length + 1) c3')).cell? ⟨a.g, 3, none⟩ = some a.vd := blk_cell HT3.out.1.blk 3
      have KD : Hid (∀ w1, KI.Row w1 base a.vd s.D → Calls Tryz.prog 259 #[a.vd, .int .i64 0, .int .i64 1] w1 fun e w' => ∃ v', e = .returned v' ∧ KI.Row w' base v' (s.D.drop 1) ∧ w1.grownBy w' a.vd.ownBlock ∧ v'.ownBlock = a.vd.ownBlock) := Lib.hid (fun w1 h1 => by
        have := delI w1 base a.vd s.D h1 0 HD0.out
        simpa using this)
      clear c2 c3 x0 a2 k2 f2
      go_wp2_with fail
      refine (KD.out _ HT3.out.1.d).mono ?_
      rintro e w4 ⟨v4, rfl, h1, h2, h3⟩
      obtain ⟨A4, c4, hv4, _, _⟩ := readsI h1
      rw [show (List.drop 1 s.D).length = s.D.length - 1 by simp] at hv4
      subst hv4
      have HX := Lib.hid (HT3.out.1.setD h1 h2 (.inl h3) (by have := HT3.out.1.ld; simp at this ⊢; omega))
      have f5 := blk_frozen HX.out.1 3
      have q5 := blk_cell HX.out.1 3
      clear h1 h2 h3 c7
      go_wp2_with fail
      go_end0
      have ht : s.D.take 1 = [y] := by
        have := HN.out.1
        rw [← this]
        rfl
      rw [ht]
      refine ⟨.slice A3 (s.P.length + 1) c3', .slice A4 (s.D.length - 1) c4, rfl, ?_, ?_⟩
      · exact HX.out.2.1
      · exact ((Upd.of_bel HB1.out).trans HT3.out.2).trans HX.out.2.2
  · have hS : fallS s = s := by unfold fallS; rw [if_neg hgt]
    rw [hS]
    have d1 : decide (s.limit < (s.D.length : Int)) = false := decide_eq_false hgt
    have d2 : decide ((s.D.length : Int) > s.limit) = false := decide_eq_false hgt
    have d3 : ¬ ((s.D.length : Int) > s.limit) := hgt
    clear hS hR h e2 hlp hbase hb
    go_enter Tryz.func210, Tryz.ntmps210
    go_wp2_with fail
    go_region
    go_wp2_with fail
    go_end0
    exact ⟨a.vp, a.vd, rfl, H.out.bel (Bel.drew w), Upd.of_bel (Bel.drew w)⟩
end Go.Proofs.YtgpkpheejefiiaaGreatDoor
end
section
set_option linter.unusedVariables false
set_option linter.unusedSimpArgs false
namespace Go.Proofs.YtgpkpheejefiiaaGreatDoor
open Go.RowKit
set_option maxRecDepth 100000
theorem outL_len (l : List Int) (key : Int) : (outL l key).length ≤ l.length := by
  unfold outL
  split
  · rename_i h
    have := List.idxOf_lt_length_iff.2 h
    simp; omega
  · exact Nat.le_refl _
def touchS (s : TS) (key : Int) : TS := if key ∈ s.P ∨ key ∈ s.D then fallS { s with P := outL s.P key, D := outL s.D key ++ [key] } else s
set_option maxHeartbeats 4000000 in
theorem touchT (w : World) (base : Nat) (a : TA) (s : TS) (key : Int) (h : IsT w base a s) (hlim : 0 ≤ s.limit) (hlp : s.P.length < 1000) (hld : s.D.length < 1000) (hbase : base ≤ w.heap.size) :
    Calls Tryz.prog 150 #[PTR a.g, .int .i64 key] w fun e w' => ∃ vp' vd' r, e = .returned (.bool r) ∧ IsT w' base { a with vp := vp', vd := vd' } (touchS s key) ∧ Upd a.F w ({ a with vp := vp', vd := vd' } : TA).F w' := by
  have KP := Lib.hid (outI w base a.vp s.P key h.p (by omega))
  have KD := Lib.hid (fun w1 (h1 : KI.Row w1 base a.vd s.D) => outI w1 base a.vd s.D key h1 (by omega))
  have H := Lib.hid h
  have HN := Lib.hid (And.intro hlim (And.intro hlp (And.intro hld hbase)))
  have hn := nil194
  have hm := mixedE
  have c2 := blk_cell h.blk 2
  obtain ⟨b5, hb5⟩ : ∃ b, b = decide (key ∈ s.P) := ⟨_, rfl⟩
  obtain ⟨b6, hb6⟩ : ∃ b, b = decide (key ∈ s.D) := ⟨_, rfl⟩
  rw [← hb5] at KP
  rw [← hb6] at KD
  obtain ⟨s', hs'⟩ : ∃ s', s' = touchS s key := ⟨_, rfl⟩
  rw [← hs']
  have HS := Lib.hid (And.intro hs' (And.intro hb5 hb6))
  clear h hlim hlp hld hbase hb5 hb6 hs'
  go_enter Tryz.func150, Tryz.ntmps150
  go_wp2_with fail
  refine KP.out.mono ?_
  rintro e w1 ⟨v1, rfl, p1, p2, p3⟩
  obtain ⟨A1, cap1, hv1, _, _⟩ := readsI p1
  generalize (outL s.P key).length = n1 at hv1
  subst hv1
  have H1 := Lib.hid (H.out.setP p1 p2 (.inl p3) (by have := outL_len s.P key; have := HN.out.2.1; omega))
  have f1 := blk_frozen H1.out.1 2
  have q1 := blk_cell H1.out.1 2
  have c3 : (w1.setCell ⟨a.g, 2, none⟩ (.slice A1 n1 cap1)).cell? ⟨a.g, 3, none⟩ = some a.vd := blk_cell H1.out.2.1.blk 3
  clear p1 p2 p3 c2
  go_wp2_with fail
  refine (KD.out _ H1.out.2.1.d).mono ?_
  rintro e w2 ⟨v2, rfl, p1, p2, p3⟩
  obtain ⟨A2, cap2, hv2, _, _⟩ := readsI p1
  have hn2 : ∃ n2, n2 = (outL s.D key).length := ⟨_, rfl⟩
  obtain ⟨n2, hn2⟩ := hn2
  rw [← hn2] at hv2
  have HN2 := Lib.hid hn2
  clear hn2
  subst hv2
  have H2 := Lib.hid (H1.out.2.1.setD p1 p2 (.inl p3) (by have := outL_len s.D key; have := HN.out.2.2.1; simp; omega))
  have f2 := blk_frozen H2.out.1 3
  have q2 := blk_cell H2.out.1 3
  clear p1 p2 p3 c3 f1 q1
  have c3 : (w2.setCell ⟨a.g, 3, none⟩ (.slice A2 n2 cap2)).cell? ⟨a.g, 3, none⟩ = some (.slice A2 n2 cap2) := blk_cell H2.out.2.1.blk 3
  by_cases hin : b5 = true ∨ b6 = true
  · have HT := Lib.hid (And.intro H2.out.2.1 ((H1.out.2.2).trans H2.out.2.2))
    have hin' := Lib.hid hin
    have HTd : Hid (KI.Row (w2.setCell ⟨a.g, 3, none⟩ (.slice A2 n2 cap2)) base (.slice A2 n2 cap2) (outL s.D key)) := Lib.hid H2.out.2.1.d
    clear hin
    cases b5 <;> cases b6
    · exact absurd hin'.out (by simp)
    all_goals
      go_wp2_with (first | (at_builtin; go_loud (refine Enc.Row.append2 (K := KI) (base := base) HTd.out key rfl (.tmp 43) (.tmp 45) 284 rfl (.int .i64 0) 8 Tryz.underlying284 info3 rfl (by decide) rfl (by simp [Act.eval]) (by have := outL_len s.D key; have := HN.out.2.2.1; simp; omega) (Nat.le_trans HN.out.2.2.2 HT.out.2.size) ?_; intro v3 w3 ho hg hwh; obtain ⟨A3, c3', hv3, _, _⟩ := readsI ho; rw [show (outL s.D key ++ [key]).length = n2 + 1 by rw [HN2.out]; simp] at hv3; subst hv3; have HX := Lib.hid (HT.out.1.setD ho hg hwh (by have := outL_len s.D key; have := HN.out.2.2.1; simp; omega)); have f5 := blk_frozen HX.out.1 3; have q5 := blk_cell HX.out.1 3; clear ho hg hwh)) | (go_at_call 210; go_loud (have KF := Lib.hid (fallsT _ base _ _ HX.out.2.1 HN.out.1 (by have := outL_len s.P key; have := HN.out.2.1; show (outL s.P key).length < 1000; omega) (Nat.le_trans HN.out.2.2.2 (Nat.le_trans HT.out.2.size HX.out.2.2.size))); refine KF.out.mono ?_; rintro e w4 ⟨v4, v5, rfl, h1, h2⟩; have HY := Lib.hid (And.intro h1 h2); clear h1 h2)))
      go_ret
      obtain ⟨e1, e2, e3⟩ := HS.out
      refine ⟨v4, v5, true, rfl, ?_, (HT.out.2.trans HX.out.2.2).trans HY.out.2⟩
      rw [e1]
      unfold touchS
      rw [if_pos (by first | exact .inl (by simpa using e2.symm) | exact .inr (by simpa using e3.symm))]
      exact HY.out.1
  · obtain ⟨rfl, rfl⟩ : b5 = false ∧ b6 = false := by simpa using hin
    clear hin
    go_wp2_with fail
    go_ret
    obtain ⟨e1, e2, e3⟩ := HS.out
    have n1 : key ∉ s.P := by simpa using e2.symm
    have n2 : key ∉ s.D := by simpa using e3.symm
    refine ⟨_, _, false, rfl, ?_, (H1.out.2.2).trans H2.out.2.2⟩
    have := H2.out.2.1
    rw [e1]
    unfold touchS
    rw [if_neg (by simp [n1, n2])]
    unfold outL at this
    rw [if_neg n1, if_neg n2] at this
    exact this
end Go.Proofs.YtgpkpheejefiiaaGreatDoor
end
