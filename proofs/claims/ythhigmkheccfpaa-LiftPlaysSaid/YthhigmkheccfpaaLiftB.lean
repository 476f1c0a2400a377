/- Lift: a key is dropped; who is late, who is chosen. -/
import Derived.Test.YthhigmkheccfpaaLiftA
set_option linter.unusedVariables false
set_option linter.unusedSimpArgs false
namespace Go.Proofs.Ythhigmkheccfpaa
open Go.RowKit
def cut (l : List El) (i : Nat) : List El := l.take i ++ l.drop (i + 1)
theorem cut_len {l : List El} {i : Nat} (h : i < l.length) : (cut l i).length = l.length - 1 := by unfold cut; simp; omega
def dropS (s : LS) (key : Int) : LS := if has s key = true then { s with rs := cut s.rs (pos s.rs key) } else s
theorem grown_blk {w wa : World} {base g : Nat} {v : Value} {l : List El} {cs : Array Value} (hg : w.grownBy wa v.ownBlock) (hr : Row w base v l) (h : w.heap[g]? = some (.cells cs 49 (0, 0))) : wa.heap[g]? = some (.cells cs 49 (0, 0)) :=
  (hg.block g (blk_lt h) (fun e => by
    obtain ⟨_, cs', h2⟩ := hr.blk e.symm
    rw [h] at h2
    simp at h2)).trans h
set_option maxHeartbeats 8000000 in
set_option maxRecDepth 100000 in
theorem dropL (w : World) (base g : Nat) (v : Value) (s : LS) (key : Int) (hs : Rising s.rs) (hlen : s.rs.length ≤ 256) (h : IsL w base g v s) :
    Calls Try.prog 14 #[PT g, .int .i64 key] w fun e w' => ∃ v', e = .returned (.bool (has s key)) ∧ IsL w' base g v' (dropS s key) ∧ Kp base g w w' := by
  have K := Lib.hid (findP w base g v s key hs (by omega) h)
  change Hid (Calls Try.prog 24 #[PT g, .int .i64 key] w fun e w' => e = .returned (.tuple #[.int .i64 (pos s.rs key), .bool (has s key)]) ∧ Bel w w') at K
  have H := Lib.hid h
  have hn := nil23
  have hin : has s key = true → pos s.rs key < s.rs.length := fun h => by unfold has isAt at h; simp at h; exact h.1
  clear h hs
  cases hh : has s key
  · have hS : dropS s key = s := by unfold dropS; rw [hh]; simp
    rw [hh] at K
    rw [hS]
    clear hin hh hS
    go_enter Try.func14, Try.ntmps14
    go_wp2_with fail
    refine K.out.mono ?_
    rintro e w1 ⟨rfl, hb1⟩
    have HF := Lib.hid (And.intro (H.out.bel hb1) hb1)
    clear hb1 K H
    go_wp2_with fail
    go_ret
    first | exact ⟨v, rfl, HF.out.1, Kp.of_bel HF.out.2⟩ | exact ⟨rfl, ⟨v, HF.out.1⟩, Kp.of_bel HF.out.2⟩
  · have hS : dropS s key = { s with rs := cut s.rs (pos s.rs key) } := by unfold dropS; rw [if_pos hh]
    have hi := hin hh
    rw [hh] at K
    rw [hS]
    clear hin hh hS
    obtain ⟨A, c, rfl⟩ := H.out.row.len
    have HD := Lib.hid (fun w1 (hr : Row w1 base (.slice A s.rs.length c) s.rs) => delRow w1 base (pos s.rs key) _ s.rs hr hi)
    have hcl := cut_len hi
    generalize hrs : s.rs.length = n at *
    generalize hpp : pos s.rs key = i at *
    have hw1 : IntKind.i64.wrap ((i : Int) + 1) = (i : Int) + 1 := w64i (by omega) (by omega)
    go_enter Try.func14, Try.ntmps14
    go_wp2_with fail
    refine K.out.mono ?_
    rintro e w1 ⟨rfl, hb1⟩
    have H1 := Lib.hid (H.out.bel hb1)
    have HB1 := Lib.hid hb1
    have c2 := blk_cell H1.out.blk 2
    clear hb1 K H
    go_wp2_with fail
    refine (HD.out w1 H1.out.row).mono ?_
    rintro e w2 ⟨v', rfl, hr2, hg2⟩
    obtain ⟨A', c', rfl⟩ : ∃ A' c', v' = .slice A' (n - 1) c' := by
      obtain ⟨A', c', h⟩ := hr2.len
      exact ⟨A', c', by rw [h]; congr 1⟩
    have hb2 := grown_blk hg2 H1.out.row H1.out.blk
    have c5 := blk_cell hb2 2
    have f5 := blk_frozen hb2 2
    have HB2 := Lib.hid hb2
    have HR2 := Lib.hid hr2
    have HK2 := Lib.hid ((Kp.of_bel HB1.out).trans (Kp.of_grown hg2 H1.out.row) : Kp base g w w2)
    clear hb2 hr2 hg2 H1 HB1 c2 HD
    go_wp2_with fail
    go_ret
    have hfin : IsL (w2.setCell ⟨g, 2, none⟩ (.slice A' (n - 1) c')) base g (.slice A' (n - 1) c') { s with rs := cut s.rs i } := ⟨set2 HB2.out _, HR2.out.setG HB2.out ⟨g, 2, none⟩ rfl _⟩
    have hk := HK2.out.trans (Kp.of_set ⟨g, 2, none⟩ rfl (.slice A' (n - 1) c') : Kp base g w2 _)
    first | exact ⟨_, rfl, hfin, hk⟩ | exact ⟨rfl, ⟨_, hfin⟩, hk⟩
theorem dropN (w : World) (key : Int) : Calls Try.prog 14 #[.pointer none, .int .i64 key] w fun e w' => e = .returned (.bool false) ∧ Bel w w' := by
  have hn := nil23
  go_enter Try.func14, Try.ntmps14
  go_wp2_with fail
  go_ret
  exact ⟨rfl, Bel.refl _⟩
theorem addN (w : World) (key : Int) : Calls Try.prog 11 #[.pointer none, .int .i64 key] w fun e w' => e = .returned (.int .i64 1) ∧ Bel w w' := by
  have hn := nil23
  go_enter Try.func11, Try.ntmps11
  go_wp2_with fail
  go_ret
  exact ⟨rfl, Bel.refl _⟩
/-! ### who is late -/
def lateStep (s : LS) (b : Nat × Bool) (i : Nat) : Nat × Bool := if s.age ≤ (nth s.rs i).f1 ∧ (b.2 = false ∨ (nth s.rs i).f2 < (nth s.rs b.1).f2) then (i, true) else b
def lateK (s : LS) : Nat → Nat × Bool
  | 0 => (0, false)
  | k + 1 => lateStep s (lateK s k) k
theorem lateK_lt (s : LS) : ∀ k, (lateK s k).2 = true → (lateK s k).1 < k := by
  intro k
  induction k with
  | zero => intro h; simp [lateK] at h
  | succ k ih =>
    intro h
    unfold lateK lateStep at h ⊢
    split
    · simp
    · rename_i hc
      rw [if_neg hc] at h
      have := ih h; omega
theorem lateK_zero (s : LS) : ∀ k, (lateK s k).2 = false → (lateK s k).1 = 0 := by
  intro k
  induction k with
  | zero => intro h; rfl
  | succ k ih =>
    intro h
    unfold lateK lateStep at h ⊢
    split
    · rename_i hc; rw [if_pos hc] at h; simp at h
    · rename_i hc; rw [if_neg hc] at h; exact ih h
set_option maxHeartbeats 8000000 in
set_option maxRecDepth 100000 in
theorem lateL (w : World) (base g : Nat) (v : Value) (s : LS) (hlen : s.rs.length ≤ 256) (h : IsL w base g v s) :
    Calls Try.prog 28 #[PT g] w fun e w' => e = .returned (.tuple #[.int .i64 (lateK s s.rs.length).1, .bool (lateK s s.rs.length).2]) ∧ Bel w w' := by
  obtain ⟨A, c, rfl⟩ := h.row.len
  have H := Lib.hid h
  have HC : Hid (RC w A s.rs) := Lib.hid (by
    obtain ⟨A', c', e, _, hR⟩ := h.row.reads
    simp only [Value.slice.injEq] at e
    rw [e.1]; exact hR)
  have c2 := blk_cell h.blk 2
  have hlt0 : ∀ k, (lateK s k).2 = true → (lateK s k).1 < k := lateK_lt s
  have HE : Hid (∀ r, r = lateK s s.rs.length → r = lateK s s.rs.length) := Lib.hid (fun r h => h)
  clear h
  obtain ⟨fin, hfin⟩ : ∃ fin, fin = lateK s s.rs.length := ⟨_, rfl⟩
  rw [← hfin]
  have HFi := Lib.hid hfin
  clear hfin
  generalize hrs : s.rs.length = n at *
  go_enter Try.func28, Try.ntmps28
  go_wp2_with fail
  go_loopw [4, 5, 13] (fun v4 v5 v13 wr => ∃ (k : Nat), v13 = .int .i64 k ∧ k ≤ n ∧ v4 = .int .i64 (lateK s k).1 ∧ v5 = .bool (lateK s k).2 ∧ Hid (Bel w wr)) (fun _ _ v13 _ => n - (intOf v13).toNat)
  case atStart => exact ⟨0, rfl, by omega, rfl, rfl, Lib.hid (Bel.refl _)⟩
  case round =>
    obtain ⟨wo, rfl⟩ : ∃ wo : World, wo = wr := ⟨_, rfl⟩
    obtain ⟨k, rfl, hk, rfl, rfl, HI⟩ := hrel
    by_cases hlt : k < n
    · have H1 := H.out.bel HI.out
      obtain ⟨ad, rfl, x0, x1, x2⟩ := (HC.out.below HI.out) k (by omega)
      have hlk := hlt0 k
      have hbest : ∀ (_ : (lateK s k).2 = true), wo.cell? ⟨(ad.add ((lateK s k).1 * 3)).block, (ad.add ((lateK s k).1 * 3)).off + 2, none⟩ = some (.int .i64 (nth s.rs (lateK s k).1).f2) := fun hb => by
        obtain ⟨ad', e, _, _, y2⟩ := (HC.out.below HI.out) (lateK s k).1 (by have := hlk hb; omega)
        obtain rfl : ad = ad' := by simpa using e
        exact y2
      have hz := lateK_zero s k
      have HY : Hid (∀ b, lateStep s b k = if s.age ≤ (nth s.rs k).f1 ∧ (b.2 = false ∨ (nth s.rs k).f2 < (nth s.rs b.1).f2) then (k, true) else b) := Lib.hid (fun b => rfl)
      generalize hyy : nth s.rs k = y at *
      obtain ⟨y0, y1, y2⟩ := y
      simp only [] at x0 x1 x2 HY
      go_wp2_with fail
      have c0 := blk_cell H1.blk 0
      refine wp_gen (fun W => Bel wo W ∧ W.heap[wo.heap.size]? = some (.cells #[.int .i64 y0, .int .i64 y1, .int .i64 y2] 51 (0, 0))) ⟨Bel.alloc _ _, heap_alloc_new _ _⟩ ?_
      rintro W2 ⟨hB2, q0⟩
      have HB2 := Lib.hid (HI.out.trans hB2)
      have c0 := cellB hB2 c0
      have c2' := cellB hB2 (blk_cell H1.blk 2)
      have hbest2 := fun h => cellB hB2 (hbest h)
      clear HI hB2 x0 x1 x2 hbest H1 c2
      have HSK : Hid (lateK s (k + 1) = lateStep s (lateK s k) k) := Lib.hid rfl
      generalize lateK s k = bk at *
      obtain ⟨b, fd⟩ := bk
      simp only [] at hlk hbest2 hz
      by_cases hla : s.age ≤ y1
      · have d1 : decide (s.age ≤ y1) = true := by simpa using hla
        have d1' : decide (y1 ≥ s.age) = true := by simpa using hla
        cases fd
        · have HN : Hid (lateK s (k + 1) = (k, true)) := Lib.hid (by rw [HSK.out, HY.out, if_pos ⟨hla, .inl rfl⟩])
          clear HSK HY hbest2 hlk hz
          have hq0 := blk_cell q0 0
          have hq1 := blk_cell q0 1
          have hq2 := blk_cell q0 2
          clear q0
          go_quiet (fail)
          have hfin : Hid (Bel w (W2.drewN nq)) := Lib.hid (HB2.out.trans (Bel.drewN W2 nq))
          clear hq0 hq1 hq2 HB2 c0 c2'
          generalize W2.drewN nq = W3 at *
          go_wp2_with fail
          exact ⟨⟨k + 1, by congr 1, by omega, by rw [HN.out], by rw [HN.out], hfin⟩, by simp [intOf]; omega⟩
        · have hbc := hbest2 rfl
          have hbk := hlk rfl
          have hbn : b < n := by omega
          have hbn' : (b : Int) < (n : Int) := by omega
          clear hbest2 hlk hz
          by_cases hlt2 : y2 < (nth s.rs b).f2
          · have HN : Hid (lateK s (k + 1) = (k, true)) := Lib.hid (by rw [HSK.out, HY.out, if_pos ⟨hla, .inr hlt2⟩])
            have d2 : decide (y2 < (nth s.rs b).f2) = true := by simpa using hlt2
            clear HSK HY
            have hq0 := blk_cell q0 0
            have hq1 := blk_cell q0 1
            have hq2 := blk_cell q0 2
            clear q0
            go_quiet (fail)
            have hfin : Hid (Bel w (W2.drewN nq)) := Lib.hid (HB2.out.trans (Bel.drewN W2 nq))
            clear hq0 hq1 hq2 HB2 c0 c2'
            generalize W2.drewN nq = W3 at *
            go_wp2_with fail
            exact ⟨⟨k + 1, by congr 1, by omega, by rw [HN.out], by rw [HN.out], hfin⟩, by simp [intOf]; omega⟩
          · have HN : Hid (lateK s (k + 1) = (b, true)) := Lib.hid (by rw [HSK.out, HY.out, if_neg (by rintro ⟨_, h | h⟩ <;> first | (simp at h; done) | exact hlt2 h)])
            have d2 : decide (y2 < (nth s.rs b).f2) = false := by simpa using hlt2
            clear HSK HY
            have hq0 := blk_cell q0 0
            have hq1 := blk_cell q0 1
            have hq2 := blk_cell q0 2
            clear q0
            go_quiet (fail)
            have hfin : Hid (Bel w (W2.drewN nq)) := Lib.hid (HB2.out.trans (Bel.drewN W2 nq))
            clear hq0 hq1 hq2 HB2 c0 c2'
            generalize W2.drewN nq = W3 at *
            go_wp2_with fail
            exact ⟨⟨k + 1, by congr 1, by omega, by rw [HN.out], by rw [HN.out], hfin⟩, by simp [intOf]; omega⟩
      · have d1 : decide (s.age ≤ y1) = false := by simpa using hla
        have d1' : decide (y1 ≥ s.age) = false := by simpa using hla
        have HN : Hid (lateK s (k + 1) = (b, fd)) := Lib.hid (by rw [HSK.out, HY.out, if_neg (fun h => hla h.1)])
        clear HSK HY hbest2 hlk hz
        have hq0 := blk_cell q0 0
        have hq1 := blk_cell q0 1
        have hq2 := blk_cell q0 2
        clear q0
        go_quiet (fail)
        have hfin : Hid (Bel w (W2.drewN nq)) := Lib.hid (HB2.out.trans (Bel.drewN W2 nq))
        clear hq0 hq1 hq2 HB2 c0 c2'
        generalize W2.drewN nq = W3 at *
        go_wp2_with fail
        exact ⟨⟨k + 1, by congr 1, by omega, by rw [HN.out], by rw [HN.out], hfin⟩, by simp [intOf]; omega⟩
    · have hkn : k = n := by omega
      subst hkn
      have hf1 : (lateK s k).1 = fin.1 := by rw [HFi.out]
      have hf2 : (lateK s k).2 = fin.2 := by rw [HFi.out]
      have hbw := HI.out
      rw [hf1, hf2]
      clear HI hf1 hf2 HC H
      go_wp2_with fail
      go_ret2
      exact ⟨rfl, hbw⟩
end Go.Proofs.Ythhigmkheccfpaa
