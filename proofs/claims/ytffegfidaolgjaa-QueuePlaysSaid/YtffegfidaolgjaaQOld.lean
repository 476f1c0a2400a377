/- Queue: its oldest. -/
import Derived.Test.YtffegfidaolgjaaQP
set_option linter.unusedVariables false
set_option linter.unusedSimpArgs false
namespace Go.Proofs.Ytffegfidaolgjaa
open Go.RowKit
theorem isNaN2 (a : Int) (w : World) : Calls Try.prog 45 #[.int .i64 a] w fun e w' => e = .returned (.bool false) ∧ w = w' := by
  go_enter Try.func45, Try.ntmps45
  go_wp2_with fail
  go_ret
  exact ⟨by simp, rfl⟩
set_option maxHeartbeats 1000000 in
theorem compare2 (a b : Int) (w : World) : Calls Try.prog 33 #[.int .i64 a, .int .i64 b] w fun e w' => e = .returned (.int .i64 (cmpF a b)) ∧ w = w' := by
  have K := Lib.hid isNaN2
  unfold cmpF
  by_cases h1 : a < b
  · rw [if_pos h1]
    go_enter Try.func33, Try.ntmps33
    go_wp2_with fail
    refine (K.out _ _).mono ?_
    rintro e w1 ⟨rfl, rfl⟩
    go_wp2_with fail
    refine (K.out _ _).mono ?_
    rintro e w1 ⟨rfl, rfl⟩
    go_wp2_with fail
    go_ret
    exact ⟨rfl, rfl⟩
  · rw [if_neg h1]
    by_cases h2 : b < a
    · rw [if_pos h2]
      go_enter Try.func33, Try.ntmps33
      go_wp2_with fail
      refine (K.out _ _).mono ?_
      rintro e w1 ⟨rfl, rfl⟩
      go_wp2_with fail
      refine (K.out _ _).mono ?_
      rintro e w1 ⟨rfl, rfl⟩
      go_wp2_with fail
      go_ret
      exact ⟨rfl, rfl⟩
    · rw [if_neg h2]
      go_enter Try.func33, Try.ntmps33
      go_wp2_with fail
      refine (K.out _ _).mono ?_
      rintro e w1 ⟨rfl, rfl⟩
      go_wp2_with fail
      refine (K.out _ _).mono ?_
      rintro e w1 ⟨rfl, rfl⟩
      go_wp2_with fail
      go_ret
      exact ⟨rfl, rfl⟩
set_option maxHeartbeats 1000000 in
theorem closure2 (x y : El) (w : World) : Calls Try.prog 32 #[.agg #[.int .i64 x.f0, .string x.f1, .int .i64 x.f2], .agg #[.int .i64 y.f0, .string y.f1, .int .i64 y.f2]] w fun e w' => e = .returned (.int .i64 (cmpF x.f2 y.f2)) ∧ Bel w w' := by
  obtain ⟨a, b, c⟩ := x
  obtain ⟨a', b', c'⟩ := y
  have K := Lib.hid (compare2 c c')
  go_enter Try.func32, Try.ntmps32
  go_wp2_with fail
  refine (K.out _).mono ?_
  rintro e w1 ⟨rfl, rfl⟩
  go_wp2_with fail
  go_ret
  exact ⟨rfl, (Bel.alloc _ _).trans (Bel.alloc _ _)⟩
/-- The cells of a row that isn't empty. -/
def RCs (w : World) (ad : Addr) (l : List El) (i : Nat) : Prop := w.cell? (ad.add (i * 3)) = some (.int .i64 (nth l i).f0) ∧ w.cell? ⟨(ad.add (i * 3)).block, (ad.add (i * 3)).off + 1, none⟩ = some (.string (nth l i).f1) ∧ w.cell? ⟨(ad.add (i * 3)).block, (ad.add (i * 3)).off + 2, none⟩ = some (.int .i64 (nth l i).f2)
theorem RC.some {w : World} {A : Option Addr} {l : List El} (h : RC w A l) (h0 : 0 < l.length) : ∃ ad, A = some ad ∧ ∀ wx, Bel w wx → ∀ i, i < l.length → RCs wx ad l i := by
  obtain ⟨ad, rfl, _⟩ := h 0 h0
  refine ⟨ad, rfl, fun wx hb i hi => ?_⟩
  obtain ⟨ad', e, h1⟩ := (h.below hb) i hi
  obtain rfl := Option.some.inj e
  exact h1
/-- Item k is the oldest of the first n. -/
def OldOf (l : List El) (n k : Nat) : Prop := k < n ∧ ∀ j : Nat, j < n → (nth l k).f2 ≤ (nth l j).f2
set_option maxHeartbeats 8000000 in
set_option maxRecDepth 100000 in
theorem minF (A : Option Addr) (c : Nat) (l : List El) (w : World) (h0 : 0 < l.length) (hlen : l.length ≤ 256) (hC : RC w A l) :
    Calls Try.prog 31 #[.slice A l.length c, .func (.func 32) #[] #[]] w fun e w' => ∃ k, OldOf l l.length k ∧ e = .returned (elV (nth l k)) ∧ Bel w w' := by
  have KC := Lib.hid (fun x y wx => closure2 x y wx)
  obtain ⟨ad, rfl, hR⟩ := hC.some h0
  have HC := Lib.hid hR
  have hv : elV = fun x : El => .agg #[.int .i64 x.f0, .string x.f1, .int .i64 x.f2] := rfl
  rw [hv]
  clear hC hv hR
  have c0 := fun o => (HC.out (w.alloc o) (Bel.alloc w o) 0 h0).1
  have c1 := fun o => (HC.out (w.alloc o) (Bel.alloc w o) 0 h0).2.1
  have c2 := fun o => (HC.out (w.alloc o) (Bel.alloc w o) 0 h0).2.2
  have had : ad.add 0 = ad := by cases ad; simp [Addr.add]
  rw [Nat.zero_mul, had] at c0 c1 c2
  clear had
  generalize hn : l.length = n at *
  have HN := Lib.hid hn
  clear hn
  have hd1 : decide ((n : Int) < 1) = false := by simp; omega
  go_enter Try.func31, Try.ntmps31
  go_wp2_with fail
  refine wp_gen (fun W => Bel w W ∧ W.heap[w.heap.size]? = some (.cells #[.int .i64 0, .string ⟨#[]⟩, .int .i64 0] 33 (0, 0)) ∧ W.heap[w.heap.size + 1]? = some (.cells #[.int .i64 (nth l 0).f0, .string (nth l 0).f1, .int .i64 (nth l 0).f2] 33 (0, 0))) ⟨(Bel.alloc _ _).trans (Bel.alloc _ _), blk_below (heap_alloc_new _ _) (Bel.alloc _ _), by have := heap_alloc_new (w.alloc (.cells #[.int .i64 0, .string ⟨#[]⟩, .int .i64 0] 33 (0, 0))) (.cells #[.int .i64 (nth l 0).f0, .string (nth l 0).f1, .int .i64 (nth l 0).f2] 33 (0, 0)); simpa using this⟩ ?_
  rintro W0 ⟨hb0, hr0, hm0⟩
  obtain ⟨rb, hrb⟩ : ∃ rb, rb = w.heap.size := ⟨_, rfl⟩
  obtain ⟨mb, hmb⟩ : ∃ mb, mb = w.heap.size + 1 := ⟨_, rfl⟩
  rw [← hmb] at hm0 ⊢
  rw [← hrb] at hr0 ⊢
  have HRB : Hid (w.heap.size = rb) := Lib.hid hrb.symm
  have HMB : Hid (w.heap.size + 1 = mb) := Lib.hid hmb.symm
  have hne : rb ≠ mb := by omega
  have HNE := Lib.hid hne
  have H0 := Lib.hid (And.intro hb0 (And.intro hr0 hm0))
  clear hrb hmb hne hb0 hr0 hm0 c0 c1 c2
  go_loopw [6] (fun v6 wr => ∃ (i : Nat), v6 = .int .i64 i ∧ 1 ≤ i ∧ i ≤ n ∧ Hid (∃ k, OldOf l i k ∧ Bel w wr ∧ wr.heap[rb]? = some (.cells #[.int .i64 0, .string ⟨#[]⟩, .int .i64 0] 33 (0, 0)) ∧ wr.heap[mb]? = some (.cells #[.int .i64 (nth l k).f0, .string (nth l k).f1, .int .i64 (nth l k).f2] 33 (0, 0)))) (fun v6 _ => n - (intOf v6).toNat)
  case atStart => exact ⟨1, rfl, by omega, by omega, Lib.hid ⟨0, ⟨by omega, fun j hj => (by have e : j = 0 := (by omega); rw [e]; exact Int.le_refl _)⟩, H0.out⟩⟩
  case round =>
    obtain ⟨wi, rfl⟩ : ∃ wi : World, wi = wr := ⟨_, rfl⟩
    obtain ⟨i, rfl, h1i, hin, HI⟩ := hrel
    obtain ⟨k, hk, hbi, hri, hmi⟩ := HI.out
    have HB := Lib.hid hbi
    have HK := Lib.hid hk
    have HR := Lib.hid hri
    have HM := Lib.hid hmi
    clear HI hk hbi hri hmi H0
    by_cases hlt : i < n
    · have hlt' : decide ((i : Int) < n) = true := by simp; omega
      have x0 := fun wx (h : Bel wi wx) => (HC.out wx (HB.out.trans h) i hlt).1
      have x1 := fun wx (h : Bel wi wx) => (HC.out wx (HB.out.trans h) i hlt).2.1
      have x2 := fun wx (h : Bel wi wx) => (HC.out wx (HB.out.trans h) i hlt).2.2
      have m0 := fun wx (h : Bel wi wx) => blk_cell (blk_below HM.out h) 0
      have m1 := fun wx (h : Bel wi wx) => blk_cell (blk_below HM.out h) 1
      have m2 := fun wx (h : Bel wi wx) => blk_cell (blk_below HM.out h) 2
      have f0 := fun wx (h : Bel wi wx) => blk_frozen (blk_below HM.out h) 0
      have f1 := fun wx (h : Bel wi wx) => blk_frozen (blk_below HM.out h) 1
      have f2 := fun wx (h : Bel wi wx) => blk_frozen (blk_below HM.out h) 2
      have KCx := Lib.hid (fun wx => KC.out (nth l i) (nth l k) wx)
      have hU := Bel.refl wi
      have HO : Hid (∀ j : Nat, j < i → (nth l k).f2 ≤ (nth l j).f2) := Lib.hid HK.out.2
      have HKi : Hid (k < i) := Lib.hid HK.out.1
      by_cases hc : (nth l i).f2 < (nth l k).f2
      · have hcm : cmpF (nth l i).f2 (nth l k).f2 = -1 := by unfold cmpF; rw [if_pos hc]
        rw [hcm] at KCx
        have HIn : Hid (OldOf l (i + 1) i) := Lib.hid ⟨by omega, fun j hj => by
          by_cases hji : j = i
          · rw [hji]; exact Int.le_refl _
          · have := HO.out j (by omega); omega⟩
        clear hcm hc HK
        have hy : ∃ y, y = nth l i := ⟨_, rfl⟩
        obtain ⟨y, hy⟩ := hy
        obtain ⟨z, hz⟩ : ∃ z, z = nth l k := ⟨_, rfl⟩
        rw [← hy] at x0 x1 x2 KCx
        rw [← hz] at m0 m1 m2 KCx HM
        obtain ⟨y0, y1, y2⟩ := y
        obtain ⟨z0, z1, z2⟩ := z
        have HY := Lib.hid hy
        have HZ := Lib.hid hz
        clear hy hz
        simp only [] at x0 x1 x2 m0 m1 m2 KCx HM
        go_wp2_with fail
        go_region_held3 (fun w' => Bel wi w') (first | assumption | exact Bel.drew _ | exact Bel.trans (by assumption) (Bel.drew _) | exact Bel.trans (by assumption) (by assumption)) ((first | (go_at_call 32; refine (KCx.out _).mono ?_; rintro e wc1 ⟨rfl, hbc1⟩)))
        all_goals go_wp2_with fail
        have hb : Bel wi wc1 := by assumption
        have hm' := setI (blk_below HM.out hb) (.int .i64 y0) (.string y1) (.int .i64 y2)
        have hbl := belI (HB.out.trans hb) (show w.heap.size ≤ mb by have := HMB.out; omega) (.int .i64 y0) (.string y1) (.int .i64 y2)
        have hr' := (((Below.heap_setCell (((wc1.setCell ⟨mb, 0, none⟩ (.int .i64 y0)).setCell ⟨mb, 1, none⟩ (.string y1))) ⟨mb, 2, none⟩ (.int .i64 y2) rb HNE.out).trans (Below.heap_setCell (wc1.setCell ⟨mb, 0, none⟩ (.int .i64 y0)) ⟨mb, 1, none⟩ (.string y1) rb HNE.out)).trans (Below.heap_setCell wc1 ⟨mb, 0, none⟩ (.int .i64 y0) rb HNE.out)).trans (blk_below HR.out hb)
        exact ⟨⟨i + 1, by congr 1, by omega, by omega, Lib.hid ⟨i, HIn.out, hbl, hr', by rw [← HY.out]; exact hm'⟩⟩, by simp [intOf]; omega⟩
      · have hcm : 0 ≤ cmpF (nth l i).f2 (nth l k).f2 := by unfold cmpF; rw [if_neg hc]; split <;> omega
        have HIn : Hid (OldOf l (i + 1) k) := Lib.hid ⟨by have := HKi.out; omega, fun j hj => by
          by_cases hji : j = i
          · rw [hji]; omega
          · exact HO.out j (by omega)⟩
        obtain ⟨y, hy⟩ : ∃ y, y = nth l i := ⟨_, rfl⟩
        obtain ⟨z, hz⟩ : ∃ z, z = nth l k := ⟨_, rfl⟩
        rw [← hy] at x0 x1 x2 KCx hcm
        rw [← hz] at m0 m1 m2 KCx hcm
        clear hc HK
        obtain ⟨y0, y1, y2⟩ := y
        obtain ⟨z0, z1, z2⟩ := z
        clear hy hz
        simp only [] at x0 x1 x2 m0 m1 m2 KCx hcm
        generalize cmpF y2 z2 = q at *
        go_wp2_with fail
        go_region_held3 (fun w' => Bel wi w') (first | assumption | exact Bel.drew _ | exact Bel.trans (by assumption) (Bel.drew _) | exact Bel.trans (by assumption) (by assumption)) ((first | (go_at_call 32; refine (KCx.out _).mono ?_; rintro e wc1 ⟨rfl, hbc1⟩)))
        all_goals go_wp2_with fail
        have hb : Bel wi wc1 := by assumption
        exact ⟨⟨i + 1, by congr 1, by omega, by omega, Lib.hid ⟨k, HIn.out, HB.out.trans hb, blk_below HR.out hb, blk_below HM.out hb⟩⟩, by simp [intOf]; omega⟩
    · obtain rfl : i = n := by omega
      have HK2 : Hid (OldOf l i k ∧ Bel w wi) := Lib.hid ⟨HK.out, HB.out⟩
      have m0 := blk_cell HM.out 0
      have m1 := blk_cell HM.out 1
      have m2 := blk_cell HM.out 2
      have g0 := blk_cell HR.out 0
      have g1 := blk_cell HR.out 1
      have g2 := blk_cell HR.out 2
      have f0 := blk_frozen HR.out 0
      have f1 := blk_frozen HR.out 1
      have f2 := blk_frozen HR.out 2
      clear HK HB
      obtain ⟨z, hz⟩ : ∃ z, z = nth l k := ⟨_, rfl⟩
      rw [← hz] at m0 m1 m2
      obtain ⟨z0, z1, z2⟩ := z
      have HZ := Lib.hid hz
      clear hz
      simp only [] at m0 m1 m2
      go_wp2_with fail
      have hr' := setI HR.out (.int .i64 z0) (.string z1) (.int .i64 z2)
      have hbl := belI HK2.out.2 (show w.heap.size ≤ rb by have := HRB.out; omega) (.int .i64 z0) (.string z1) (.int .i64 z2)
      generalize (((wi.setCell ⟨rb, 0, none⟩ (.int .i64 z0)).setCell ⟨rb, 1, none⟩ (.string z1)).setCell ⟨rb, 2, none⟩ (.int .i64 z2)) = W at *
      have q0 := blk_cell hr' 0
      have q1 := blk_cell hr' 1
      have q2 := blk_cell hr' 2
      exact bodyPost_ret (v := .agg #[.int .i64 z0, .string z1, .int .i64 z2]) (by simp [results, Try.results31, go_sem, q0, q1, q2]) rfl ⟨k, HK2.out.1, by rw [← HZ.out], hbl⟩
set_option maxHeartbeats 8000000 in
set_option maxRecDepth 100000 in
theorem oldQ (w : World) (base g : Nat) (v : Value) (s : QS) (h0 : 0 < s.rs.length) (hlen : s.rs.length ≤ 256) (h : IsQ w base g v s) :
    Calls Try.prog 15 #[PT g] w fun e w' => ∃ k, OldOf s.rs s.rs.length k ∧ e = .returned (.tuple #[elV (nth s.rs k), .bool true]) ∧ Bel w w' := by
  have KL := Lib.hid (fun w h => lenQ w base g v s h)
  obtain ⟨A, c, rfl, _⟩ := h.row.reads
  have KM := Lib.hid (fun wx (hx : IsQ wx base g (.slice A s.rs.length c) s) => minF A c s.rs wx h0 hlen (by
    obtain ⟨A', c', e, _, hR⟩ := hx.row.reads
    simp only [Value.slice.injEq] at e
    rw [e.1]; exact hR))
  have H := Lib.hid h
  have hn := nil24
  clear h
  generalize hnn : s.rs.length = n at *
  clear hnn
  go_enter Try.func15, Try.ntmps15
  go_wp2_with fail
  refine calls_gen (fun W => Bel w W ∧ W.heap[w.heap.size]? = some (.cells #[.int .i64 0, .string ⟨#[]⟩, .int .i64 0] 33 (0, 0))) ⟨Bel.alloc _ _, heap_alloc_new _ _⟩ ?_
  rintro W0 ⟨hB0, hp⟩
  refine (KL.out _ (H.out.bel hB0)).mono ?_
  rintro e w1 ⟨rfl, hb⟩
  have H1 := Lib.hid (H.out.bel (hB0.trans hb))
  have HP := Lib.hid (blk_below hp hb)
  have HB := Lib.hid (hB0.trans hb)
  have hd : ((n : Int) == 0) = false := by simp; omega
  have hd2 : decide ((n : Int) = 0) = false := by simp; omega
  have c1 := blk_cell H1.out.blk 1
  clear hB0 hp hb H KL
  go_wp2_with fail
  refine (KM.out _ H1.out).mono ?_
  rintro e w2 ⟨k, hk, rfl, hb2⟩
  have HK := Lib.hid hk
  have HB2 := Lib.hid (HB.out.trans hb2)
  have hp2 := blk_below HP.out hb2
  have HP2 := Lib.hid hp2
  have x0 := blk_cell hp2 0
  have x1 := blk_cell hp2 1
  have x2 := blk_cell hp2 2
  have y0 := blk_frozen hp2 0
  have y1 := blk_frozen hp2 1
  have y2 := blk_frozen hp2 2
  have hv : elV = fun x : El => .agg #[.int .i64 x.f0, .string x.f1, .int .i64 x.f2] := rfl
  rw [hv]
  clear hv hk hb2 hp2 HP HB H1 KM c1
  obtain ⟨z, hz⟩ : ∃ z, z = nth s.rs k := ⟨_, rfl⟩
  rw [← hz]
  have HZ := Lib.hid hz
  clear hz
  obtain ⟨z0, z1, z2⟩ := z
  simp only []
  go_wp2_with fail
  have hf := setI HP2.out (.int .i64 z0) (.string z1) (.int .i64 z2)
  have hb := belI HB2.out (Nat.le_refl w.heap.size) (.int .i64 z0) (.string z1) (.int .i64 z2)
  generalize (((w2.setCell ⟨w.heap.size, 0, none⟩ (.int .i64 z0)).setCell ⟨w.heap.size, 1, none⟩ (.string z1)).setCell ⟨w.heap.size, 2, none⟩ (.int .i64 z2)) = W at *
  have q0 := blk_cell hf 0
  have q1 := blk_cell hf 1
  have q2 := blk_cell hf 2
  exact bodyPost_ret (v := .tuple #[.agg #[.int .i64 z0, .string z1, .int .i64 z2], .bool true]) (by simp [results, Try.results15, go_sem, q0, q1, q2]) rfl ⟨k, HK.out, by rw [← HZ.out]; rfl, hb⟩
set_option maxHeartbeats 8000000 in
theorem oldQ0 (w : World) (base g : Nat) (v : Value) (s : QS) (h0 : s.rs.length = 0) (h : IsQ w base g v s) :
    Calls Try.prog 15 #[PT g] w fun e w' => e = .returned (.tuple #[elV el0, .bool false]) ∧ Bel w w' := by
  have K := Lib.hid (fun w h => lenQ w base g v s h)
  have H := Lib.hid h
  rw [h0] at K
  clear h h0
  go_enter Try.func15, Try.ntmps15
  go_wp2_with fail
  refine calls_gen (fun W => Bel w W ∧ W.heap[w.heap.size]? = some (.cells #[.int .i64 0, .string ⟨#[]⟩, .int .i64 0] 33 (0, 0))) ⟨Bel.alloc _ _, heap_alloc_new _ _⟩ ?_
  rintro W0 ⟨hB0, hp⟩
  refine (K.out _ (H.out.bel hB0)).mono ?_
  rintro e w1 ⟨rfl, hb⟩
  have hp1 := blk_below hp hb
  have HB := Lib.hid (hB0.trans hb)
  have x0 := blk_cell hp1 0
  have x1 := blk_cell hp1 1
  have x2 := blk_cell hp1 2
  have y0 := blk_frozen hp1 0
  have y1 := blk_frozen hp1 1
  have y2 := blk_frozen hp1 2
  clear hB0 hp hb
  go_wp2_with fail
  have hf := setI hp1 (.int .i64 0) (.string ⟨#[]⟩) (.int .i64 0)
  have hb := belI HB.out (Nat.le_refl w.heap.size) (.int .i64 0) (.string ⟨#[]⟩) (.int .i64 0)
  generalize (((w1.setCell ⟨w.heap.size, 0, none⟩ (.int .i64 0)).setCell ⟨w.heap.size, 1, none⟩ (.string ⟨#[]⟩)).setCell ⟨w.heap.size, 2, none⟩ (.int .i64 0)) = W at *
  have z0 := blk_cell hf 0
  have z1 := blk_cell hf 1
  have z2 := blk_cell hf 2
  exact bodyPost_ret (v := .tuple #[.agg #[.int .i64 0, .string ⟨#[]⟩, .int .i64 0], .bool false]) (by simp [results, Try.results15, go_sem, z0, z1, z2]) rfl ⟨rfl, hb⟩
end Go.Proofs.Ytffegfidaolgjaa
