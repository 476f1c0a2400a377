/- Spans: the walk of SpansChange. -/
import Derived.Test.YtjgekbakommkmaaOrder
set_option linter.unusedVariables false
set_option linter.unusedSimpArgs false
namespace Go.Proofs.Ytjgekbakommkmaa
open Go.RowKit Go.Proofs.YtjgekbakommkmaaW.PrintWords Go.Proofs.YtjgekbakommkmaaW.PrintMore
open PSpansChange Pl
theorem listsB (A : Option Addr) (c : Nat) (l : List Sp) (whole : Bool) (hc : l.length ≤ c) (w : World) (hC : Kd.C k30 w A l.length (m30 l)) :
    Calls Try.prog 9 #[.slice A l.length c, .bool whole] w fun e w' => ∃ v v', e = .returned (.tuple #[v, v']) ∧ Kd.R k30 30 w' w.heap.size (fun _ => True) v (m30 (listF (l.take 40) whole)) ∧ Kd.R k31 31 w' w.heap.size (fun _ => True) v' (m31 (listF (l.take 40) whole)) ∧ Bel w w' := by
  cases whole
  · exact listsF A c l hc w hC
  · exact listsT A c l hc w hC
theorem changeF_len (b : List Sp) (s : Sp) (hb : b.length ≤ 40) (k : Int) : (errV (mayE b s) (changeF k b s)).length ≤ 100 := by
  unfold errV
  split
  · rename_i h
    obtain ⟨hg, hs⟩ := may_ok h
    unfold changeF
    split
    · have := cut_len b s; omega
    · split
      · have := meetL_len b s; omega
      · split
        · have h1 := gapK_len (meetL b s) s (meetL_ok b s) hs (meetL b s).length (Nat.le_refl _)
          rw [gapK_end] at h1
          have := meetL_len b s; omega
        · have := addF_len s b; omega
  · simp
set_option maxHeartbeats 8000000 in
set_option maxRecDepth 100000 in
theorem lawChangeW (A : Option Addr) (c : Nat) (l : List Sp) (x0 x1 : Int) (whole : Bool) (hc : l.length ≤ c) (w : World) (hC : Kd.C k30 w A l.length (m30 l)) :
    Calls Try.prog 3 #[.slice A l.length c, .agg #[.int .i64 x0, .int .i64 x1], .bool whole] w fun e w' => e = .returned (.bool true) ∧ Bel w w' := by
  have KL := Lib.hid (fun w h => listsB A c l whole hc w h)
  have HC := Lib.hid hC
  have hal : (listF (l.take 40) whole).length ≤ 40 := Nat.le_trans (listF_len _ _) (by simp; omega)
  generalize listF (l.take 40) whole = a at *
  clear hC
  have KW := Lib.hid wakesB
  have hmf : ∀ (fn : Fn) (first cap : Array Value) (w : World), (Instr.makeFunc fn first cap).run Try.prog w = .ok (.func fn first cap) w := fun _ _ _ _ => rfl
  have KV := Lib.hid (fun k => changeF_len a (x0, x1) hal k)
  have F0 : changeF 0 a (x0, x1) = addF a (x0, x1) := by simp [changeF]
  have F1 : changeF 1 a (x0, x1) = cutF a (x0, x1) := by simp [changeF]
  have F2 : changeF 2 a (x0, x1) = meetL a (x0, x1) := by simp [changeF]
  have F3 : changeF 3 a (x0, x1) = gapsF (meetL a (x0, x1)) (x0, x1) := by simp [changeF]
  have KF0 := Lib.hid (fun A c hc w h => F0 ▸ addB A c a (x0, x1) (by omega) hc w h)
  have KF1 := Lib.hid (fun A c hc w h => F1 ▸ cutB A c a (x0, x1) (by omega) hc w h)
  have KF2 := Lib.hid (fun A c hc w h => F2 ▸ meetB12 A c a (x0, x1) (by omega) hc w h)
  have KF3 := Lib.hid (fun A c hc w h => F3 ▸ gapsB A c a (x0, x1) (by omega) hc w h)
  have KC := Lib.hid (fun A c k hc w h => changeB A c a (x0, x1) k (by omega) hc w h)
  have KS := Lib.hid sameB
  clear F0 F1 F2 F3
  have hFV : ∃ V : Int → List Sp, ∀ k, V k = errV (mayE a (x0, x1)) (changeF k a (x0, x1)) := ⟨_, fun _ => rfl⟩
  obtain ⟨V, hV⟩ := hFV
  have e0 := hV 0
  have e1 := hV 1
  have e2 := hV 2
  have e3 := hV 3
  rw [← e0] at KF0
  rw [← e1] at KF1
  rw [← e2] at KF2
  rw [← e3] at KF3
  simp only [← hV] at KC KV
  clear e0 e1 e2 e3 hV
  generalize mayE a (x0, x1) = E at *
  have hEE : (E != E) = false := by simp
  go_enter Try.func3, Try.ntmps3
  go_wp2_with fail
  refine calls_gen (fun W => Bel w W ∧ W.heap[w.heap.size]? = some (.cells #[.int .i64 x0, .int .i64 x1] 24 (0, 0))) ⟨Bel.alloc _ _, heap_alloc_new _ _⟩ ?_
  rintro W0 ⟨hB0, hx⟩
  refine (KL.out W0 (Kd.C_below HC.out hB0)).mono ?_
  rintro e w1 ⟨v, v', rfl, hr, hr', hb1⟩
  obtain ⟨A1, c1, rfl, hc1, hC1⟩ := cells30 hr
  obtain ⟨A2, c2, rfl, hc2, hC2⟩ := cells31 hr'
  have b0 := pw_cell_below hb1 (a := ⟨w.heap.size, 0, none⟩) (v := .int .i64 x0) (blk_cell hx 0)
  have b1 := pw_cell_below hb1 (a := ⟨w.heap.size, 1, none⟩) (v := .int .i64 x1) (blk_cell hx 1)
  have HB1 := Lib.hid (hB0.trans hb1)
  have HC1 := Lib.hid hC1
  have HC2 := Lib.hid hC2
  clear hB0 hx hb1 hr hr' hC1 hC2 KL
  go_wp2_with fail
  have a0 := fun o => cellB (Bel.alloc w1 o) b0
  have a1 := fun o => cellB (Bel.alloc w1 o) b1
  have e0 := fun o o' => cellB (Bel.alloc (w1.alloc o) o') (a0 o)
  have e1 := fun o o' => cellB (Bel.alloc (w1.alloc o) o') (a1 o)
  go_cut [9, 10] (fun s9 s10 wx => ∃ p q : Nat, s9 = .pointer (some ⟨p, 0, none⟩) ∧ s10 = .pointer (some ⟨q, 0, none⟩) ∧ Bel w1 wx ∧ wx.heap[p]? = some (.cells #[.int .i64 x0, .int .i64 x1] 30 (0, 0)) ∧ wx.heap[q]? = some (.cells #[.int .i64 x0, .int .i64 x1] 31 (0, 0)))
  case first =>
    go_region
    all_goals
      go_wp2_with fail
      go_meet
      first
        | exact ⟨_, _, rfl, rfl, ((Bel.alloc w1 _).trans (Bel.alloc _ _)).trans (Bel.drew _), (Below.heap_alloc _ _ _ (by simp)).trans (heap_alloc_new _ _), heap2 _ _ _⟩
        | exact ⟨_, _, rfl, rfl, ((Bel.alloc w1 _).trans (Bel.alloc _ _)).trans (Bel.drew _), heap2 _ _ _, (Below.heap_alloc _ _ _ (by simp)).trans (heap_alloc_new _ _)⟩
  case rest =>
    obtain ⟨p, q, rfl, rfl, hB2, hp, hq⟩ := hcut
    clear a0 a1 e0 e1
    have HB2 := Lib.hid (HB1.out.trans hB2)
    have HP2 := Lib.hid hp
    have HQ2 := Lib.hid hq
    have HC12 := Lib.hid (Kd.C_below HC1.out hB2)
    have HC22 := Lib.hid (Kd.C_below HC2.out hB2)
    clear b0 b1 hB2 hp hq HB1 HC1 HC2
    go_wp2_with fail
    refine wp_gen (fun W => Bel wc W ∧ W.heap[wc.heap.size]? = some (.cells #[.func (Fn.func 10) #[.slice A1 a.length c1] #[], .func (Fn.func 11) #[.slice A1 a.length c1] #[], .func (Fn.func 12) #[.slice A1 a.length c1] #[], .func (Fn.func 13) #[.slice A1 a.length c1] #[]] 32 (0, 0))) ⟨Bel.alloc _ _, heap_alloc_new _ _⟩ ?_
    rintro W2 ⟨hB3, hf⟩
    have HB3 := Lib.hid (HB2.out.trans hB3)
    have HP3 := Lib.hid ((hB3.block p (blk_lt HP2.out)).trans HP2.out)
    have HQ3 := Lib.hid ((hB3.block q (blk_lt HQ2.out)).trans HQ2.out)
    have HC13 := Lib.hid (Kd.C_below HC12.out hB3)
    have HC23 := Lib.hid (Kd.C_below HC22.out hB3)
    have HF3 := Lib.hid hf
    clear hB3 hf HB2 HP2 HQ2 HC12 HC22
    have CC := Lib.hid (fun wx (h : Bel W2 wx) => (⟨blk_cell (blk_below HP3.out h) 0, blk_cell (blk_below HP3.out h) 1⟩ : wx.cell? ⟨p, 0, none⟩ = some (.int .i64 x0) ∧ wx.cell? ⟨p, 1, none⟩ = some (.int .i64 x1)))
    have CD := Lib.hid (fun wx (h : Bel W2 wx) => (⟨blk_cell (blk_below HQ3.out h) 0, blk_cell (blk_below HQ3.out h) 1⟩ : wx.cell? ⟨q, 0, none⟩ = some (.int .i64 x0) ∧ wx.cell? ⟨q, 1, none⟩ = some (.int .i64 x1)))
    clear HP3 HQ3
    go_loopw [35] (fun v35 wr => (v35 = .int .i64 0 ∨ v35 = .int .i64 1 ∨ v35 = .int .i64 2 ∨ v35 = .int .i64 3 ∨ v35 = .int .i64 4) ∧ Hid (Bel W2 wr)) (fun v35 _ => (4 - intOf v35).toNat)
    case atStart => exact ⟨Or.inl rfl, Lib.hid (Bel.refl _)⟩
    case round =>
      obtain ⟨wi, rfl⟩ : ∃ wi : World, wi = wr := ⟨_, rfl⟩
      obtain ⟨hv2, HI2⟩ := hrel
      rcases hv2 with rfl | rfl | rfl | rfl | rfl
      · skip
        obtain ⟨t0, t1⟩ := CC.out wi HI2.out
        have tf := blk_cell (blk_below HF3.out HI2.out) 0
        go_wp2_with fail
        refine (KF0.out _ _ hc1 _ (Kd.C_below HC13.out HI2.out)).mono ?_
        rintro e wa ⟨va, rfl, hra, hba⟩
        obtain ⟨p0, p1⟩ := CD.out wa (HI2.out.trans hba)
        have HI3 := Lib.hid (HI2.out.trans hba)
        clear t0 t1 tf
        go_wp2_with fail
        refine (KC.out _ _ 0 hc2 _ (Kd.C_below HC23.out HI3.out)).mono ?_
        rintro e wb ⟨vb, rfl, hrb, hbb⟩
        have hll := KV.out 0
        obtain ⟨Aa, ca, rfl, hca, hCa⟩ := cells30 (Kd.R_below hra hbb)
        obtain ⟨Ab, cb, rfl, hcb, hCb⟩ := cells31 hrb
        have HS := Lib.hid (KS.out Aa ca Ab cb (V 0) (by omega) hca hcb wb hCa hCb)
        have HI4 := Lib.hid (HI3.out.trans hbb)
        clear hCa hCb hra hrb hba hbb p0 p1 hca hcb HI3 HI2
        generalize V 0 = Vk at *
        go_wp2_with fail
        refine HS.out.mono ?_
        rintro e wd ⟨rfl, hbd⟩
        have HFI := Lib.hid (HI4.out.trans hbd)
        go_wp2_with fail
        exact ⟨⟨by simp, HFI⟩, by simp [intOf]⟩
      · skip
        obtain ⟨t0, t1⟩ := CC.out wi HI2.out
        have tf := blk_cell (blk_below HF3.out HI2.out) 1
        go_wp2_with fail
        refine (KF1.out _ _ hc1 _ (Kd.C_below HC13.out HI2.out)).mono ?_
        rintro e wa ⟨va, rfl, hra, hba⟩
        obtain ⟨p0, p1⟩ := CD.out wa (HI2.out.trans hba)
        have HI3 := Lib.hid (HI2.out.trans hba)
        clear t0 t1 tf
        go_wp2_with fail
        refine (KC.out _ _ 1 hc2 _ (Kd.C_below HC23.out HI3.out)).mono ?_
        rintro e wb ⟨vb, rfl, hrb, hbb⟩
        have hll := KV.out 1
        obtain ⟨Aa, ca, rfl, hca, hCa⟩ := cells30 (Kd.R_below hra hbb)
        obtain ⟨Ab, cb, rfl, hcb, hCb⟩ := cells31 hrb
        have HS := Lib.hid (KS.out Aa ca Ab cb (V 1) (by omega) hca hcb wb hCa hCb)
        have HI4 := Lib.hid (HI3.out.trans hbb)
        clear hCa hCb hra hrb hba hbb p0 p1 hca hcb HI3 HI2
        generalize V 1 = Vk at *
        go_wp2_with fail
        refine HS.out.mono ?_
        rintro e wd ⟨rfl, hbd⟩
        have HFI := Lib.hid (HI4.out.trans hbd)
        go_wp2_with fail
        exact ⟨⟨by simp, HFI⟩, by simp [intOf]⟩
      · skip
        obtain ⟨t0, t1⟩ := CC.out wi HI2.out
        have tf := blk_cell (blk_below HF3.out HI2.out) 2
        go_wp2_with fail
        refine (KF2.out _ _ hc1 _ (Kd.C_below HC13.out HI2.out)).mono ?_
        rintro e wa ⟨va, rfl, hra, hba⟩
        obtain ⟨p0, p1⟩ := CD.out wa (HI2.out.trans hba)
        have HI3 := Lib.hid (HI2.out.trans hba)
        clear t0 t1 tf
        go_wp2_with fail
        refine (KC.out _ _ 2 hc2 _ (Kd.C_below HC23.out HI3.out)).mono ?_
        rintro e wb ⟨vb, rfl, hrb, hbb⟩
        have hll := KV.out 2
        obtain ⟨Aa, ca, rfl, hca, hCa⟩ := cells30 (Kd.R_below hra hbb)
        obtain ⟨Ab, cb, rfl, hcb, hCb⟩ := cells31 hrb
        have HS := Lib.hid (KS.out Aa ca Ab cb (V 2) (by omega) hca hcb wb hCa hCb)
        have HI4 := Lib.hid (HI3.out.trans hbb)
        clear hCa hCb hra hrb hba hbb p0 p1 hca hcb HI3 HI2
        generalize V 2 = Vk at *
        go_wp2_with fail
        refine HS.out.mono ?_
        rintro e wd ⟨rfl, hbd⟩
        have HFI := Lib.hid (HI4.out.trans hbd)
        go_wp2_with fail
        exact ⟨⟨by simp, HFI⟩, by simp [intOf]⟩
      · skip
        obtain ⟨t0, t1⟩ := CC.out wi HI2.out
        have tf := blk_cell (blk_below HF3.out HI2.out) 3
        go_wp2_with fail
        refine (KF3.out _ _ hc1 _ (Kd.C_below HC13.out HI2.out)).mono ?_
        rintro e wa ⟨va, rfl, hra, hba⟩
        obtain ⟨p0, p1⟩ := CD.out wa (HI2.out.trans hba)
        have HI3 := Lib.hid (HI2.out.trans hba)
        clear t0 t1 tf
        go_wp2_with fail
        refine (KC.out _ _ 3 hc2 _ (Kd.C_below HC23.out HI3.out)).mono ?_
        rintro e wb ⟨vb, rfl, hrb, hbb⟩
        have hll := KV.out 3
        obtain ⟨Aa, ca, rfl, hca, hCa⟩ := cells30 (Kd.R_below hra hbb)
        obtain ⟨Ab, cb, rfl, hcb, hCb⟩ := cells31 hrb
        have HS := Lib.hid (KS.out Aa ca Ab cb (V 3) (by omega) hca hcb wb hCa hCb)
        have HI4 := Lib.hid (HI3.out.trans hbb)
        clear hCa hCb hra hrb hba hbb p0 p1 hca hcb HI3 HI2
        generalize V 3 = Vk at *
        go_wp2_with fail
        refine HS.out.mono ?_
        rintro e wd ⟨rfl, hbd⟩
        have HFI := Lib.hid (HI4.out.trans hbd)
        go_wp2_with fail
        exact ⟨⟨by simp, HFI⟩, by simp [intOf]⟩
      · have HX := Lib.hid (HB3.out.trans HI2.out)
        clear HI2 CC CD HF3 HC13 HC23
        go_wp2_with fail
        refine (KW.out _).mono ?_
        rintro e wd ⟨rfl, hbd⟩
        have hfin := HX.out.trans hbd
        clear HX hbd
        go_wp2_with fail
        go_ret
        exact ⟨rfl, hfin⟩
end Go.Proofs.Ytjgekbakommkmaa
