/- The reference's queue: a block is taken. -/
import Derived.Test.YtffegfidaolgjaaRSort
import Derived.Test.YtffegfidaolgjaaKt
set_option linter.unusedVariables false
set_option linter.unusedSimpArgs false
namespace Go.Proofs.Ytffegfidaolgjaa
open Go.RowKit
def rtakeS (s : QS) (key : Int) : QS := if rpos s.rs key < s.rs.length then { s with rs := cut s.rs (rpos s.rs key) } else s
def rtakeV (s : QS) (key : Int) : El := if rpos s.rs key < s.rs.length then nth s.rs (rpos s.rs key) else el0
/-- The first k but for i. -/
def skip (l : List El) (i k : Nat) : List El := if k ≤ i then l.take k else l.take i ++ (l.drop (i + 1)).take (k - i - 1)
theorem skip_end {l : List El} {i : Nat} (h : i < l.length) : skip l i l.length = cut l i := by
  unfold skip cut
  rw [if_neg (by omega), List.take_of_length_le (l := l.drop (i + 1)) (by simp; omega)]
theorem skip_at (l : List El) (i : Nat) : skip l i (i + 1) = skip l i i := by
  unfold skip; rw [if_neg (by omega), if_pos (Nat.le_refl _)]; simp
theorem skip_on {l : List El} {i k : Nat} (hk : k < l.length) (hne : k ≠ i) : skip l i (k + 1) = skip l i k ++ [nth l k] := by
  unfold skip
  by_cases h : k < i
  · rw [if_pos (by omega), if_pos (by omega), take_succ_nth hk]
  · rw [if_neg (by omega)]
    by_cases h2 : k ≤ i
    · omega
    · rw [if_neg h2, show k + 1 - i - 1 = (k - i - 1) + 1 by omega, List.take_succ_eq_append_getElem (by simp; omega), List.append_assoc]
      congr 2
      rw [List.getElem_drop, nth_el hk]
      congr 2; omega
theorem skip_len (l : List El) (i k : Nat) : (skip l i k).length ≤ k := by
  unfold skip
  split
  · simp; omega
  · simp; omega
set_option maxHeartbeats 8000000 in
set_option maxRecDepth 100000 in
theorem takeR (w : World) (base g : Nat) (v : Value) (s : QS) (key : Int) (h : IsR w base g v s) (hlen : s.rs.length ≤ 1000) (hbase : base ≤ w.heap.size) :
    Calls Try.prog 18 #[PT g, .int .i64 key] w fun e w' => ∃ v', e = .returned (.tuple #[elV (rtakeV s key), .bool (rhas s key)]) ∧ IsR w' base g v' (rtakeS s key) ∧ Kt 44 base g w w' := by
  have KF := Lib.hid (fun wx h => findR wx base g v s key (by omega) h)
  have H := Lib.hid h
  have hg := blk_lt h.blk
  clear h
  by_cases hin : rpos s.rs key < s.rs.length
  · have e1 : rfind s key = (rpos s.rs key : Int) := by unfold rfind; rw [if_pos hin]
    have e2 : rhas s key = true := by unfold rhas; exact decide_eq_true hin
    have e3 : rtakeS s key = { s with rs := cut s.rs (rpos s.rs key) } := by unfold rtakeS; rw [if_pos hin]
    have e4 : rtakeV s key = nth s.rs (rpos s.rs key) := by unfold rtakeV; rw [if_pos hin]
    rw [e1] at KF
    rw [e2, e3, e4]
    clear e1 e2 e3 e4
    obtain ⟨A, c, rfl, hc, hR⟩ := readsR H.out.row
    obtain ⟨ad, rfl, hcells⟩ := RC.some hR (by omega)
    have HCE := Lib.hid (fun wx (hb : Bel w wx) i hi => hcells wx hb i hi)
    have HSE := Lib.hid (skip_end hin)
    generalize hi : rpos s.rs key = i at *
    have HI := Lib.hid hi
    clear hi hR hcells
    generalize hn : s.rs.length = n at *
    have HN := Lib.hid hn
    clear hn
    have hx := HCE.out
    obtain ⟨x, hxx⟩ : ∃ x, x = nth s.rs i := ⟨_, rfl⟩
    rw [← hxx]
    have HXX := Lib.hid hxx
    obtain ⟨x0, x1, x2⟩ := x
    have hel : elV (⟨x0, x1, x2⟩ : El) = .agg #[.int .i64 x0, .string x1, .int .i64 x2] := rfl
    rw [hel]
    have HXC : Hid (∀ wx, Bel w wx → wx.cell? (ad.add (i * 3)) = some (.int .i64 x0) ∧ wx.cell? ⟨(ad.add (i * 3)).block, (ad.add (i * 3)).off + 1, none⟩ = some (.string x1) ∧ wx.cell? ⟨(ad.add (i * 3)).block, (ad.add (i * 3)).off + 2, none⟩ = some (.int .i64 x2)) := Lib.hid (fun wx hb => by
      have := hx wx hb i hin
      unfold RCs at this
      rwa [← hxx] at this)
    clear hx hxx hel
    have hgw : w.heap.size ≠ g := by omega
    have HGW := Lib.hid (And.intro hgw hg)
    clear hgw hg
    go_enter Try.func18, Try.ntmps18
    go_wp2_with fail
    refine calls_gen (fun W => Bel w W ∧ W.heap[w.heap.size]? = some (.cells #[.int .i64 0, .string ⟨#[]⟩, .int .i64 0] 44 (0, 0)) ∧ w.heap.size < W.heap.size) ⟨Bel.alloc _ _, heap_alloc_new _ _, by simp⟩ ?_
    rintro W0 ⟨hB0, hp, hsz⟩
    refine (KF.out _ (H.out.bel hB0)).mono ?_
    rintro e w1 ⟨rfl, rfl⟩
    have c1 : w1.cell? ⟨g, 1, none⟩ = some (.slice (some ad) n c) := blk_cell (H.out.bel hB0).blk 1
    obtain ⟨y0, y1, y2⟩ := HXC.out _ hB0
    have HP := Lib.hid (And.intro hB0 (And.intro hp hsz))
    clear hB0 hp hsz KF
    go_wp2_with fail
    refine wp_gen (fun W => Bel w1 W ∧ W.heap[w1.heap.size]? = some (.cells #[.int .i64 x0, .string x1, .int .i64 x2] 44 (0, 0)) ∧ w1.heap.size < W.heap.size) ⟨Bel.alloc _ _, heap_alloc_new _ _, by simp⟩ ?_
    rintro W1 ⟨hB1, hq, hsz1⟩
    have HP1 := Lib.hid (And.intro (HP.out.1.trans hB1) (And.intro hB1 (And.intro hq hsz1)))
    clear hB1 hq hsz1 y0 y1 y2 c1
    have HX0 : Hid (KI.Row W1 W1.heap.size (.slice none 0 0) (skip s.rs i 0) ∧ Bel W1 W1) := Lib.hid ⟨by simpa [skip] using Enc.Row.nil _ _, Bel.refl _⟩
    go_loopw [8, 9] (fun v8 v9 wr => ∃ (k : Nat), v9 = .int .i64 k ∧ k ≤ n ∧ Hid (KI.Row wr W1.heap.size v8 (skip s.rs i k) ∧ Bel W1 wr)) (fun _ v9 _ => n - (intOf v9).toNat)
    case atStart => exact ⟨0, rfl, by omega, HX0⟩
    case round =>
      obtain ⟨wo, rfl⟩ : ∃ wo : World, wo = wr := ⟨_, rfl⟩
      obtain ⟨k, rfl, hk, HR⟩ := hrel
      have hbo : Bel w wo := HP1.out.1.trans HR.out.2
      have c1 : wo.cell? ⟨g, 1, none⟩ = some (.slice (some ad) n c) := blk_cell (H.out.bel hbo).blk 1
      clear HX0
      by_cases hlt : k < n
      · have hlt' : decide ((k : Int) < (n : Int)) = true := by simp; omega
        by_cases hki : k = i
        · have d1 : ((k : Int) != (i : Int)) = false := by simp; omega
          have d2 : decide ((k : Int) = (i : Int)) = true := decide_eq_true (by omega)
          have d3 : ((k : Int) == (i : Int)) = true := by simp; omega
          have hfin : Hid (KI.Row wo W1.heap.size u8 (skip s.rs i (k + 1)) ∧ Bel W1 wo) := Lib.hid ⟨by
            have := HR.out.1
            rw [hki] at this ⊢
            rw [skip_at]; exact this, HR.out.2⟩
          clear HR hbo hki
          go_wp2_with fail
          exact ⟨⟨k + 1, by congr 1, by omega, hfin⟩, by simp [intOf]; omega⟩
        · have d1 : ((k : Int) != (i : Int)) = true := by simp; omega
          have d2 : decide ((k : Int) = (i : Int)) = false := decide_eq_false (by omega)
          have d3 : ((k : Int) == (i : Int)) = false := by simp; omega
          obtain ⟨z0, z1, z2⟩ := HCE.out wo hbo k hlt
          have HSK := Lib.hid (skip_on (l := s.rs) (i := i) (k := k) (by rw [HN.out]; exact hlt) hki)
          have HLE : Hid ((skip s.rs i k).length ≤ 1000000) := Lib.hid (by have := skip_len s.rs i k; omega)
          generalize nth s.rs k = y at *
          have HRow := Lib.hid HR.out.1
          have HBl := Lib.hid HR.out.2
          clear HR hbo hki
          go_wp2_with (at_builtin; refine Enc.Row.append (K := KI) (W := wo) (base := W1.heap.size) HRow.out y rfl _ _ 49 rfl (.agg #[.int .i64 0, .string ⟨#[]⟩, .int .i64 0]) 32 Try.underlying49 info44 rfl (by decide) rfl rfl HLE.out HBl.out.size ?_; intro v3 w3 ho hg; have HO3 := Lib.hid ho; have HG3 := Lib.hid hg; clear ho hg)
          exact ⟨⟨k + 1, by congr 1, by omega, Lib.hid ⟨by rw [HSK.out]; exact HO3.out, Enc.Row.bel_grown HRow.out HBl.out HG3.out (Nat.le_refl _)⟩⟩, by simp [intOf]; omega⟩
      · have hlt' : decide ((k : Int) < (n : Int)) = false := by simp; omega
        have hkn : k = n := by omega
        have hrow := HR.out.1
        rw [hkn, HSE.out] at hrow
        obtain ⟨A3, c3, rfl, hc3, _⟩ := hrow.reads
        have hblk := (H.out.bel hbo).blk
        have f1 := blk_frozen hblk 1
        have hgp := HGW.out.1
        have hne1 : w1.heap.size ≠ g := by have := HP.out.2.2; have := HGW.out.2; omega
        have hb4 : (wo.setCell ⟨g, 1, none⟩ (.slice A3 (cut s.rs i).length c3)).heap[g]? = _ := setc_blk hblk (i := 1) (.slice A3 (cut s.rs i).length c3)
        have hp4 := setc_off (i := 1) (blk_below HP.out.2.1 (HP1.out.2.1.trans HR.out.2)) hgp (.slice A3 (cut s.rs i).length c3)
        have hq4 := setc_off (i := 1) (blk_below HP1.out.2.2.1 HR.out.2) hne1 (.slice A3 (cut s.rs i).length c3)
        have z0 := blk_cell hq4 0
        have z1 := blk_cell hq4 1
        have z2 := blk_cell hq4 2
        have t0 := blk_cell hp4 0
        have t1 := blk_cell hp4 1
        have t2 := blk_cell hp4 2
        have u0 := blk_frozen hp4 0
        have u1 := blk_frozen hp4 1
        have u2 := blk_frozen hp4 2
        have hr4 : KI.Row (wo.setCell ⟨g, 1, none⟩ (.slice A3 (cut s.rs i).length c3)) W1.heap.size (.slice A3 (cut s.rs i).length c3) (cut s.rs i) := hrow.set_off ⟨g, 1, none⟩ (hrow.ne_blk hblk (by decide)) _
        have hk4 : Kt 44 base g w (wo.setCell ⟨g, 1, none⟩ (.slice A3 (cut s.rs i).length c3)) := (Kt.of_bel hbo).trans (Kt.of_set ⟨g, 1, none⟩ rfl _)
        have hne0 : (Value.slice A3 (cut s.rs i).length c3).ownBlock ≠ some w.heap.size := fun e => by
          obtain ⟨h1, _⟩ := hrow.blk e
          have := HP.out.2.2
          have := HP1.out.2.1.size
          omega
        have H4 := Lib.hid (And.intro hb4 (And.intro hr4 (And.intro hk4 (And.intro hp4 hne0))))
        clear hb4 hr4 hk4 hp4 hq4 hrow hblk HR hbo hgp hne1 hne0 hkn
        generalize (cut s.rs i).length = m at *
        go_wp2_with fail
        have hf5 := setJ H4.out.2.2.2.1 (.int .i64 x0) (.string x1) (.int .i64 x2)
        have hne := HGW.out.1.symm
        have hi5 : IsR ((((wo.setCell ⟨g, 1, none⟩ (.slice A3 m c3)).setCell ⟨w.heap.size, 0, none⟩ (.int .i64 x0)).setCell ⟨w.heap.size, 1, none⟩ (.string x1)).setCell ⟨w.heap.size, 2, none⟩ (.int .i64 x2)) base g (.slice A3 m c3) { s with rs := cut s.rs i } :=
          ⟨setc_off (setc_off (setc_off H4.out.1 hne _) hne _) hne _, (((H4.out.2.1.set_off ⟨w.heap.size, 0, none⟩ H4.out.2.2.2.2 _).set_off ⟨w.heap.size, 1, none⟩ H4.out.2.2.2.2 _).set_off ⟨w.heap.size, 2, none⟩ H4.out.2.2.2.2 _).lower (by have := HP1.out.1.size; omega)⟩
        have hk5 : Kt 44 base g w ((((wo.setCell ⟨g, 1, none⟩ (.slice A3 m c3)).setCell ⟨w.heap.size, 0, none⟩ (.int .i64 x0)).setCell ⟨w.heap.size, 1, none⟩ (.string x1)).setCell ⟨w.heap.size, 2, none⟩ (.int .i64 x2)) := ((H4.out.2.2.1.set_new ⟨w.heap.size, 0, none⟩ (Nat.le_refl _) _).set_new ⟨w.heap.size, 1, none⟩ (Nat.le_refl _) _).set_new ⟨w.heap.size, 2, none⟩ (Nat.le_refl _) _
        generalize ((((wo.setCell ⟨g, 1, none⟩ (.slice A3 m c3)).setCell ⟨w.heap.size, 0, none⟩ (.int .i64 x0)).setCell ⟨w.heap.size, 1, none⟩ (.string x1)).setCell ⟨w.heap.size, 2, none⟩ (.int .i64 x2)) = W at *
        have z0 := blk_cell hf5 0
        have z1 := blk_cell hf5 1
        have z2 := blk_cell hf5 2
        exact bodyPost_ret (v := .tuple #[.agg #[.int .i64 x0, .string x1, .int .i64 x2], .bool true]) (by simp [results, Try.results18, go_sem, z0, z1, z2]) rfl ⟨_, rfl, hi5, hk5⟩
  · have e1 : rfind s key = -1 := by unfold rfind; rw [if_neg hin]
    have e2 : rhas s key = false := by unfold rhas; exact decide_eq_false hin
    have e3 : rtakeS s key = s := by unfold rtakeS; rw [if_neg hin]
    have e4 : rtakeV s key = el0 := by unfold rtakeV; rw [if_neg hin]
    have hel : elV el0 = .agg #[.int .i64 0, .string ⟨#[]⟩, .int .i64 0] := rfl
    rw [e1] at KF
    rw [e2, e3, e4, hel]
    clear e1 e2 e3 e4 hel hin
    go_enter Try.func18, Try.ntmps18
    go_wp2_with fail
    refine calls_gen (fun W => Bel w W ∧ W.heap[w.heap.size]? = some (.cells #[.int .i64 0, .string ⟨#[]⟩, .int .i64 0] 44 (0, 0))) ⟨Bel.alloc _ _, heap_alloc_new _ _⟩ ?_
    rintro W0 ⟨hB0, hp⟩
    refine (KF.out _ (H.out.bel hB0)).mono ?_
    rintro e w1 ⟨rfl, rfl⟩
    have t0 := blk_cell hp 0
    have t1 := blk_cell hp 1
    have t2 := blk_cell hp 2
    have u0 := blk_frozen hp 0
    have u1 := blk_frozen hp 1
    have u2 := blk_frozen hp 2
    have HP := Lib.hid (And.intro hB0 hp)
    clear hB0 hp KF hg
    go_wp2_with fail
    have hf := setJ HP.out.2 (.int .i64 0) (.string ⟨#[]⟩) (.int .i64 0)
    have hb := belI HP.out.1 (Nat.le_refl w.heap.size) (.int .i64 0) (.string ⟨#[]⟩) (.int .i64 0)
    generalize (((w1.setCell ⟨w.heap.size, 0, none⟩ (.int .i64 0)).setCell ⟨w.heap.size, 1, none⟩ (.string ⟨#[]⟩)).setCell ⟨w.heap.size, 2, none⟩ (.int .i64 0)) = W at *
    have z0 := blk_cell hf 0
    have z1 := blk_cell hf 1
    have z2 := blk_cell hf 2
    exact bodyPost_ret (v := .tuple #[.agg #[.int .i64 0, .string ⟨#[]⟩, .int .i64 0], .bool false]) (by simp [results, Try.results18, go_sem, z0, z1, z2]) rfl ⟨_, rfl, H.out.bel hb, Kt.of_bel hb⟩
end Go.Proofs.Ytffegfidaolgjaa
