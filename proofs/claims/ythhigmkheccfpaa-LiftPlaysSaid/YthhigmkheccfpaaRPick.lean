/- The reference's lift: the key that is served next. -/
import Derived.Test.YthhigmkheccfpaaRAdd
import Derived.BigRegion
import Derived.RegionTactic
set_option linter.unusedVariables false
set_option linter.unusedSimpArgs false
namespace Go.Proofs.Ythhigmkheccfpaa
open Go.RowKit
theorem inb_gen2 {n : Nat} {Q : Exit → Go.Act → World → Prop} {x : Exit} {a : Go.Act} {w : World} (Φ : World → Prop) (hΦ : Φ w) (h : ∀ W, Φ W → Exit.inBlock n Q x a W) : Exit.inBlock n Q x a w := h w hΦ
def rbest (s : LS) : Nat → Nat
  | 0 => 0
  | n + 1 => if n ≠ 0 ∧ bet s n (rbest s n) = true then n else rbest s n
theorem rbest_lt (s : LS) : ∀ n, 0 < n → rbest s n < n := by
  intro n
  induction n with
  | zero => intro h; omega
  | succ n ih =>
    intro _
    unfold rbest
    split
    · omega
    · by_cases h : n = 0
      · subst h; simp [rbest]
      · have := ih (by omega); omega
def rpickK (s : LS) : Int := if 0 < s.rs.length then (nth s.rs (rbest s s.rs.length)).f0 else 0
def rpickS (s : LS) : LS := if 0 < s.rs.length then { s with rs := (cut s.rs (rbest s s.rs.length)).map inc, head := rpickK s + 1 } else s
theorem incK_f0 (l : List El) (k : Nat) : (incK l k).map El.f0 = l.map El.f0 := by
  unfold incK
  rw [List.map_append, List.map_map]
  have : (El.f0 ∘ inc) = El.f0 := by funext x; rfl
  rw [this, ← List.map_append, List.take_append_drop]
theorem incK_f1 (l : List El) (k : Nat) (h : k < l.length) : ((incK l k).map El.f1).set k ((nth l k).f1 + 1) = (incK l (k + 1)).map El.f1 := by
  rw [← incK_step l k h, List.map_set]
theorem setZ {w : World} {base : Nat} {v : Value} {l : List Int} (h : KZ.Row w base v l) {k : Nat} (hk : k < l.length) (x : Int) :
    ∃ g' c, v = .slice (some ⟨g', 0, none⟩) l.length c ∧ w.frozen? ⟨g', k, none⟩ = false ∧ KZ.Row (w.setCell ⟨g', k, none⟩ (.int .i64 x)) base v (l.set k x) ∧ w.grownBy (w.setCell ⟨g', k, none⟩ (.int .i64 x)) v.ownBlock := by
  obtain ⟨g', c, e, _, h1, h2, h3⟩ := h.setW (k := k) (j := 0) hk (by decide) x (.int .i64 x) rfl
  have hm : k * KZ.m + 0 = k := by have : KZ.m = 1 := rfl; rw [this]; omega
  rw [hm] at h1 h2 h3
  exact ⟨g', c, e, h1, h2, h3⟩
set_option maxHeartbeats 8000000 in
set_option maxRecDepth 100000 in
theorem pickR (w : World) (base g : Nat) (vk vw : Value) (s : LS) (hlen : s.rs.length ≤ 256) (hsm : ∀ x ∈ s.rs, 0 ≤ x.f1 ∧ x.f1 ≤ 1000000) (hky : ∀ x ∈ s.rs, 0 ≤ x.f0 ∧ x.f0 < 1099511627776) (hbase : base ≤ w.heap.size) (h : IsR w base g vk vw s) :
    Calls Try.prog 13 #[PT g] w fun e w' => ∃ vk' vw', e = .returned (.tuple #[.int .i64 (rpickK s), .bool (decide (0 < s.rs.length))]) ∧ IsR w' base g vk' vw' (rpickS s) ∧ Kt 3 base g w w' := by
  have H := Lib.hid h
  have hblk := h.blk
  obtain ⟨A, c, rfl, hc, hR⟩ := readsZ h.keys
  obtain ⟨A2, c2, rfl, hc2, hR2⟩ := readsZ h.wait
  rw [List.length_map, List.length_map] at hblk
  rw [List.length_map] at hc hc2 hR hR2
  by_cases h0 : 0 < s.rs.length
  · have hlt := rbest_lt s _ h0
    have eK : rpickK s = (nth s.rs (rbest s s.rs.length)).f0 := by unfold rpickK; rw [if_pos h0]
    have eS : rpickS s = { s with rs := (cut s.rs (rbest s s.rs.length)).map inc, head := (nth s.rs (rbest s s.rs.length)).f0 + 1 } := by unfold rpickS; rw [if_pos h0, eK]
    have eB : decide (0 < s.rs.length) = true := decide_eq_true h0
    rw [eK, eS, eB]
    have hkey := hky _ (nth_mem hlt)
    obtain ⟨gk, rfl, _, _, _, hk1⟩ := hR h0
    have HCE : Hid (∀ wx, Bel w wx → wx.cell? ⟨g, 2, none⟩ = some (.slice (some ⟨gk, 0, none⟩) s.rs.length c) ∧ ∀ j, j < s.rs.length → wx.cell? ⟨gk, j, none⟩ = some (.int .i64 (nth s.rs j).f0)) := Lib.hid (fun wx hb => ⟨blk_cell (blk_below hblk hb) 2, fun j hj => by
      have a0 := (hk1 j hj).1
      rw [gi_map El.f0 _ hj] at a0
      exact cellB hb a0⟩)
    have KB := Lib.hid (fun wx (hb : Bel w wx) i k hi hk => betterR wx base g _ _ s i k hi hk (by omega) (h.bel hb))
    have KO := Lib.hid (fun wx (hb : Bel w wx) => outR wx base g _ _ s (rbest s s.rs.length) hlt (by omega) (Nat.le_trans hbase hb.size) (h.bel hb))
    have HCUT : Hid (∀ j, j < (cut s.rs (rbest s s.rs.length)).length → 0 ≤ (nth (cut s.rs (rbest s s.rs.length)) j).f1 ∧ (nth (cut s.rs (rbest s s.rs.length)) j).f1 ≤ 1000000) := Lib.hid (fun j hj => hsm _ (mem_cut (nth_mem hj)))
    have hcl := cut_len hlt
    have d1 : decide ((s.rs.length : Int) = 0) = false := decide_eq_false (by omega)
    have d2 : ((s.rs.length : Int) == 0) = false := beq_false_of_ne (by omega)
    have hb0 := (HCE.out w (Bel.refl w)).1
    clear eK eS eB hR hR2 hk1 hblk hsm hky h
    generalize hn : s.rs.length = n at *
    have HN := Lib.hid hn
    clear hn
    go_enter Try.func13, Try.ntmps13
    go_wp2_with fail
    have HX0 : Hid (Bel w w) := Lib.hid (Bel.refl w)
    go_loopw [4, 5, 6] (fun v4 v5 v6 wr => ∃ (i : Nat), v5 = .int .i64 i ∧ v4 = .int .i64 (rbest s i) ∧ 1 ≤ i ∧ i ≤ n ∧ Hid (Bel w wr)) (fun _ v5 _ _ => n - (intOf v5).toNat)
    case atStart => exact ⟨1, rfl, by simp [rbest], by omega, by omega, HX0⟩
    case round =>
      obtain ⟨wo, rfl⟩ : ∃ wo : World, wo = wr := ⟨_, rfl⟩
      obtain ⟨i, rfl, rfl, hi1, hi, HI⟩ := hrel
      clear HX0 hb0
      have q2 := (HCE.out wo HI.out).1
      by_cases hil : i < n
      · have hil' : decide ((i : Int) < (n : Int)) = true := by simp; omega
        have hrl := rbest_lt s i (by omega)
        have KBx := Lib.hid (KB.out wo HI.out i (rbest s i) (by omega) (by omega))
        have hnx : rbest s (i + 1) = if bet s i (rbest s i) = true then i else rbest s i := by
          show (if i ≠ 0 ∧ bet s i (rbest s i) = true then i else rbest s i) = _
          by_cases hb : bet s i (rbest s i) = true
          · rw [if_pos ⟨by omega, hb⟩, if_pos hb]
          · rw [if_neg (fun e => hb e.2), if_neg hb]
        cases hb : bet s i (rbest s i)
        · rw [hb] at KBx hnx
          simp only [Bool.false_eq_true, if_false] at hnx
          have HNX := Lib.hid hnx
          clear hnx hb
          generalize hrb : rbest s i = b at *
          clear hrb
          go_wp2_with fail
          refine KBx.out.mono ?_
          rintro e w1 ⟨rfl, hb1⟩
          have HB1 := Lib.hid (HI.out.trans hb1)
          clear hb1 q2
          go_wp2_with fail
          exact ⟨⟨i + 1, by congr 1, by rw [HNX.out], by omega, by omega, HB1⟩, by simp [intOf]; omega⟩
        · rw [hb] at KBx hnx
          simp only [if_true] at hnx
          have HNX := Lib.hid hnx
          clear hnx hb
          generalize hrb : rbest s i = b at *
          clear hrb
          go_wp2_with fail
          refine KBx.out.mono ?_
          rintro e w1 ⟨rfl, hb1⟩
          have HB1 := Lib.hid (HI.out.trans hb1)
          clear hb1 q2
          go_wp2_with fail
          exact ⟨⟨i + 1, by congr 1, by rw [HNX.out], by omega, by omega, HB1⟩, by simp [intOf]; omega⟩
      · have hil' : decide ((i : Int) < (n : Int)) = false := by simp; omega
        have hin : i = n := by omega
        rw [hin]
        have x0 := (HCE.out wo HI.out).2 _ hlt
        have KOx := Lib.hid (KO.out wo HI.out)
        clear hin
        generalize hB : rbest s n = B at *
        have HBe := Lib.hid hB
        clear hB
        generalize hKe : (nth s.rs B).f0 = key at *
        have HKe := Lib.hid hKe
        clear hKe
        go_wp2_with fail
        refine KOx.out.mono ?_
        rintro e w2 ⟨vk', vw', rfl, hr2, hk2⟩
        generalize hl : cut s.rs B = l at *
        have hbo := HI.out
        have HX2 : Hid (∃ vk vw, IsR w2 base g vk vw ⟨s.age, s.head, s.added, incK l 0⟩ ∧ Kt 3 base g w w2) := Lib.hid ⟨vk', vw', by rw [incK_zero]; exact hr2, (Kt.of_bel hbo).trans hk2⟩
        have hln : l.length = n - 1 := hcl
        obtain ⟨m, hm⟩ : ∃ m, m = l.length := ⟨_, rfl⟩
        rw [← hm] at hln HCUT
        have HM := Lib.hid hm
        have HLC := Lib.hid hl
        have HLN := Lib.hid hln
        have hmb : m ≤ 256 := by omega
        clear hr2 hk2 hbo KOx KO KB HCE HI q2 x0 hcl hm hl hln
        go_wp2_with fail
        go_loopw [8] (fun v8 wr => ∃ (j : Nat), v8 = .int .i64 j ∧ j ≤ m ∧ Hid (∃ vk vw, IsR wr base g vk vw ⟨s.age, s.head, s.added, incK l j⟩ ∧ Kt 3 base g w wr)) (fun v8 _ => m - (intOf v8).toNat)
        case atStart => exact ⟨0, rfl, by omega, HX2⟩
        case round =>
          obtain ⟨wp, rfl⟩ : ∃ wp : World, wp = wr := ⟨_, rfl⟩
          obtain ⟨j, rfl, hj, HJ⟩ := hrel
          clear HX2
          obtain ⟨vk3, vw3, hr3, hk3⟩ := HJ.out
          have hb3 := hr3.blk
          obtain ⟨A3, c3, rfl, _, hR3⟩ := readsZ hr3.wait
          have hwl : (List.map El.f1 (incK l j)).length = m := by rw [List.length_map, incK_len, HM.out]
          have H3 := Lib.hid (And.intro hr3 hk3)
          rw [hwl] at hb3 hR3
          have q3 := blk_cell hb3 3
          by_cases hjm : j < m
          · have hj' : decide ((j : Int) < (m : Int)) = true := by simp; omega
            obtain ⟨g3, rfl, _, _, _, hc3⟩ := hR3 (by omega)
            have x1 := (hc3 j hjm).1
            have f1 := (hc3 j hjm).2
            have hjl : j < l.length := by rw [← HM.out]; exact hjm
            rw [gi_map El.f1 _ (by rw [incK_len]; exact hjl), incK_nth l j hjl] at x1
            obtain ⟨hx0, hx1⟩ := HCUT.out j hjm
            obtain ⟨g', c', e', _, hset, hgr⟩ := setZ H3.out.1.wait (k := j) (by rw [hwl]; exact hjm) ((nth l j).f1 + 1)
            rw [incK_f1 l j hjl] at hset
            simp only [Value.slice.injEq, Option.some.injEq, Addr.mk.injEq, and_true] at e'
            obtain ⟨rfl, _, _⟩ := e'
            have hng : g3 ≠ g := fun e => by
              have := H3.out.1.wait.ne_blk H3.out.1.blk (by decide)
              rw [e] at this; exact this rfl
            have hkk : KZ.Row (wp.setCell ⟨g3, j, none⟩ (.int .i64 ((nth l j).f1 + 1))) base vk3 ((incK l (j + 1)).map El.f0) := by
              have h1 := H3.out.1.keys
              rw [incK_f0] at h1 ⊢
              exact h1.set_off ⟨g3, j, none⟩ (fun e => H3.out.1.apart _ e rfl) _
            have HN3 : Hid (∃ vk vw, IsR (wp.setCell ⟨g3, j, none⟩ (.int .i64 ((nth l j).f1 + 1))) base g vk vw ⟨s.age, s.head, s.added, incK l (j + 1)⟩ ∧ Kt 3 base g w (wp.setCell ⟨g3, j, none⟩ (.int .i64 ((nth l j).f1 + 1)))) := Lib.hid ⟨vk3, _, ⟨setc_off H3.out.1.blk hng.symm _, hkk, hset, H3.out.1.apart⟩, hk3.trans (Kt.of_grown hgr H3.out.1.wait)⟩
            generalize (nth l j).f1 = y at *
            have hw1 : IntKind.i64.wrap (y + 1) = y + 1 := w64i (by omega) (by omega)
            clear hset hgr hng hkk hr3 hk3 hb3 hR3 hc3 H3 HJ hwl hjl
            go_wp2_with fail
            go_region
            refine inb_gen2 (fun W => ∃ vk vw, IsR W base g vk vw ⟨s.age, s.head, s.added, incK l (j + 1)⟩ ∧ Kt 3 base g w W) (by obtain ⟨a, b, h1, h2⟩ := HN3.out; exact ⟨a, b, h1.bel (Bel.drew _), h2.trans (Kt.of_bel (Bel.drew _))⟩) ?_
            rintro W5 hW5
            have HW5 := Lib.hid hW5
            clear hW5 HN3 q3 x1 f1
            go_wp2_with fail
            exact ⟨⟨j + 1, by congr 1, by omega, HW5⟩, by simp [intOf]; omega⟩
          · have hj' : decide ((j : Int) < (m : Int)) = false := by simp; omega
            have hjm2 : j = m := by omega
            have hall : incK l j = l.map inc := by rw [hjm2, HM.out]; exact incK_all l
            rw [hall] at H3
            have q1 := blk_cell H3.out.1.blk 1
            have f1 := blk_frozen H3.out.1.blk 1
            have hset := setc_blk (i := 1) H3.out.1.blk (.int .i64 (key + 1))
            have hn4 := H3.out.1.keys.set_off ⟨g, 1, none⟩ (H3.out.1.keys.ne_blk H3.out.1.blk (by decide)) (.int .i64 (key + 1))
            have hn5 := H3.out.1.wait.set_off ⟨g, 1, none⟩ (H3.out.1.wait.ne_blk H3.out.1.blk (by decide)) (.int .i64 (key + 1))
            have hkt := H3.out.2.trans (Kt.of_set (E := 3) (base := base) ⟨g, 1, none⟩ rfl (.int .i64 (key + 1)))
            have HF := Lib.hid (And.intro hset (And.intro hn4 (And.intro hn5 (And.intro hkt H3.out.1.apart))))
            have hw1 : IntKind.i64.wrap (key + 1) = key + 1 := w64i (by omega) (by omega)
            clear hset hn4 hn5 hkt hall hjm2 hr3 hk3 hb3 hR3 H3 HJ hwl
            go_wp2_with fail
            go_ret2
            have HI : IsR _ base g _ _ ⟨s.age, key + 1, s.added, (cut s.rs B).map inc⟩ := ⟨HF.out.1, by rw [HLC.out]; exact HF.out.2.1, by rw [HLC.out]; exact HF.out.2.2.1, HF.out.2.2.2.2⟩
            rw [HBe.out, HKe.out]
            exact ⟨rfl, ⟨_, _, HI⟩, HF.out.2.2.2.1⟩
  · have eK : rpickK s = 0 := by unfold rpickK; rw [if_neg h0]
    have eS : rpickS s = s := by unfold rpickS; rw [if_neg h0]
    have eB : decide (0 < s.rs.length) = false := decide_eq_false h0
    rw [eK, eS, eB]
    have hn0 : s.rs.length = 0 := by omega
    rw [hn0] at hblk
    have q2 := blk_cell hblk 2
    clear eK eS eB hR hR2 hblk hc hc2 hn0 h0 hsm hky h
    go_enter Try.func13, Try.ntmps13
    go_wp2_with fail
    go_ret2
    first | exact ⟨_, _, rfl, H.out, Kt.refl _ _ _ _⟩ | exact ⟨rfl, ⟨_, _, H.out⟩, Kt.refl _ _ _ _⟩
end Go.Proofs.Ythhigmkheccfpaa
