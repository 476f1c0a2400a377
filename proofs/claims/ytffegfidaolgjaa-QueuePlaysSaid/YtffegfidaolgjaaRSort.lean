/- The reference's queue: its items by rising blocks. -/
import Derived.Test.YtffegfidaolgjaaRef
set_option linter.unusedVariables false
set_option linter.unusedSimpArgs false
namespace Go.Proofs.Ytffegfidaolgjaa
open Go.RowKit
/-- rs is l by rising blocks. -/
structure SortOf (l rs : List El) : Prop where
  len : l.length = rs.length
  up : Rising rs
  mem : ∀ x, x ∈ rs ↔ x ∈ l
  key : ∀ x ∈ rs, 0 ≤ x.f0
def lastOf (rs : List El) (n : Nat) : Int := if n = 0 then -1 else (nth rs (n - 1)).f0
def BestAt (l : List El) (last : Int) (i : Nat) (v : Int) : Prop :=
  (v = -1 ∧ ∀ j, j < i → (nth l j).f0 ≤ last) ∨ ∃ b : Nat, b < i ∧ v = b ∧ last < (nth l b).f0 ∧ ∀ j, j < i → last < (nth l j).f0 → (nth l b).f0 ≤ (nth l j).f0
theorem best_zero (l : List El) (last : Int) : BestAt l last 0 (-1) := .inl ⟨rfl, fun j h => by omega⟩
theorem best_no {l : List El} {last v : Int} {i : Nat} (h : BestAt l last i v) (hy : ¬ last < (nth l i).f0) : BestAt l last (i + 1) v := by
  rcases h with ⟨rfl, h⟩ | ⟨b, hb, rfl, h1, h2⟩
  · refine .inl ⟨rfl, fun j hj => ?_⟩
    by_cases e : j = i
    · subst e; omega
    · exact h j (by omega)
  · refine .inr ⟨b, by omega, rfl, h1, fun j hj hl => ?_⟩
    by_cases e : j = i
    · subst e; omega
    · exact h2 j (by omega) hl
theorem best_first {l : List El} {last : Int} {i : Nat} (h : BestAt l last i (-1)) (hy : last < (nth l i).f0) : BestAt l last (i + 1) i := by
  rcases h with ⟨_, h⟩ | ⟨b, hb, e, h1, h2⟩
  · refine .inr ⟨i, by omega, rfl, hy, fun j hj hl => ?_⟩
    by_cases e : j = i
    · subst e; exact Int.le_refl _
    · have := h j (by omega); omega
  · omega
theorem best_new {l : List El} {last : Int} {i b : Nat} (h : BestAt l last i b) (hy : last < (nth l i).f0) (hb : (nth l i).f0 < (nth l b).f0) : BestAt l last (i + 1) i := by
  rcases h with ⟨e, h⟩ | ⟨b', hb', e, h1, h2⟩
  · omega
  · obtain rfl : b = b' := by omega
    refine .inr ⟨i, by omega, rfl, hy, fun j hj hl => ?_⟩
    by_cases e : j = i
    · subst e; exact Int.le_refl _
    · have := h2 j (by omega) hl; omega
theorem best_old {l : List El} {last : Int} {i b : Nat} (h : BestAt l last i b) (hb : ¬ (nth l i).f0 < (nth l b).f0) : BestAt l last (i + 1) b := by
  rcases h with ⟨e, h⟩ | ⟨b', hb', e, h1, h2⟩
  · omega
  · obtain rfl : b = b' := by omega
    refine .inr ⟨b, by omega, rfl, h1, fun j hj hl => ?_⟩
    by_cases e : j = i
    · subst e; omega
    · exact h2 j (by omega) hl
theorem last_lt {rs : List El} (hup : Rising rs) (hk : ∀ x ∈ rs, 0 ≤ x.f0) {n : Nat} (hn : n < rs.length) : lastOf rs n < (nth rs n).f0 := by
  unfold lastOf
  by_cases h : n = 0
  · rw [if_pos h]; have := hk _ (nth_mem hn); omega
  · rw [if_neg h]; exact hup (n - 1) n (by omega) hn
theorem best_end {l rs : List El} (hs : SortOf l rs) {n : Nat} (hn : n < rs.length) {v : Int} (h : BestAt l (lastOf rs n) l.length v) : ∃ b : Nat, b < l.length ∧ v = b ∧ nth l b = nth rs n := by
  have hm := (hs.mem _).1 (nth_mem hn)
  obtain ⟨j, hj, ej⟩ := mem_nth hm
  have hlt := last_lt hs.up hs.key hn
  rcases h with ⟨_, h⟩ | ⟨b, hb, rfl, h1, h2⟩
  · have := h j hj; rw [ej] at this; omega
  · refine ⟨b, hb, rfl, ?_⟩
    have h3 := h2 j hj (by rw [ej]; exact hlt)
    rw [ej] at h3
    obtain ⟨m, hm, em⟩ := mem_nth ((hs.mem _).2 (nth_mem hb))
    rw [← em]
    have e : m = n := by
      rcases Nat.lt_trichotomy m n with hl | hl | hl
      · exfalso
        rw [← em] at h1
        unfold lastOf at h1
        rw [if_neg (by omega)] at h1
        by_cases e : m = n - 1
        · subst e; omega
        · have := hs.up m (n - 1) (by omega) (by omega); omega
      · exact hl
      · exfalso
        have := hs.up n m hl hm
        rw [em] at this
        omega
    rw [e]
theorem last_succ (rs : List El) (n : Nat) : lastOf rs (n + 1) = (nth rs n).f0 := by unfold lastOf; rw [if_neg (by omega), Nat.add_sub_cancel]
theorem take_succ_nth {rs : List El} {n : Nat} (h : n < rs.length) : rs.take (n + 1) = rs.take n ++ [nth rs n] := by
  rw [List.take_succ_eq_append_getElem h, nth_el h]
theorem info44 : (Try.prog.info? 44).map (fun i => (i.zero, i.size, i.bytes)) = some (some (.agg #[.int .i64 0, .string ⟨#[]⟩, .int .i64 0]), 3, 32) := by kernel_rfl
set_option maxHeartbeats 8000000 in
set_option maxRecDepth 100000 in
theorem sortR (w : World) (base g : Nat) (v : Value) (s : QS) (rs : List El) (h : IsR w base g v s) (hs : SortOf s.rs rs) (hlen : s.rs.length ≤ 1000) :
    Calls Try.prog 34 #[PT g] w fun e w' => ∃ v', e = .returned v' ∧ KI.Row w' w.heap.size v' rs ∧ Bel w w' := by
  obtain ⟨A, c, rfl, hc, hR⟩ := readsR h.row
  have c1 : w.cell? ⟨g, 1, none⟩ = some (.slice A s.rs.length c) := blk_cell h.blk 1
  have C1 := Lib.hid c1
  have HR := Lib.hid hR
  have HS := Lib.hid hs
  clear h hR hs
  generalize s.rs = l at *
  generalize hn : l.length = N at *
  have HN := Lib.hid hn
  clear hn
  go_enter Try.func34, Try.ntmps34
  go_wp2_with fail
  have HX0 : Hid (KI.Row w w.heap.size (.slice none 0 0) (rs.take 0) ∧ Bel w w) := Lib.hid ⟨by simpa using Enc.Row.nil _ _, Bel.refl _⟩
  go_loopw [3, 4, 5, 6, 7, 8] (fun v3 v4 v5 v6 v7 v8 wr => ∃ (n : Nat), v5 = .int .i64 n ∧ v4 = .int .i64 (lastOf rs n) ∧ n ≤ N ∧ Hid (KI.Row wr w.heap.size v3 (rs.take n) ∧ Bel w wr)) (fun _ _ v5 _ _ _ _ => N - (intOf v5).toNat)
  case atStart => exact ⟨0, rfl, rfl, by omega, HX0⟩
  case round =>
    obtain ⟨wo, rfl⟩ : ∃ wo : World, wo = wr := ⟨_, rfl⟩
    obtain ⟨n, rfl, rfl, hn, HI⟩ := hrel
    have c1 := cellB HI.out.2 C1.out
    clear HX0
    by_cases hlt : n < N
    · have hlt' : decide ((n : Int) < (N : Int)) = true := by simp; omega
      have HLS : Hid (lastOf rs n = lastOf rs n) := Lib.hid rfl
      obtain ⟨L, hL⟩ : ∃ L, L = lastOf rs n := ⟨_, rfl⟩
      rw [← hL]
      have HL := Lib.hid hL
      clear hL HLS
      go_wp2_with fail
      go_loopw [6, 7, 8] (fun v6 v7 v8 wr => ∃ (i : Nat) (b : Int), v7 = .int .i64 i ∧ v6 = .int .i64 b ∧ i ≤ N ∧ wr = wo ∧ Hid (BestAt l L i b)) (fun _ v7 _ _ => N - (intOf v7).toNat)
      case atStart => exact ⟨0, -1, rfl, rfl, by omega, rfl, Lib.hid (best_zero l L)⟩
      case round =>
        obtain ⟨i, b, rfl, rfl, hi, rfl, HB⟩ := hrel
        by_cases hil : i < N
        · have hil' : decide ((i : Int) < (N : Int)) = true := by simp; omega
          obtain ⟨ad, rfl, hcells⟩ := RC.some HR.out (by rw [HN.out]; omega)
          have x0 := (hcells _ HI.out.2 i (by rw [HN.out]; exact hil)).1
          have HCE := Lib.hid (fun (b : Nat) (hb : b < N) => (hcells _ HI.out.2 b (by rw [HN.out]; exact hb)).1)
          obtain ⟨y, hy⟩ : ∃ y, y = (nth l i).f0 := ⟨_, rfl⟩
          rw [← hy] at x0
          have HY := Lib.hid hy
          clear hy hcells
          by_cases hly : L < y
          · have e1 : decide (L < y) = true := decide_eq_true hly
            have e1' : decide (y > L) = true := decide_eq_true hly
            rcases HB.out with ⟨hb1, _⟩ | ⟨b', hbi, hb1, _, _⟩
            · subst hb1
              have hfin : Hid (BestAt l L (i + 1) i) := Lib.hid (best_first HB.out (by rw [← HY.out]; exact hly))
              clear HB hly HCE
              go_wp2_with fail
              exact ⟨⟨i + 1, i, by first | (congr 1; done) | (congr 1; omega), rfl, by omega, trivial, hfin⟩, by simp [intOf]; omega⟩
            · subst hb1
              have e2 : decide ((b' : Int) < 0) = false := decide_eq_false (by omega)
              have hbN : b' < N := by omega
              have z0 := HCE.out b' hbN
              obtain ⟨z, hz⟩ : ∃ z, z = (nth l b').f0 := ⟨_, rfl⟩
              rw [← hz] at z0
              have HZ := Lib.hid hz
              clear hz
              by_cases hyz : y < z
              · have e3 : decide (y < z) = true := decide_eq_true hyz
                have hfin : Hid (BestAt l L (i + 1) i) := Lib.hid (best_new HB.out (by rw [← HY.out]; exact hly) (by rw [← HY.out, ← HZ.out]; exact hyz))
                clear HB hly HCE hyz hbi
                go_wp2_with fail
                exact ⟨⟨i + 1, i, by first | (congr 1; done) | (congr 1; omega), rfl, by omega, trivial, hfin⟩, by simp [intOf]; omega⟩
              · have e3 : decide (y < z) = false := decide_eq_false hyz
                have hfin : Hid (BestAt l L (i + 1) b') := Lib.hid (best_old HB.out (by rw [← HY.out, ← HZ.out]; exact hyz))
                clear HB hly HCE hyz hbi
                go_wp2_with fail
                exact ⟨⟨i + 1, b', by first | (congr 1; done) | (congr 1; omega), rfl, by omega, trivial, hfin⟩, by simp [intOf]; omega⟩
          · have e1 : decide (L < y) = false := decide_eq_false hly
            have e1' : decide (y > L) = false := decide_eq_false hly
            have hfin : Hid (BestAt l L (i + 1) b) := Lib.hid (best_no HB.out (by rw [← HY.out]; exact hly))
            clear HB hly HCE
            go_wp2_with fail
            exact ⟨⟨i + 1, b, by first | (congr 1; done) | (congr 1; omega), rfl, by omega, trivial, hfin⟩, by simp [intOf]; omega⟩
        · have hil' : decide ((i : Int) < (N : Int)) = false := by simp; omega
          have hiN : i = N := by omega
          obtain ⟨b', hb', hbe, hnb⟩ := best_end HS.out (by rw [← HS.out.len, HN.out]; exact hlt) (by rw [← HL.out, HN.out, ← hiN]; exact HB.out)
          subst hbe
          rw [HN.out] at hb'
          obtain ⟨ad, rfl, hcells⟩ := RC.some HR.out (by rw [HN.out]; omega)
          obtain ⟨x0, x1, x2⟩ := hcells _ HI.out.2 b' (by rw [HN.out]; exact hb')
          have HCE := Lib.hid (fun wx (hb : Bel w wx) => (hcells wx hb b' (by rw [HN.out]; exact hb')).1)
          rw [hnb] at x0 x1 x2 HCE
          have HTK := Lib.hid (take_succ_nth (rs := rs) (n := n) (by rw [← HS.out.len, HN.out]; exact hlt))
          have HLS := Lib.hid (last_succ rs n)
          generalize nth rs n = y at *
          have hy : [Value.int .i64 y.f0, .string y.f1, .int .i64 y.f2] = KI.enc y := rfl
          have HRow := Lib.hid HI.out.1
          have HBl := Lib.hid HI.out.2
          have hlen2 : (rs.take n).length ≤ 1000000 := by rw [List.length_take]; omega
          have HLE := Lib.hid hlen2
          clear hcells HB hlen2 hnb hiN HI hy
          go_wp2_with (at_builtin; refine Enc.Row.append (K := KI) (W := wr) (base := w.heap.size) HRow.out y rfl _ _ 49 rfl (.agg #[.int .i64 0, .string ⟨#[]⟩, .int .i64 0]) 32 Try.underlying49 info44 rfl (by decide) rfl rfl HLE.out HBl.out.size ?_; intro v3 w3 ho hg; have HO3 := Lib.hid ho; have hb3 := Enc.Row.bel_grown HRow.out HBl.out hg (Nat.le_refl _); have d1 := cellB hb3 C1.out; have d0 := HCE.out _ hb3; have HB3 := Lib.hid hb3; clear ho hg hb3)
          exact ⟨⟨n + 1, by congr 1, by rw [HLS.out], by omega, Lib.hid ⟨by rw [HTK.out]; exact HO3.out, HB3.out⟩⟩, by simp [intOf]; omega⟩
    · have hlt' : decide ((n : Int) < (N : Int)) = false := by simp; omega
      have hnN : n = N := by omega
      have hfin : Hid (KI.Row wo w.heap.size u3 rs ∧ Bel w wo) := Lib.hid ⟨by
        have := HI.out.1
        rwa [hnN, ← HN.out, HS.out.len, List.take_length] at this, HI.out.2⟩
      clear HI hnN
      go_wp2_with fail
      exact bodyPost_ret (v := u3) (by simp [results, Try.results34, go_sem]) rfl ⟨u3, rfl, hfin.out.1, hfin.out.2⟩
end Go.Proofs.Ytffegfidaolgjaa
