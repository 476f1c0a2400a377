/- Queue: a block is taken; other blocks of memory stay. -/
import Derived.Test.YtffegfidaolgjaaQTake
set_option linter.unusedVariables false
set_option linter.unusedSimpArgs false
namespace Go.Proofs.Ytffegfidaolgjaa
open Go.RowKit
/-- All blocks but g and the row's own stay. -/
def Ko (g : Nat) (v : Value) (w w' : World) : Prop := ∀ k, k < w.heap.size → k ≠ g → some k ≠ v.ownBlock → w'.heap[k]? = w.heap[k]?
theorem Ko.of_bel {g : Nat} {v : Value} {w w' : World} (h : Bel w w') : Ko g v w w' := fun k hk _ _ => h.block k hk
theorem Ko.trans {g : Nat} {v : Value} {a b c : World} (h : Ko g v a b) (hz : a.heap.size ≤ b.heap.size) (k : Ko g v b c) : Ko g v a c := fun i hi h1 h2 => (k i (Nat.lt_of_lt_of_le hi hz) h1 h2).trans (h i hi h1 h2)
theorem Ko.of_grown {g : Nat} {v : Value} {w w' : World} (h : w.grownBy w' v.ownBlock) : Ko g v w w' := fun k hk _ h2 => h.block k hk h2
theorem Ko.of_set {g : Nat} {v : Value} {w : World} (o : Nat) (u : Value) : Ko g v w (w.setCell ⟨g, o, none⟩ u) := fun k _ h1 _ => Below.heap_setCell w ⟨g, o, none⟩ u k h1
theorem Ko.set {g : Nat} {v : Value} {w w' : World} (h : Ko g v w w') {m : Nat} (hm : w.heap.size ≤ m) (o : Nat) (u : Value) : Ko g v w (w'.setCell ⟨m, o, none⟩ u) := fun k hk h1 h2 => (Below.heap_setCell w' ⟨m, o, none⟩ u k (by show k ≠ m; omega)).trans (h k hk h1 h2)
theorem Ko.setBox {g : Nat} {v : Value} {w w' : World} (h : Ko g v w w') (a b c : Value) : Ko g v w (((w'.setCell ⟨w.heap.size, 0, none⟩ a).setCell ⟨w.heap.size, 1, none⟩ b).setCell ⟨w.heap.size, 2, none⟩ c) :=
  ((h.set (Nat.le_refl _) 0 a).set (Nat.le_refl _) 1 b).set (Nat.le_refl _) 2 c
theorem setg_size (w : World) (p : Addr) (u : Value) : w.heap.size ≤ (w.setCell p u).heap.size := ((Below.refl 0 w).setCell (p := p) (Nat.zero_le _) u).size
set_option maxHeartbeats 8000000 in
set_option maxRecDepth 100000 in
theorem takeQ2 (w : World) (base g : Nat) (v : Value) (s : QS) (key : Int) (hs : Rising s.rs) (hlen : s.rs.length ≤ 256) (hbase : base ≤ w.heap.size) (h : IsQ w base g v s) :
    Calls Try.prog 13 #[PT g, .int .i64 key] w fun e w' => ∃ v', e = .returned (.tuple #[elV (takeV s key), .bool (has s key)]) ∧ IsQ w' base g v' (takeS s key) ∧ Kp base g w w' ∧ Ko g v w w' := by
  have K := Lib.hid (fun w h => findP w base g v s key hs (by omega) h)
  have H := Lib.hid h
  have hn := nil24
  have hgl := blk_lt h.blk
  have h0row := Lib.hid h.row
  have hin : has s key = true → pos s.rs key < s.rs.length := fun h => by unfold has isAt at h; simp at h; exact h.1
  clear h hs
  cases hh : has s key
  · have hS : takeS s key = s := by unfold takeS; rw [hh]; simp
    have hV : takeV s key = el0 := by unfold takeV; rw [hh]; simp
    rw [hh] at K
    rw [hS, hV]
    clear hin hh hS hV
    go_enter Try.func13, Try.ntmps13
    go_wp2_with fail
    refine calls_gen (fun W => Bel w W ∧ W.heap[w.heap.size]? = some (.cells #[.int .i64 0, .string ⟨#[]⟩, .int .i64 0] 33 (0, 0))) ⟨Bel.alloc _ _, heap_alloc_new _ _⟩ ?_
    rintro W0 ⟨hB0, hp⟩
    refine (K.out _ (H.out.bel hB0)).mono ?_
    rintro e w1 ⟨rfl, hb1⟩
    have hp1 := blk_below hp hb1
    have HB := Lib.hid (hB0.trans hb1)
    have x0 := blk_cell hp1 0
    have x1 := blk_cell hp1 1
    have x2 := blk_cell hp1 2
    have y0 := blk_frozen hp1 0
    have y1 := blk_frozen hp1 1
    have y2 := blk_frozen hp1 2
    clear hB0 hp hb1 K
    go_wp2_with fail
    have hf := setI hp1 (.int .i64 0) (.string ⟨#[]⟩) (.int .i64 0)
    have hb := belI HB.out (Nat.le_refl w.heap.size) (.int .i64 0) (.string ⟨#[]⟩) (.int .i64 0)
    generalize (((w1.setCell ⟨w.heap.size, 0, none⟩ (.int .i64 0)).setCell ⟨w.heap.size, 1, none⟩ (.string ⟨#[]⟩)).setCell ⟨w.heap.size, 2, none⟩ (.int .i64 0)) = W at *
    have z0 := blk_cell hf 0
    have z1 := blk_cell hf 1
    have z2 := blk_cell hf 2
    exact bodyPost_ret (v := .tuple #[.agg #[.int .i64 0, .string ⟨#[]⟩, .int .i64 0], .bool false]) (by simp [results, Try.results13, go_sem, z0, z1, z2]) rfl ⟨v, rfl, H.out.bel hb, Kp.of_bel hb, Ko.of_bel hb⟩
  · have hS : takeS s key = { s with rs := cut s.rs (pos s.rs key) } := by unfold takeS; rw [if_pos hh]
    have hV : takeV s key = nth s.rs (pos s.rs key) := by unfold takeV; rw [if_pos hh]
    have hi := hin hh
    rw [hh] at K
    rw [hS, hV]
    clear hin hh hS hV
    obtain ⟨A, c, rfl⟩ := H.out.row.len
    have HD := Lib.hid (fun w1 (hr : Row w1 base (.slice A s.rs.length c) s.rs) => delRow2 w1 base (pos s.rs key) _ s.rs hr hi)
    have HRC := Lib.hid (fun w1 (hr : IsQ w1 base g (.slice A s.rs.length c) s) => show ∃ ad, A = some ad ∧ w1.cell? (ad.add (pos s.rs key * 3)) = some (.int .i64 (nth s.rs (pos s.rs key)).f0) ∧ w1.cell? ⟨(ad.add (pos s.rs key * 3)).block, (ad.add (pos s.rs key * 3)).off + 1, none⟩ = some (.string (nth s.rs (pos s.rs key)).f1) ∧ w1.cell? ⟨(ad.add (pos s.rs key * 3)).block, (ad.add (pos s.rs key * 3)).off + 2, none⟩ = some (.int .i64 (nth s.rs (pos s.rs key)).f2) from by
      obtain ⟨A', c', e, _, hR⟩ := hr.row.reads
      simp only [Value.slice.injEq] at e
      obtain ⟨ad, h1, h2, h3, h4⟩ := hR (pos s.rs key) hi
      exact ⟨ad, by rw [e.1]; exact h1, h2, h3, h4⟩)
    have hcl := cut_len hi
    generalize hrs : s.rs.length = n at *
    generalize hpp : pos s.rs key = i at *
    generalize nth s.rs i = x at *
    obtain ⟨x0, x1, x2⟩ := x
    simp only [] at HRC
    have hw1 : IntKind.i64.wrap ((i : Int) + 1) = (i : Int) + 1 := w64i (by omega) (by omega)
    go_enter Try.func13, Try.ntmps13
    go_wp2_with fail
    refine calls_gen (fun W => Bel w W ∧ W.heap[w.heap.size]? = some (.cells #[.int .i64 0, .string ⟨#[]⟩, .int .i64 0] 33 (0, 0)) ∧ W.heap.size = w.heap.size + 1) ⟨Bel.alloc _ _, heap_alloc_new _ _, by simp⟩ ?_
    rintro W0 ⟨hB0, hp, hsz⟩
    refine (K.out _ (H.out.bel hB0)).mono ?_
    rintro e w1 ⟨rfl, hb1⟩
    have H1 := Lib.hid (H.out.bel (hB0.trans hb1))
    have HP1 := Lib.hid (blk_below hp hb1)
    have HB1 := Lib.hid (hB0.trans hb1)
    obtain ⟨ad, rfl, y0, y1, y2⟩ := HRC.out _ H1.out
    have c2 := blk_cell H1.out.blk 1
    have c2' := fun o => cellB (Bel.alloc w1 o) c2
    have hne8 : w.heap.size ≠ w1.heap.size := by have := hB0.size; have := hb1.size; omega
    clear hB0 hp hb1 K H hsz HRC
    go_wp2_with fail
    refine calls_gen (fun W => IsQ W base g (.slice (some ad) n c) s ∧ W.heap[w.heap.size]? = some (.cells #[.int .i64 0, .string ⟨#[]⟩, .int .i64 0] 33 (0, 0)) ∧ W.heap[w1.heap.size]? = some (.cells #[.int .i64 x0, .string x1, .int .i64 x2] 33 (0, 0)) ∧ Bel w W) ⟨H1.out.bel (Bel.alloc _ _), blk_below HP1.out (Bel.alloc _ _), heap_alloc_new _ _, HB1.out.trans (Bel.alloc _ _)⟩ ?_
    rintro W2 ⟨hI2, hp2, hq2, hB2⟩
    have hs1 : some w.heap.size ≠ (Value.slice (some ad) n c).ownBlock := fun e => by
      obtain ⟨_, cs, h2⟩ := h0row.out.blk e.symm
      have := blk_lt h2
      omega
    have hs2 : some w1.heap.size ≠ (Value.slice (some ad) n c).ownBlock := fun e => by
      obtain ⟨_, cs, h2⟩ := H1.out.row.blk e.symm
      have := blk_lt h2
      omega
    refine (HD.out W2 hI2.row).mono ?_
    rintro e w3 ⟨v3, rfl, hr3, hg3, hob3⟩
    have hs3 : some w.heap.size ≠ v3.ownBlock := fun e => hs1 (e.trans hob3)
    clear hob3
    obtain ⟨A3, c3, rfl⟩ : ∃ A' c', v3 = .slice A' (n - 1) c' := by
      obtain ⟨A', c', h⟩ := hr3.len
      exact ⟨A', c', by rw [h]; congr 1⟩
    have hb3 := grown_blk hg3 hI2.row hI2.blk
    have hp3 := (hg3.block _ (blk_lt hp2) hs1).trans hp2
    have hq3 := (hg3.block _ (blk_lt hq2) hs2).trans hq2
    have c5 := blk_cell hb3 1
    have f5 := blk_frozen hb3 1
    have HB3 := Lib.hid hb3
    have HR3 := Lib.hid hr3
    have HK3 : Hid (Kp base g w w3 ∧ Ko g (.slice (some ad) n c) w w3) := Lib.hid ⟨(Kp.of_bel hB2).trans (Kp.of_grown hg3 hI2.row), (Ko.of_bel hB2).trans hB2.size (Ko.of_grown hg3)⟩
    -- the field is set; the boxes stand aside
    have hgw : w.heap.size ≠ g := by omega
    have hgw1 : w1.heap.size ≠ g := by have := HB1.out.size; omega
    have hI4 : IsQ (w3.setCell ⟨g, 1, none⟩ (.slice A3 (n - 1) c3)) base g (.slice A3 (n - 1) c3) { s with rs := cut s.rs i } := ⟨set1 hb3 _, hr3.setG hb3 ⟨g, 1, none⟩ rfl _⟩
    have hk4 : Kp base g w (w3.setCell ⟨g, 1, none⟩ (.slice A3 (n - 1) c3)) ∧ Ko g (.slice (some ad) n c) w (w3.setCell ⟨g, 1, none⟩ (.slice A3 (n - 1) c3)) := ⟨HK3.out.1.trans (Kp.of_set ⟨g, 1, none⟩ rfl (.slice A3 (n - 1) c3) : Kp base g w3 _), HK3.out.2.trans HK3.out.1.size (Ko.of_set 1 _)⟩
    have hp4 : (w3.setCell ⟨g, 1, none⟩ (.slice A3 (n - 1) c3)).heap[w.heap.size]? = some (.cells #[.int .i64 0, .string ⟨#[]⟩, .int .i64 0] 33 (0, 0)) := (Below.heap_setCell w3 ⟨g, 1, none⟩ _ _ hgw).trans hp3
    have hq4 : (w3.setCell ⟨g, 1, none⟩ (.slice A3 (n - 1) c3)).heap[w1.heap.size]? = some (.cells #[.int .i64 x0, .string x1, .int .i64 x2] 33 (0, 0)) := (Below.heap_setCell w3 ⟨g, 1, none⟩ _ _ hgw1).trans hq3
    have z0 := blk_cell hq4 0
    have z1 := blk_cell hq4 1
    have z2 := blk_cell hq4 2
    have t0 := blk_cell hp4 0
    have t1 := blk_cell hp4 1
    have t2 := blk_cell hp4 2
    have u0 := blk_frozen hp4 0
    have u1 := blk_frozen hp4 1
    have u2 := blk_frozen hp4 2
    have HI4 := Lib.hid hI4
    have HK4 := Lib.hid hk4
    have HP4 := Lib.hid hp4
    have HS3 : Hid (some w.heap.size ≠ (Value.slice A3 (n - 1) c3).ownBlock) := Lib.hid hs3
    clear hs3 hs1 hs2 hI2 hp2 hq2 hB2 hr3 hg3 hb3 hp3 hq3 hI4 hk4 hp4 hq4 HB3 HR3 HK3 HD H1 HP1 c2 c2' y0 y1 y2
    go_wp2_with fail
    have hf5 := setI HP4.out (.int .i64 x0) (.string x1) (.int .i64 x2)
    have hi5 : IsQ ((((w3.setCell ⟨g, 1, none⟩ (.slice A3 (n - 1) c3)).setCell ⟨w.heap.size, 0, none⟩ (.int .i64 x0)).setCell ⟨w.heap.size, 1, none⟩ (.string x1)).setCell ⟨w.heap.size, 2, none⟩ (.int .i64 x2)) base g (.slice A3 (n - 1) c3) { s with rs := cut s.rs i } := HI4.out.setBox HS3.out hgw
    have hk5a : Kp base g w ((((w3.setCell ⟨g, 1, none⟩ (.slice A3 (n - 1) c3)).setCell ⟨w.heap.size, 0, none⟩ (.int .i64 x0)).setCell ⟨w.heap.size, 1, none⟩ (.string x1)).setCell ⟨w.heap.size, 2, none⟩ (.int .i64 x2)) := HK4.out.1.setBox _ _ _
    have hk5b : Ko g (.slice (some ad) n c) w ((((w3.setCell ⟨g, 1, none⟩ (.slice A3 (n - 1) c3)).setCell ⟨w.heap.size, 0, none⟩ (.int .i64 x0)).setCell ⟨w.heap.size, 1, none⟩ (.string x1)).setCell ⟨w.heap.size, 2, none⟩ (.int .i64 x2)) := HK4.out.2.setBox _ _ _
    generalize ((((w3.setCell ⟨g, 1, none⟩ (.slice A3 (n - 1) c3)).setCell ⟨w.heap.size, 0, none⟩ (.int .i64 x0)).setCell ⟨w.heap.size, 1, none⟩ (.string x1)).setCell ⟨w.heap.size, 2, none⟩ (.int .i64 x2)) = W at *
    have z0 := blk_cell hf5 0
    have z1 := blk_cell hf5 1
    have z2 := blk_cell hf5 2
    exact bodyPost_ret (v := .tuple #[.agg #[.int .i64 x0, .string x1, .int .i64 x2], .bool true]) (by simp [results, Try.results13, go_sem, z0, z1, z2]) rfl ⟨_, rfl, hi5, hk5a, hk5b⟩
end Go.Proofs.Ytffegfidaolgjaa
