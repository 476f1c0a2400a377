/- Queue: a block is taken. -/
import Derived.Test.YtffegfidaolgjaaQWakes
set_option linter.unusedVariables false
set_option linter.unusedSimpArgs false
namespace Go.Proofs.Ytffegfidaolgjaa
open Go.RowKit
def cut (l : List El) (i : Nat) : List El := l.take i ++ l.drop (i + 1)
theorem cut_len {l : List El} {i : Nat} (h : i < l.length) : (cut l i).length = l.length - 1 := by unfold cut; simp; omega
def takeS (s : QS) (key : Int) : QS := if has s key = true then { s with rs := cut s.rs (pos s.rs key) } else s
def takeV (s : QS) (key : Int) : El := if has s key = true then nth s.rs (pos s.rs key) else el0
theorem keep_off {w w' : World} {m : Nat} (h : ∀ k, k ≠ m → w'.heap[k]? = w.heap[k]?) (hos : w'.os = w.os) (ht : w'.tape = w.tape) (ho : w'.output = w.output) (hz : w.heap.size ≤ w'.heap.size) : w.grownBy w' (some m) :=
  ⟨hos, ht, ho, hz, fun k hk hne => h k (fun e => hne (by rw [e]))⟩
theorem grown_set (w : World) (m o : Nat) (u : Value) : w.grownBy (w.setCell ⟨m, o, none⟩ u) (some m) :=
  ⟨rfl, rfl, rfl, (((Below.refl 0 w).setCell (p := ⟨m, o, none⟩) (Nat.zero_le _) u).size), fun k hk hne => Below.heap_setCell w ⟨m, o, none⟩ u k (fun e => hne (by rw [e]))⟩
theorem Row.off {w w' : World} {base m : Nat} {v : Value} {l : List El} (h : Row w base v l) (k : w.grownBy w' (some m)) (hne : some m ≠ v.ownBlock) : Row w' base v l := by
  refine World.ownsRow.kept (row := some m) h k ?_
  cases hv : v.ownBlock with
  | none => exact .inl rfl
  | some j => exact .inr (fun e => hne (by rw [hv, e]))
theorem IsQ.set {w : World} {base g m : Nat} {v : Value} {s : QS} (h : IsQ w base g v s) (hne : some m ≠ v.ownBlock) (hg : m ≠ g) (o : Nat) (u : Value) : IsQ (w.setCell ⟨m, o, none⟩ u) base g v s :=
  ⟨(Below.heap_setCell w ⟨m, o, none⟩ u g (fun e => hg e.symm)).trans h.blk, h.row.off (grown_set w m o u) hne⟩
theorem IsQ.setBox {w : World} {base g m : Nat} {v : Value} {s : QS} (h : IsQ w base g v s) (hne : some m ≠ v.ownBlock) (hg : m ≠ g) {a b c : Value} : IsQ (((w.setCell ⟨m, 0, none⟩ a).setCell ⟨m, 1, none⟩ b).setCell ⟨m, 2, none⟩ c) base g v s :=
  ((h.set hne hg 0 a).set hne hg 1 b).set hne hg 2 c
theorem Kp.set {base g : Nat} {w w' : World} (h : Kp base g w w') {m : Nat} (hm : w.heap.size ≤ m) (o : Nat) (u : Value) : Kp base g w (w'.setCell ⟨m, o, none⟩ u) :=
  ⟨h.os, h.tape, h.output, Nat.le_trans h.size (((Below.refl 0 w').setCell (p := ⟨m, o, none⟩) (Nat.zero_le _) u).size), fun k hk hne hq => (Below.heap_setCell w' ⟨m, o, none⟩ u k (by show k ≠ m; omega)).trans (h.blk k hk hne hq)⟩
theorem Kp.setBox {base g : Nat} {w w' : World} (h : Kp base g w w') (a b c : Value) : Kp base g w (((w'.setCell ⟨w.heap.size, 0, none⟩ a).setCell ⟨w.heap.size, 1, none⟩ b).setCell ⟨w.heap.size, 2, none⟩ c) :=
  ((h.set (Nat.le_refl _) 0 a).set (Nat.le_refl _) 1 b).set (Nat.le_refl _) 2 c
theorem delRow2 (w : World) (base i : Nat) (v : Value) (l : List El) (h : Row w base v l) (hi : i < l.length) :
    Calls Try.prog 30 #[v, .int .i64 i, .int .i64 ((i : Int) + 1)] w fun e w' => ∃ v', e = .returned v' ∧ Row w' base v' (l.take i ++ l.drop (i + 1)) ∧ w.grownBy w' v.ownBlock ∧ v'.ownBlock = v.ownBlock := by
  refine (delC w base v l.length (flat l) h i hi (flat_one l)).mono ?_
  rintro e w' ⟨v', rfl, h1, h2, h3⟩
  refine ⟨v', rfl, ?_, h2, h3⟩
  unfold Row
  rw [flat_append, ← flat_take, ← flat_drop]
  have : (l.take i ++ l.drop (i + 1)).length = l.length - 1 := by simp; omega
  rw [this]
  exact h1
set_option maxHeartbeats 8000000 in
set_option maxRecDepth 100000 in
theorem takeQ (w : World) (base g : Nat) (v : Value) (s : QS) (key : Int) (hs : Rising s.rs) (hlen : s.rs.length ≤ 256) (hbase : base ≤ w.heap.size) (h : IsQ w base g v s) :
    Calls Try.prog 13 #[PT g, .int .i64 key] w fun e w' => ∃ v', e = .returned (.tuple #[elV (takeV s key), .bool (has s key)]) ∧ IsQ w' base g v' (takeS s key) ∧ Kp base g w w' := by
  have K := Lib.hid (fun w h => findP w base g v s key hs (by omega) h)
  have H := Lib.hid h
  have hn := nil24
  have hgl := blk_lt h.blk
  have h0row := Lib.hid h.row
  have hin : has s key = true → pos s.rs key < s.rs.length := fun h => by unfold has isAt at h; simp at h; exact h.1
  clear h hs
  cases hh : has s key
  · have hS : takeS s key = s := by unfold takeS; rw [hh]; simp
    have hV : takeV s key = el0 := by unfold takeV; rw [hh]; simp
    rw [hh] at K
    rw [hS, hV]
    clear hin hh hS hV
    go_enter Try.func13, Try.ntmps13
    go_wp2_with fail
    refine calls_gen (fun W => Bel w W ∧ W.heap[w.heap.size]? = some (.cells #[.int .i64 0, .string ⟨#[]⟩, .int .i64 0] 33 (0, 0))) ⟨Bel.alloc _ _, heap_alloc_new _ _⟩ ?_
    rintro W0 ⟨hB0, hp⟩
    refine (K.out _ (H.out.bel hB0)).mono ?_
    rintro e w1 ⟨rfl, hb1⟩
    have hp1 := blk_below hp hb1
    have HB := Lib.hid (hB0.trans hb1)
    have x0 := blk_cell hp1 0
    have x1 := blk_cell hp1 1
    have x2 := blk_cell hp1 2
    have y0 := blk_frozen hp1 0
    have y1 := blk_frozen hp1 1
    have y2 := blk_frozen hp1 2
    clear hB0 hp hb1 K
    go_wp2_with fail
    have hf := setI hp1 (.int .i64 0) (.string ⟨#[]⟩) (.int .i64 0)
    have hb := belI HB.out (Nat.le_refl w.heap.size) (.int .i64 0) (.string ⟨#[]⟩) (.int .i64 0)
    generalize (((w1.setCell ⟨w.heap.size, 0, none⟩ (.int .i64 0)).setCell ⟨w.heap.size, 1, none⟩ (.string ⟨#[]⟩)).setCell ⟨w.heap.size, 2, none⟩ (.int .i64 0)) = W at *
    have z0 := blk_cell hf 0
    have z1 := blk_cell hf 1
    have z2 := blk_cell hf 2
    exact bodyPost_ret (v := .tuple #[.agg #[.int .i64 0, .string ⟨#[]⟩, .int .i64 0], .bool false]) (by simp [results, Try.results13, go_sem, z0, z1, z2]) rfl ⟨v, rfl, H.out.bel hb, Kp.of_bel hb⟩
  · have hS : takeS s key = { s with rs := cut s.rs (pos s.rs key) } := by unfold takeS; rw [if_pos hh]
    have hV : takeV s key = nth s.rs (pos s.rs key) := by unfold takeV; rw [if_pos hh]
    have hi := hin hh
    rw [hh] at K
    rw [hS, hV]
    clear hin hh hS hV
    obtain ⟨A, c, rfl⟩ := H.out.row.len
    have HD := Lib.hid (fun w1 (hr : Row w1 base (.slice A s.rs.length c) s.rs) => delRow2 w1 base (pos s.rs key) _ s.rs hr hi)
    have HRC := Lib.hid (fun w1 (hr : IsQ w1 base g (.slice A s.rs.length c) s) => show ∃ ad, A = some ad ∧ w1.cell? (ad.add (pos s.rs key * 3)) = some (.int .i64 (nth s.rs (pos s.rs key)).f0) ∧ w1.cell? ⟨(ad.add (pos s.rs key * 3)).block, (ad.add (pos s.rs key * 3)).off + 1, none⟩ = some (.string (nth s.rs (pos s.rs key)).f1) ∧ w1.cell? ⟨(ad.add (pos s.rs key * 3)).block, (ad.add (pos s.rs key * 3)).off + 2, none⟩ = some (.int .i64 (nth s.rs (pos s.rs key)).f2) from by
      obtain ⟨A', c', e, _, hR⟩ := hr.row.reads
      simp only [Value.slice.injEq] at e
      obtain ⟨ad, h1, h2, h3, h4⟩ := hR (pos s.rs key) hi
      exact ⟨ad, by rw [e.1]; exact h1, h2, h3, h4⟩)
    have hcl := cut_len hi
    generalize hrs : s.rs.length = n at *
    generalize hpp : pos s.rs key = i at *
    generalize nth s.rs i = x at *
    obtain ⟨x0, x1, x2⟩ := x
    simp only [] at HRC
    have hw1 : IntKind.i64.wrap ((i : Int) + 1) = (i : Int) + 1 := w64i (by omega) (by omega)
    go_enter Try.func13, Try.ntmps13
    go_wp2_with fail
    refine calls_gen (fun W => Bel w W ∧ W.heap[w.heap.size]? = some (.cells #[.int .i64 0, .string ⟨#[]⟩, .int .i64 0] 33 (0, 0)) ∧ W.heap.size = w.heap.size + 1) ⟨Bel.alloc _ _, heap_alloc_new _ _, by simp⟩ ?_
    rintro W0 ⟨hB0, hp, hsz⟩
    refine (K.out _ (H.out.bel hB0)).mono ?_
    rintro e w1 ⟨rfl, hb1⟩
    have H1 := Lib.hid (H.out.bel (hB0.trans hb1))
    have HP1 := Lib.hid (blk_below hp hb1)
    have HB1 := Lib.hid (hB0.trans hb1)
    obtain ⟨ad, rfl, y0, y1, y2⟩ := HRC.out _ H1.out
    have c2 := blk_cell H1.out.blk 1
    have c2' := fun o => cellB (Bel.alloc w1 o) c2
    have hne8 : w.heap.size ≠ w1.heap.size := by have := hB0.size; have := hb1.size; omega
    clear hB0 hp hb1 K H hsz HRC
    go_wp2_with fail
    refine calls_gen (fun W => IsQ W base g (.slice (some ad) n c) s ∧ W.heap[w.heap.size]? = some (.cells #[.int .i64 0, .string ⟨#[]⟩, .int .i64 0] 33 (0, 0)) ∧ W.heap[w1.heap.size]? = some (.cells #[.int .i64 x0, .string x1, .int .i64 x2] 33 (0, 0)) ∧ Bel w W) ⟨H1.out.bel (Bel.alloc _ _), blk_below HP1.out (Bel.alloc _ _), heap_alloc_new _ _, HB1.out.trans (Bel.alloc _ _)⟩ ?_
    rintro W2 ⟨hI2, hp2, hq2, hB2⟩
    have hs1 : some w.heap.size ≠ (Value.slice (some ad) n c).ownBlock := fun e => by
      obtain ⟨_, cs, h2⟩ := h0row.out.blk e.symm
      have := blk_lt h2
      omega
    have hs2 : some w1.heap.size ≠ (Value.slice (some ad) n c).ownBlock := fun e => by
      obtain ⟨_, cs, h2⟩ := H1.out.row.blk e.symm
      have := blk_lt h2
      omega
    refine (HD.out W2 hI2.row).mono ?_
    rintro e w3 ⟨v3, rfl, hr3, hg3, hob3⟩
    have hs3 : some w.heap.size ≠ v3.ownBlock := fun e => hs1 (e.trans hob3)
    clear hob3
    obtain ⟨A3, c3, rfl⟩ : ∃ A' c', v3 = .slice A' (n - 1) c' := by
      obtain ⟨A', c', h⟩ := hr3.len
      exact ⟨A', c', by rw [h]; congr 1⟩
    have hb3 := grown_blk hg3 hI2.row hI2.blk
    have hp3 := (hg3.block _ (blk_lt hp2) hs1).trans hp2
    have hq3 := (hg3.block _ (blk_lt hq2) hs2).trans hq2
    have c5 := blk_cell hb3 1
    have f5 := blk_frozen hb3 1
    have HB3 := Lib.hid hb3
    have HR3 := Lib.hid hr3
    have HK3 := Lib.hid ((Kp.of_bel hB2).trans (Kp.of_grown hg3 hI2.row) : Kp base g w w3)
    -- the field is set; the boxes stand aside
    have hgw : w.heap.size ≠ g := by omega
    have hgw1 : w1.heap.size ≠ g := by have := HB1.out.size; omega
    have hI4 : IsQ (w3.setCell ⟨g, 1, none⟩ (.slice A3 (n - 1) c3)) base g (.slice A3 (n - 1) c3) { s with rs := cut s.rs i } := ⟨set1 hb3 _, hr3.setG hb3 ⟨g, 1, none⟩ rfl _⟩
    have hk4 := HK3.out.trans (Kp.of_set ⟨g, 1, none⟩ rfl (.slice A3 (n - 1) c3) : Kp base g w3 _)
    have hp4 : (w3.setCell ⟨g, 1, none⟩ (.slice A3 (n - 1) c3)).heap[w.heap.size]? = some (.cells #[.int .i64 0, .string ⟨#[]⟩, .int .i64 0] 33 (0, 0)) := (Below.heap_setCell w3 ⟨g, 1, none⟩ _ _ hgw).trans hp3
    have hq4 : (w3.setCell ⟨g, 1, none⟩ (.slice A3 (n - 1) c3)).heap[w1.heap.size]? = some (.cells #[.int .i64 x0, .string x1, .int .i64 x2] 33 (0, 0)) := (Below.heap_setCell w3 ⟨g, 1, none⟩ _ _ hgw1).trans hq3
    have z0 := blk_cell hq4 0
    have z1 := blk_cell hq4 1
    have z2 := blk_cell hq4 2
    have t0 := blk_cell hp4 0
    have t1 := blk_cell hp4 1
    have t2 := blk_cell hp4 2
    have u0 := blk_frozen hp4 0
    have u1 := blk_frozen hp4 1
    have u2 := blk_frozen hp4 2
    have HI4 := Lib.hid hI4
    have HK4 := Lib.hid hk4
    have HP4 := Lib.hid hp4
    have HS3 : Hid (some w.heap.size ≠ (Value.slice A3 (n - 1) c3).ownBlock) := Lib.hid hs3
    clear hs3 hs1 hs2 hI2 hp2 hq2 hB2 hr3 hg3 hb3 hp3 hq3 hI4 hk4 hp4 hq4 HB3 HR3 HK3 HD H1 HP1 c2 c2' y0 y1 y2
    go_wp2_with fail
    have hf5 := setI HP4.out (.int .i64 x0) (.string x1) (.int .i64 x2)
    have hi5 : IsQ ((((w3.setCell ⟨g, 1, none⟩ (.slice A3 (n - 1) c3)).setCell ⟨w.heap.size, 0, none⟩ (.int .i64 x0)).setCell ⟨w.heap.size, 1, none⟩ (.string x1)).setCell ⟨w.heap.size, 2, none⟩ (.int .i64 x2)) base g (.slice A3 (n - 1) c3) { s with rs := cut s.rs i } := HI4.out.setBox HS3.out hgw
    have hk5 : Kp base g w ((((w3.setCell ⟨g, 1, none⟩ (.slice A3 (n - 1) c3)).setCell ⟨w.heap.size, 0, none⟩ (.int .i64 x0)).setCell ⟨w.heap.size, 1, none⟩ (.string x1)).setCell ⟨w.heap.size, 2, none⟩ (.int .i64 x2)) := HK4.out.setBox _ _ _
    generalize ((((w3.setCell ⟨g, 1, none⟩ (.slice A3 (n - 1) c3)).setCell ⟨w.heap.size, 0, none⟩ (.int .i64 x0)).setCell ⟨w.heap.size, 1, none⟩ (.string x1)).setCell ⟨w.heap.size, 2, none⟩ (.int .i64 x2)) = W at *
    have z0 := blk_cell hf5 0
    have z1 := blk_cell hf5 1
    have z2 := blk_cell hf5 2
    exact bodyPost_ret (v := .tuple #[.agg #[.int .i64 x0, .string x1, .int .i64 x2], .bool true]) (by simp [results, Try.results13, go_sem, z0, z1, z2]) rfl ⟨_, rfl, hi5, hk5⟩
end Go.Proofs.Ytffegfidaolgjaa
