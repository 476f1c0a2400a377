/- Queue: a block is taken. | Queue, plainly: what putting and taking keep. -/
import Derived.Test.YtgpkpheejefiiaaGreatDoorX23
section
set_option linter.unusedVariables false
set_option linter.unusedSimpArgs false
namespace Go.Proofs.YtgpkpheejefiiaaGreatDoor.Q20
set_option maxRecDepth 100000
open Go.RowKit
def cut (l : List El) (i : Nat) : List El := l.take i ++ l.drop (i + 1)
theorem cut_len {l : List El} {i : Nat} (h : i < l.length) : (cut l i).length = l.length - 1 := by unfold cut; simp; omega
def takeS (s : QS) (key : Int) : QS := if has s key = true then { s with rs := cut s.rs (pos s.rs key) } else s
def takeV (s : QS) (key : Int) : El := if has s key = true then nth s.rs (pos s.rs key) else el0
theorem keep_off {w w' : World} {m : Nat} (h : ∀ k, k ≠ m → w'.heap[k]? = w.heap[k]?) (hos : w'.os = w.os) (ht : w'.tape = w.tape) (ho : w'.output = w.output) (hz : w.heap.size ≤ w'.heap.size) : w.grownBy w' (some m) :=
  ⟨hos, ht, ho, hz, fun k hk hne => h k (fun e => hne (by rw [e]))⟩
theorem grown_set (w : World) (m o : Nat) (u : Value) : w.grownBy (w.setCell ⟨m, o, none⟩ u) (some m) :=
  ⟨rfl, rfl, rfl, (((Below.refl 0 w).setCell (p := ⟨m, o, none⟩) (Nat.zero_le _) u).size), fun k hk hne => Below.heap_setCell w ⟨m, o, none⟩ u k (fun e => hne (by rw [e]))⟩
theorem Row.off {w w' : World} {base m : Nat} {v : Value} {l : List El} (h : Row w base v l) (k : w.grownBy w' (some m)) (hne : some m ≠ v.ownBlock) : Row w' base v l := by
  refine World.ownsRow.kept (row := some m) h k ?_
  cases hv : v.ownBlock with
  | none => exact .inl rfl
  | some j => exact .inr (fun e => hne (by rw [hv, e]))
theorem IsQ.set {w : World} {base g m : Nat} {v : Value} {s : QS} (h : IsQ w base g v s) (hne : some m ≠ v.ownBlock) (hg : m ≠ g) (o : Nat) (u : Value) : IsQ (w.setCell ⟨m, o, none⟩ u) base g v s :=
  ⟨(Below.heap_setCell w ⟨m, o, none⟩ u g (fun e => hg e.symm)).trans h.blk, h.row.off (grown_set w m o u) hne⟩
theorem IsQ.setBox {w : World} {base g m : Nat} {v : Value} {s : QS} (h : IsQ w base g v s) (hne : some m ≠ v.ownBlock) (hg : m ≠ g) {a b c : Value} : IsQ (((w.setCell ⟨m, 0, none⟩ a).setCell ⟨m, 1, none⟩ b).setCell ⟨m, 2, none⟩ c) base g v s :=
  ((h.set hne hg 0 a).set hne hg 1 b).set hne hg 2 c
theorem Kp.set {base g : Nat} {w w' : World} (h : Kp base g w w') {m : Nat} (hm : w.heap.size ≤ m) (o : Nat) (u : Value) : Kp base g w (w'.setCell ⟨m, o, none⟩ u) :=
  ⟨h.os, h.tape, h.output, Nat.le_trans h.size (((Below.refl 0 w').setCell (p := ⟨m, o, none⟩) (Nat.zero_le _) u).size), fun k hk hne hq => (Below.heap_setCell w' ⟨m, o, none⟩ u k (by show k ≠ m; omega)).trans (h.blk k hk hne hq)⟩
theorem Kp.setBox {base g : Nat} {w w' : World} (h : Kp base g w w') (a b c : Value) : Kp base g w (((w'.setCell ⟨w.heap.size, 0, none⟩ a).setCell ⟨w.heap.size, 1, none⟩ b).setCell ⟨w.heap.size, 2, none⟩ c) :=
  ((h.set (Nat.le_refl _) 0 a).set (Nat.le_refl _) 1 b).set (Nat.le_refl _) 2 c
theorem delRow2 (w : World) (base i : Nat) (v : Value) (l : List El) (h : Row w base v l) (hi : i < l.length) :
    Calls Tryz.prog 98 #[v, .int .i64 i, .int .i64 ((i : Int) + 1)] w fun e w' => ∃ v', e = .returned v' ∧ Row w' base v' (l.take i ++ l.drop (i + 1)) ∧ w.grownBy w' v.ownBlock ∧ v'.ownBlock = v.ownBlock := by
  refine (delC w base v l.length (flat l) h i hi (flat_one l)).mono ?_
  rintro e w' ⟨v', rfl, h1, h2, h3⟩
  refine ⟨v', rfl, ?_, h2, h3⟩
  unfold Row
  rw [flat_append, ← flat_take, ← flat_drop]
  have : (l.take i ++ l.drop (i + 1)).length = l.length - 1 := by simp; omega
  rw [this]
  exact h1
set_option maxHeartbeats 8000000 in
set_option maxRecDepth 100000 in
theorem takeQ (w : World) (base g : Nat) (v : Value) (s : QS) (key : Int) (hs : Rising s.rs) (hlen : s.rs.length ≤ 256) (hbase : base ≤ w.heap.size) (h : IsQ w base g v s) :
    Calls Tryz.prog 42 #[PT g, .int .i64 key] w fun e w' => ∃ v', e = .returned (.tuple #[elV (takeV s key), .bool (has s key)]) ∧ IsQ w' base g v' (takeS s key) ∧ Kp base g w w' := by
  have K := Lib.hid (fun w h => findP w base g v s key hs (by omega) h)
  have H := Lib.hid h
  have hn := nil24
  have hgl := blk_lt h.blk
  have h0row := Lib.hid h.row
  have hin : has s key = true → pos s.rs key < s.rs.length := fun h => by unfold has isAt at h; simp at h; exact h.1
  clear h hs
  cases hh : has s key
  · have hS : takeS s key = s := by unfold takeS; rw [hh]; simp
    have hV : takeV s key = el0 := by unfold takeV; rw [hh]; simp
    rw [hh] at K
    rw [hS, hV]
    clear hin hh hS hV
    go_enter Tryz.func42, Tryz.ntmps42
    go_wp2_with fail
    refine calls_gen (fun W => Bel w W ∧ W.heap[w.heap.size]? = some (.cells #[.int .i64 0, .string ⟨#[]⟩, .int .i64 0] 103 (0, 0))) ⟨Bel.alloc _ _, heap_alloc_new _ _⟩ ?_
    rintro W0 ⟨hB0, hp⟩
    refine (K.out _ (H.out.bel hB0)).mono ?_
    rintro e w1 ⟨rfl, hb1⟩
    have hp1 := blk_below hp hb1
    have HB := Lib.hid (hB0.trans hb1)
    have x0 := blk_cell hp1 0
    have x1 := blk_cell hp1 1
    have x2 := blk_cell hp1 2
    have y0 := blk_frozen hp1 0
    have y1 := blk_frozen hp1 1
    have y2 := blk_frozen hp1 2
    clear hB0 hp hb1 K
    go_wp2_with fail
    have hf := setI hp1 (.int .i64 0) (.string ⟨#[]⟩) (.int .i64 0)
    have hb := belI HB.out (Nat.le_refl w.heap.size) (.int .i64 0) (.string ⟨#[]⟩) (.int .i64 0)
    generalize (((w1.setCell ⟨w.heap.size, 0, none⟩ (.int .i64 0)).setCell ⟨w.heap.size, 1, none⟩ (.string ⟨#[]⟩)).setCell ⟨w.heap.size, 2, none⟩ (.int .i64 0)) = W at *
    have z0 := blk_cell hf 0
    have z1 := blk_cell hf 1
    have z2 := blk_cell hf 2
    exact bodyPost_ret (v := .tuple #[.agg #[.int .i64 0, .string ⟨#[]⟩, .int .i64 0], .bool false]) (by simp [results, Tryz.results42, go_sem, z0, z1, z2]) rfl ⟨v, rfl, H.out.bel hb, Kp.of_bel hb⟩
  · have hS : takeS s key = { s with rs := cut s.rs (pos s.rs key) } := by unfold takeS; rw [if_pos hh]
    have hV : takeV s key = nth s.rs (pos s.rs key) := by unfold takeV; rw [if_pos hh]
    have hi := hin hh
    rw [hh] at K
    rw [hS, hV]
    clear hin hh hS hV
    obtain ⟨A, c, rfl⟩ := H.out.row.len
    have HD := Lib.hid (fun w1 (hr : Row w1 base (.slice A s.rs.length c) s.rs) => delRow2 w1 base (pos s.rs key) _ s.rs hr hi)
    have HRC := Lib.hid (fun w1 (hr : IsQ w1 base g (.slice A s.rs.length c) s) => show ∃ ad, A = some ad ∧ w1.cell? (ad.add (pos s.rs key * 3)) = some (.int .i64 (nth s.rs (pos s.rs key)).f0) ∧ w1.cell? ⟨(ad.add (pos s.rs key * 3)).block, (ad.add (pos s.rs key * 3)).off + 1, none⟩ = some (.string (nth s.rs (pos s.rs key)).f1) ∧ w1.cell? ⟨(ad.add (pos s.rs key * 3)).block, (ad.add (pos s.rs key * 3)).off + 2, none⟩ = some (.int .i64 (nth s.rs (pos s.rs key)).f2) from by
      obtain ⟨A', c', e, _, hR⟩ := hr.row.reads
      simp only [Value.slice.injEq] at e
      obtain ⟨ad, h1, h2, h3, h4⟩ := hR (pos s.rs key) hi
      exact ⟨ad, by rw [e.1]; exact h1, h2, h3, h4⟩)
    have hcl := cut_len hi
    generalize hrs : s.rs.length = n at *
    generalize hpp : pos s.rs key = i at *
    generalize nth s.rs i = x at *
    obtain ⟨x0, x1, x2⟩ := x
    simp only [] at HRC
    have hw1 : IntKind.i64.wrap ((i : Int) + 1) = (i : Int) + 1 := w64i (by omega) (by omega)
    go_enter Tryz.func42, Tryz.ntmps42
    go_wp2_with fail
    refine calls_gen (fun W => Bel w W ∧ W.heap[w.heap.size]? = some (.cells #[.int .i64 0, .string ⟨#[]⟩, .int .i64 0] 103 (0, 0)) ∧ W.heap.size = w.heap.size + 1) ⟨Bel.alloc _ _, heap_alloc_new _ _, by simp⟩ ?_
    rintro W0 ⟨hB0, hp, hsz⟩
    refine (K.out _ (H.out.bel hB0)).mono ?_
    rintro e w1 ⟨rfl, hb1⟩
    have H1 := Lib.hid (H.out.bel (hB0.trans hb1))
    have HP1 := Lib.hid (blk_below hp hb1)
    have HB1 := Lib.hid (hB0.trans hb1)
    obtain ⟨ad, rfl, y0, y1, y2⟩ := HRC.out _ H1.out
    have c2 := blk_cell H1.out.blk 1
    have c2' := fun o => cellB (Bel.alloc w1 o) c2
    have hne8 : w.heap.size ≠ w1.heap.size := by have := hB0.size; have := hb1.size; omega
    clear hB0 hp hb1 K H hsz HRC
    go_wp2_with fail
    refine calls_gen (fun W => IsQ W base g (.slice (some ad) n c) s ∧ W.heap[w.heap.size]? = some (.cells #[.int .i64 0, .string ⟨#[]⟩, .int .i64 0] 103 (0, 0)) ∧ W.heap[w1.heap.size]? = some (.cells #[.int .i64 x0, .string x1, .int .i64 x2] 103 (0, 0)) ∧ Bel w W) ⟨H1.out.bel (Bel.alloc _ _), blk_below HP1.out (Bel.alloc _ _), heap_alloc_new _ _, HB1.out.trans (Bel.alloc _ _)⟩ ?_
    rintro W2 ⟨hI2, hp2, hq2, hB2⟩
    have hs1 : some w.heap.size ≠ (Value.slice (some ad) n c).ownBlock := fun e => by
      obtain ⟨_, cs, h2⟩ := h0row.out.blk e.symm
      have := blk_lt h2
      omega
    have hs2 : some w1.heap.size ≠ (Value.slice (some ad) n c).ownBlock := fun e => by
      obtain ⟨_, cs, h2⟩ := H1.out.row.blk e.symm
      have := blk_lt h2
      omega
    refine (HD.out W2 hI2.row).mono ?_
    rintro e w3 ⟨v3, rfl, hr3, hg3, hob3⟩
    have hs3 : some w.heap.size ≠ v3.ownBlock := fun e => hs1 (e.trans hob3)
    clear hob3
    obtain ⟨A3, c3, rfl⟩ : ∃ A' c', v3 = .slice A' (n - 1) c' := by
      obtain ⟨A', c', h⟩ := hr3.len
      exact ⟨A', c', by rw [h]; congr 1⟩
    have hb3 := grown_blk hg3 hI2.row hI2.blk
    have hp3 := (hg3.block _ (blk_lt hp2) hs1).trans hp2
    have hq3 := (hg3.block _ (blk_lt hq2) hs2).trans hq2
    have c5 := blk_cell hb3 1
    have f5 := blk_frozen hb3 1
    have HB3 := Lib.hid hb3
    have HR3 := Lib.hid hr3
    have HK3 := Lib.hid ((Kp.of_bel hB2).trans (Kp.of_grown hg3 hI2.row) : Kp base g w w3)
    -- the field is set; the boxes stand aside
    have hgw : w.heap.size ≠ g := by omega
    have hgw1 : w1.heap.size ≠ g := by have := HB1.out.size; omega
    have hI4 : IsQ (w3.setCell ⟨g, 1, none⟩ (.slice A3 (n - 1) c3)) base g (.slice A3 (n - 1) c3) { s with rs := cut s.rs i } := ⟨set1 hb3 _, hr3.setG hb3 ⟨g, 1, none⟩ rfl _⟩
    have hk4 := HK3.out.trans (Kp.of_set ⟨g, 1, none⟩ rfl (.slice A3 (n - 1) c3) : Kp base g w3 _)
    have hp4 : (w3.setCell ⟨g, 1, none⟩ (.slice A3 (n - 1) c3)).heap[w.heap.size]? = some (.cells #[.int .i64 0, .string ⟨#[]⟩, .int .i64 0] 103 (0, 0)) := (Below.heap_setCell w3 ⟨g, 1, none⟩ _ _ hgw).trans hp3
    have hq4 : (w3.setCell ⟨g, 1, none⟩ (.slice A3 (n - 1) c3)).heap[w1.heap.size]? = some (.cells #[.int .i64 x0, .string x1, .int .i64 x2] 103 (0, 0)) := (Below.heap_setCell w3 ⟨g, 1, none⟩ _ _ hgw1).trans hq3
    have z0 := blk_cell hq4 0
    have z1 := blk_cell hq4 1
    have z2 := blk_cell hq4 2
    have t0 := blk_cell hp4 0
    have t1 := blk_cell hp4 1
    have t2 := blk_cell hp4 2
    have u0 := blk_frozen hp4 0
    have u1 := blk_frozen hp4 1
    have u2 := blk_frozen hp4 2
    have HI4 := Lib.hid hI4
    have HK4 := Lib.hid hk4
    have HP4 := Lib.hid hp4
    have HS3 : Hid (some w.heap.size ≠ (Value.slice A3 (n - 1) c3).ownBlock) := Lib.hid hs3
    clear hs3 hs1 hs2 hI2 hp2 hq2 hB2 hr3 hg3 hb3 hp3 hq3 hI4 hk4 hp4 hq4 HB3 HR3 HK3 HD H1 HP1 c2 c2' y0 y1 y2
    go_wp2_with fail
    have hf5 := setI HP4.out (.int .i64 x0) (.string x1) (.int .i64 x2)
    have hi5 : IsQ ((((w3.setCell ⟨g, 1, none⟩ (.slice A3 (n - 1) c3)).setCell ⟨w.heap.size, 0, none⟩ (.int .i64 x0)).setCell ⟨w.heap.size, 1, none⟩ (.string x1)).setCell ⟨w.heap.size, 2, none⟩ (.int .i64 x2)) base g (.slice A3 (n - 1) c3) { s with rs := cut s.rs i } := HI4.out.setBox HS3.out hgw
    have hk5 : Kp base g w ((((w3.setCell ⟨g, 1, none⟩ (.slice A3 (n - 1) c3)).setCell ⟨w.heap.size, 0, none⟩ (.int .i64 x0)).setCell ⟨w.heap.size, 1, none⟩ (.string x1)).setCell ⟨w.heap.size, 2, none⟩ (.int .i64 x2)) := HK4.out.setBox _ _ _
    generalize ((((w3.setCell ⟨g, 1, none⟩ (.slice A3 (n - 1) c3)).setCell ⟨w.heap.size, 0, none⟩ (.int .i64 x0)).setCell ⟨w.heap.size, 1, none⟩ (.string x1)).setCell ⟨w.heap.size, 2, none⟩ (.int .i64 x2)) = W at *
    have z0 := blk_cell hf5 0
    have z1 := blk_cell hf5 1
    have z2 := blk_cell hf5 2
    exact bodyPost_ret (v := .tuple #[.agg #[.int .i64 x0, .string x1, .int .i64 x2], .bool true]) (by simp [results, Tryz.results42, go_sem, z0, z1, z2]) rfl ⟨_, rfl, hi5, hk5⟩
end Go.Proofs.YtgpkpheejefiiaaGreatDoor.Q20
end
section
set_option linter.unusedVariables false
set_option linter.unusedSimpArgs false
namespace Go.Proofs.YtgpkpheejefiiaaGreatDoor.Q20
set_option maxRecDepth 100000
open Go.RowKit
theorem rising_iff (l : List El) : Rising l ↔ l.Pairwise (fun a b => a.f0 < b.f0) := by
  rw [List.pairwise_iff_getElem]
  constructor
  · intro h i j hi hj hij
    have := h i j hij hj
    have e1 := nth_get hi
    have e2 := nth_get hj
    rw [List.getElem?_eq_getElem hi] at e1
    rw [List.getElem?_eq_getElem hj] at e2
    rw [Option.some.inj e1, Option.some.inj e2]
    exact this
  · intro h i j hij hj
    have := h i j (by omega) hj hij
    have e1 := nth_get (show i < l.length by omega)
    have e2 := nth_get hj
    rw [List.getElem?_eq_getElem (show i < l.length by omega)] at e1
    rw [List.getElem?_eq_getElem hj] at e2
    rw [Option.some.inj e1, Option.some.inj e2] at this
    exact this
theorem mem_nth {l : List El} {x : El} (h : x ∈ l) : ∃ i, i < l.length ∧ nth l i = x := by
  obtain ⟨i, hi, rfl⟩ := List.getElem_of_mem h
  have e1 := nth_get hi
  rw [List.getElem?_eq_getElem hi] at e1
  exact ⟨i, hi, (Option.some.inj e1).symm⟩
theorem has_iff {s : QS} (hs : Rising s.rs) (key : Int) : has s key = true ↔ ∃ x ∈ s.rs, x.f0 = key := by
  obtain ⟨h1, h2, h3⟩ := pos_find s.rs key hs
  unfold has isAt
  simp only [Bool.and_eq_true, decide_eq_true_eq]
  constructor
  · rintro ⟨h4, h5⟩; exact ⟨_, nth_mem h4, h5⟩
  · rintro ⟨x, hx, rfl⟩
    obtain ⟨i, hi, rfl⟩ := mem_nth hx
    have hp : pos s.rs (nth s.rs i).f0 = i := by
      rcases Nat.lt_trichotomy i (pos s.rs (nth s.rs i).f0) with h | h | h
      · have := h2 i h; omega
      · exact h.symm
      · have h4 := h3 _ (Nat.le_refl _) (by omega)
        have h5 := hs _ i h hi
        omega
    rw [hp]
    exact ⟨hi, rfl⟩
theorem has_false {s : QS} (hs : Rising s.rs) (key : Int) : has s key = false ↔ ∀ x ∈ s.rs, x.f0 ≠ key := by
  rw [← Bool.not_eq_true, has_iff hs]
  exact ⟨fun h x hx e => h ⟨x, hx, e⟩, fun h ⟨x, hx, e⟩ => h x hx e⟩
theorem take_lt {l : List El} {i : Nat} {x : El} (h : x ∈ l.take i) : ∃ j, j < i ∧ j < l.length ∧ nth l j = x := by
  obtain ⟨j, hj, e⟩ := mem_nth h
  have hj2 : j < i ∧ j < l.length := by rw [List.length_take] at hj; omega
  refine ⟨j, hj2.1, hj2.2, ?_⟩
  rw [← e]
  unfold nth
  rw [List.getD_eq_getElem?_getD, List.getD_eq_getElem?_getD, List.getElem?_take, if_pos hj2.1]
theorem drop_ge {l : List El} {i : Nat} {x : El} (h : x ∈ l.drop i) : ∃ j, i ≤ j ∧ j < l.length ∧ nth l j = x := by
  obtain ⟨j, hj, e⟩ := mem_nth h
  have hj2 : i + j < l.length := by rw [List.length_drop] at hj; omega
  refine ⟨i + j, by omega, hj2, ?_⟩
  rw [← e]
  unfold nth
  rw [List.getD_eq_getElem?_getD, List.getD_eq_getElem?_getD, List.getElem?_drop]
def insR (s : QS) (key : Int) (d : ByteArray) : List El := s.rs.take (pos s.rs key) ++ ⟨key, d, s.clock⟩ :: s.rs.drop (pos s.rs key)
theorem mem_ins (l : List El) (i : Nat) (y x : El) : x ∈ l.take i ++ y :: l.drop i ↔ x ∈ l ∨ x = y := by
  rw [List.mem_append, List.mem_cons]
  constructor
  · rintro (h | h | h)
    · exact .inl (List.mem_of_mem_take h)
    · exact .inr h
    · exact .inl (List.mem_of_mem_drop h)
  · rintro (h | h)
    · rw [← List.take_append_drop i l, List.mem_append] at h
      rcases h with h | h
      · exact .inl h
      · exact .inr (.inr h)
    · exact .inr (.inl h)
theorem insR_len (s : QS) (key : Int) (d : ByteArray) : (insR s key d).length = s.rs.length + 1 := by unfold insR; simp; omega
theorem insR_up {s : QS} {key : Int} {d : ByteArray} (hs : Rising s.rs) (hh : has s key = false) : Rising (insR s key d) := by
  have hp := (rising_iff _).1 hs
  have hf := (has_false hs key).1 hh
  obtain ⟨h1, h2, h3⟩ := pos_find s.rs key hs
  rw [rising_iff]
  unfold insR
  rw [List.pairwise_append]
  refine ⟨hp.sublist (List.take_sublist _ _), List.pairwise_cons.2 ⟨fun y hy => ?_, hp.sublist (List.drop_sublist _ _)⟩, fun y hy z hz => ?_⟩
  · obtain ⟨j, hj1, hj2, rfl⟩ := drop_ge hy
    have h4 := h3 j hj1 hj2
    have h5 := hf _ (nth_mem hj2)
    show key < _
    omega
  · obtain ⟨j, hj1, hj2, rfl⟩ := take_lt hy
    have h4 := h2 j hj1
    rcases List.mem_cons.1 hz with rfl | hz
    · exact h4
    · obtain ⟨q, hq1, hq2, rfl⟩ := drop_ge hz
      have := h3 q hq1 hq2
      omega
theorem mem_cut {l : List El} {i : Nat} {x : El} (h : x ∈ cut l i) : x ∈ l := by
  unfold cut at h
  rcases List.mem_append.1 h with h | h
  · exact List.mem_of_mem_take h
  · exact List.mem_of_mem_drop h
theorem cut_sub (l : List El) (i : Nat) : (cut l i).Sublist l := by
  have h : (l.take i ++ l.drop (i + 1)).Sublist (l.take i ++ l.drop i) := by
    refine List.Sublist.append (List.Sublist.refl _) ?_
    rw [← List.drop_drop]
    exact List.drop_sublist _ _
  rwa [List.take_append_drop] at h
theorem cut_up {l : List El} (h : Rising l) (i : Nat) : Rising (cut l i) := (rising_iff _).2 (((rising_iff _).1 h).sublist (cut_sub l i))
theorem cut_ne {l : List El} (h : Rising l) {i : Nat} (hi : i < l.length) : ∀ x ∈ cut l i, x.f0 ≠ (nth l i).f0 := by
  intro x hx
  unfold cut at hx
  rcases List.mem_append.1 hx with hx | hx
  · obtain ⟨j, h1, h2, rfl⟩ := take_lt hx
    have := h j i h1 hi; omega
  · obtain ⟨j, h1, h2, rfl⟩ := drop_ge hx
    have := h i j (by omega) h2; omega
theorem take_mem {l : List El} {i j : Nat} (h : j < i) (hl : j < l.length) : nth l j ∈ l.take i := by
  refine List.mem_of_getElem? (i := j) ?_
  rw [List.getElem?_take, if_pos h]; exact nth_get hl
theorem drop_mem {l : List El} {i j : Nat} (h : i ≤ j) (hl : j < l.length) : nth l j ∈ l.drop i := by
  refine List.mem_of_getElem? (i := j - i) ?_
  rw [List.getElem?_drop, show i + (j - i) = j by omega]; exact nth_get hl
/-- What is cut out of a rising list. -/
theorem mem_cut_iff {l : List El} (h : Rising l) {i : Nat} (hi : i < l.length) (x : El) : x ∈ cut l i ↔ x ∈ l ∧ x.f0 ≠ (nth l i).f0 := by
  refine ⟨fun hx => ⟨mem_cut hx, cut_ne h hi x hx⟩, fun ⟨hx, hne⟩ => ?_⟩
  obtain ⟨j, hj, rfl⟩ := mem_nth hx
  unfold cut
  rw [List.mem_append]
  rcases Nat.lt_trichotomy j i with h1 | h1 | h1
  · exact .inl (take_mem h1 hj)
  · rw [h1] at hne; exact absurd rfl hne
  · exact .inr (drop_mem h1 hj)
theorem mem_set_iff {l : List El} (h : Rising l) {i : Nat} (hi : i < l.length) (y x : El) : x ∈ l.set i y ↔ (x ∈ l ∧ x.f0 ≠ (nth l i).f0) ∨ x = y := by
  rw [← mem_cut_iff h hi, List.set_eq_take_append_cons_drop, if_pos hi]
  unfold cut
  rw [List.mem_append, List.mem_cons, List.mem_append]
  constructor
  · rintro (h | h | h)
    · exact .inl (.inl h)
    · exact .inr h
    · exact .inl (.inr h)
  · rintro ((h | h) | h)
    · exact .inl h
    · exact .inr (.inr h)
    · exact .inr (.inl h)
theorem set_same {α β : Type} (f : α → β) (l : List α) (i : Nat) (y : α) (hi : i < l.length) (h : f y = f l[i]) : (l.set i y).map f = l.map f := by
  rw [List.map_set, h, ← List.getElem_map f (h := by simpa using hi)]
  exact List.set_getElem_self _
theorem nth_el {l : List El} {i : Nat} (h : i < l.length) : nth l i = l[i] := by
  have := nth_get h
  rw [List.getElem?_eq_getElem h] at this
  exact (Option.some.inj this).symm
theorem rising_map (l : List El) : Rising l ↔ (l.map El.f0).Pairwise (· < ·) := by
  rw [rising_iff, List.pairwise_map]
theorem has_at {s : QS} {key : Int} (h : has s key = true) : pos s.rs key < s.rs.length ∧ (nth s.rs (pos s.rs key)).f0 = key := by unfold has isAt at h; simpa using h
structure OkQ (s : QS) : Prop where
  up : Rising s.rs
  most : 1 ≤ s.most ∧ s.most ≤ 256
  len : (s.rs.length : Int) ≤ s.most
  key : ∀ x ∈ s.rs, 0 ≤ x.f0 ∧ x.f0 < 1099511627776
  data : ∀ x ∈ s.rs, x.f1.size = 64
  clock : 0 ≤ s.clock
  age : ∀ x ∈ s.rs, 0 ≤ x.f2 ∧ x.f2 < s.clock
  ages : (s.rs.map El.f2).Nodup
theorem OkQ.len' {s : QS} (h : OkQ s) : s.rs.length ≤ 256 := by have := h.len; have := h.most; omega
theorem okq_new (most : Int) : OkQ ⟨max 1 (min most 256), 0, []⟩ := ⟨fun i j _ h => by simp at h, by simp only []; omega, by simp only [List.length_nil]; omega, by simp, by simp, by simp, by simp, by simp⟩
theorem putS_of {s : QS} {key : Int} {d : ByteArray} (h : putE s key d = 0) : putS s key d = { s with rs := putR s key d, clock := s.clock + 1 } := by unfold putS; rw [if_pos h]
theorem putS_no {s : QS} {key : Int} {d : ByteArray} (h : putE s key d ≠ 0) : putS s key d = s := by unfold putS; rw [if_neg h]
theorem putE_zero {s : QS} {key : Int} {d : ByteArray} (h : putE s key d = 0) : 0 ≤ key ∧ key < 1099511627776 ∧ d.size = 64 ∧ (has s key = true ∨ (has s key = false ∧ (s.rs.length : Int) < s.most)) := by
  unfold putE at h
  split at h
  · simp at h
  · split at h
    · simp at h
    · refine ⟨by omega, by omega, by omega, ?_⟩
      split at h
      · rename_i hh; exact .inl hh
      · split at h
        · simp at h
        · rename_i hh hf
          refine .inr ⟨by simpa using hh, ?_⟩
          unfold fullP at hf; simp at hf; omega
theorem putE_old {s : QS} {key : Int} {d : ByteArray} (h0 : 0 ≤ key) (h1 : key < 1099511627776) (hd : d.size = 64) (hh : has s key = true) : putE s key d = 0 := by
  unfold putE; rw [if_neg (by omega), if_neg (by omega), if_pos hh]
theorem putE_new {s : QS} {key : Int} {d : ByteArray} (h0 : 0 ≤ key) (h1 : key < 1099511627776) (hd : d.size = 64) (hl : (s.rs.length : Int) < s.most) : putE s key d = 0 := by
  unfold putE; rw [if_neg (by omega), if_neg (by omega)]
  split
  · rfl
  · rw [if_neg (by unfold fullP; simp; omega)]
theorem putR_old {s : QS} {key : Int} {d : ByteArray} (hh : has s key = true) : putR s key d = s.rs.set (pos s.rs key) ⟨(nth s.rs (pos s.rs key)).f0, d, (nth s.rs (pos s.rs key)).f2⟩ := by unfold putR; rw [if_pos hh]
theorem putR_new {s : QS} {key : Int} {d : ByteArray} (hh : has s key = false) : putR s key d = insR s key d := by unfold putR insR; rw [if_neg (by simp [hh])]
/-- The age of a block behind a Put. -/
def putAge (s : QS) (key : Int) : Int := if has s key = true then (nth s.rs (pos s.rs key)).f2 else s.clock
theorem mem_put {s : QS} (hs : Rising s.rs) {key : Int} {d : ByteArray} (h : putE s key d = 0) (x : El) : x ∈ (putS s key d).rs ↔ (x ∈ s.rs ∧ x.f0 ≠ key) ∨ x = ⟨key, d, putAge s key⟩ := by
  rw [putS_of h]
  show x ∈ putR s key d ↔ _
  cases hh : has s key
  · rw [putR_new hh]
    unfold insR
    rw [mem_ins]
    have he : putAge s key = s.clock := by unfold putAge; rw [if_neg (by simp [hh])]
    rw [he]
    have hf := (has_false hs key).1 hh
    exact ⟨fun h => h.elim (fun h => .inl ⟨h, hf x h⟩) .inr, fun h => h.elim (fun h => .inl h.1) .inr⟩
  · rw [putR_old hh, mem_set_iff hs (has_at hh).1, (has_at hh).2]
    have he : putAge s key = (nth s.rs (pos s.rs key)).f2 := by unfold putAge; rw [if_pos hh]
    rw [he]
theorem put_len {s : QS} {key : Int} {d : ByteArray} (h : putE s key d = 0) : (putS s key d).rs.length = s.rs.length + (if has s key = true then 0 else 1) := by
  rw [putS_of h]
  show (putR s key d).length = _
  cases hh : has s key
  · rw [putR_new hh, insR_len]; simp
  · rw [putR_old hh, List.length_set]; simp
theorem put_most (s : QS) (key : Int) (d : ByteArray) : (putS s key d).most = s.most := by unfold putS; split <;> rfl
theorem put_clock (s : QS) (key : Int) (d : ByteArray) : (putS s key d).clock = s.clock ∨ (putS s key d).clock = s.clock + 1 := by unfold putS; split <;> simp
theorem ok_put {s : QS} (h : OkQ s) (key : Int) (d : ByteArray) : OkQ (putS s key d) := by
  by_cases he : putE s key d = 0
  · obtain ⟨k0, k1, hd, hl⟩ := putE_zero he
    have hm := mem_put h.up he
    have hc : (putS s key d).clock = s.clock + 1 := by rw [putS_of he]
    have hage : 0 ≤ putAge s key ∧ putAge s key < s.clock + 1 := by
      have := h.clock
      unfold putAge
      split
      · rename_i hh
        have := h.age _ (nth_mem (has_at hh).1); omega
      · omega
    refine ⟨?_, by rw [put_most]; exact h.most, ?_, fun x hx => ?_, fun x hx => ?_, by rw [hc]; have := h.clock; omega, fun x hx => ?_, ?_⟩
    · rw [putS_of he]
      show Rising (putR s key d)
      cases hh : has s key
      · rw [putR_new hh]; exact insR_up h.up hh
      · rw [putR_old hh, rising_map, set_same _ _ _ _ (has_at hh).1 (by rw [← nth_el (has_at hh).1]), ← rising_map]; exact h.up
    · rw [put_len he, put_most]
      have := h.len
      rcases hl with hl | ⟨hl, hl2⟩
      · rw [if_pos hl]; omega
      · rw [if_neg (by simp [hl])]; omega
    · rcases (hm x).1 hx with ⟨hx, _⟩ | rfl
      · exact h.key x hx
      · exact ⟨k0, k1⟩
    · rcases (hm x).1 hx with ⟨hx, _⟩ | rfl
      · exact h.data x hx
      · exact hd
    · rw [hc]
      rcases (hm x).1 hx with ⟨hx, _⟩ | rfl
      · have := h.age x hx; omega
      · exact hage
    · rw [putS_of he]
      show ((putR s key d).map El.f2).Nodup
      cases hh : has s key
      · rw [putR_new hh]
        unfold insR
        rw [List.map_append, List.map_cons, List.map_take, List.map_drop]
        refine (List.perm_middle.nodup_iff).2 ?_
        rw [List.take_append_drop, List.nodup_cons]
        refine ⟨fun hc => ?_, h.ages⟩
        obtain ⟨x, hx, e⟩ := List.mem_map.1 hc
        have := h.age x hx; simp only [] at e; omega
      · rw [putR_old hh, set_same _ _ _ _ (has_at hh).1 (by rw [← nth_el (has_at hh).1])]; exact h.ages
  · rw [putS_no he]; exact h
theorem mem_take {s : QS} (hs : Rising s.rs) (key : Int) (x : El) : x ∈ (takeS s key).rs ↔ x ∈ s.rs ∧ x.f0 ≠ key := by
  unfold takeS
  cases hh : has s key
  · simp only [Bool.false_eq_true, if_false]
    exact ⟨fun h => ⟨h, (has_false hs key).1 hh x h⟩, fun h => h.1⟩
  · simp only [if_true]
    rw [mem_cut_iff hs (has_at hh).1, (has_at hh).2]
theorem take_len (s : QS) (key : Int) : (takeS s key).rs.length = s.rs.length - (if has s key = true then 1 else 0) := by
  unfold takeS
  cases hh : has s key
  · simp
  · simp only [if_true]; exact cut_len (has_at hh).1
theorem take_most (s : QS) (key : Int) : (takeS s key).most = s.most := by unfold takeS; split <;> rfl
theorem take_clock (s : QS) (key : Int) : (takeS s key).clock = s.clock := by unfold takeS; split <;> rfl
theorem ok_take {s : QS} (h : OkQ s) (key : Int) : OkQ (takeS s key) := by
  have hm := mem_take h.up key
  refine ⟨?_, by rw [take_most]; exact h.most, by rw [take_len, take_most]; have := h.len; omega, fun x hx => h.key x ((hm x).1 hx).1, fun x hx => h.data x ((hm x).1 hx).1, by rw [take_clock]; exact h.clock, fun x hx => by rw [take_clock]; exact h.age x ((hm x).1 hx).1, ?_⟩
  · unfold takeS; split
    · exact cut_up h.up _
    · exact h.up
  · unfold takeS; split
    · exact ((cut_sub _ _).map _).nodup h.ages
    · exact h.ages
theorem has_put {s : QS} (h : OkQ s) {key : Int} {d : ByteArray} (he : putE s key d = 0) (k : Int) : has (putS s key d) k = true ↔ has s k = true ∨ k = key := by
  rw [has_iff (ok_put h key d).up, has_iff h.up]
  have hm := mem_put h.up he
  constructor
  · rintro ⟨x, hx, rfl⟩
    rcases (hm x).1 hx with ⟨hx, _⟩ | rfl
    · exact .inl ⟨x, hx, rfl⟩
    · exact .inr rfl
  · intro hk
    by_cases hkk : k = key
    · exact ⟨_, (hm _).2 (.inr rfl), hkk.symm⟩
    · rcases hk with ⟨x, hx, rfl⟩ | hk
      · exact ⟨x, (hm x).2 (.inl ⟨hx, hkk⟩), rfl⟩
      · exact absurd hk hkk
theorem has_take {s : QS} (h : OkQ s) (key k : Int) : has (takeS s key) k = true ↔ has s k = true ∧ k ≠ key := by
  rw [has_iff (ok_take h key).up, has_iff h.up]
  have hm := mem_take h.up key
  constructor
  · rintro ⟨x, hx, rfl⟩
    exact ⟨⟨x, ((hm x).1 hx).1, rfl⟩, ((hm x).1 hx).2⟩
  · rintro ⟨⟨x, hx, rfl⟩, hne⟩
    exact ⟨x, (hm x).2 ⟨hx, hne⟩, rfl⟩
/-- The item of a key. -/
theorem nth_key {s : QS} (h : OkQ s) {x : El} (hx : x ∈ s.rs) : has s x.f0 = true ∧ nth s.rs (pos s.rs x.f0) = x := by
  have hh := (has_iff h.up x.f0).2 ⟨x, hx, rfl⟩
  refine ⟨hh, ?_⟩
  obtain ⟨i, hi, rfl⟩ := mem_nth hx
  obtain ⟨h1, h2⟩ := has_at hh
  have hij : pos s.rs (nth s.rs i).f0 = i := by
    rcases Nat.lt_trichotomy (pos s.rs (nth s.rs i).f0) i with hlt | he | hlt
    · have := h.up _ _ hlt hi; omega
    · exact he
    · have := h.up _ _ hlt h1; omega
  rw [hij]
theorem full_iff (s : QS) : fullP s = true ↔ s.most ≤ (s.rs.length : Int) := by unfold fullP; simp
end Go.Proofs.YtgpkpheejefiiaaGreatDoor.Q20
end
