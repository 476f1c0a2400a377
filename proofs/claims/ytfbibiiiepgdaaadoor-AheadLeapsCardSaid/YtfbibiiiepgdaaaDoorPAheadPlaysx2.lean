-- PRINTED BY print.sh 35421559b90ae4d0a3588c463048766b98c2df88dd9212a6774a882060cdf62d: not written by this session
import Derived.Test.YtfbibiiiepgdaaaDoorPAheadPlaysx0
namespace Go.Proofs.YtfbibiiiepgdaaaDoor.PAheadPlays
open Go.RowKit Go.Proofs.YtfbibiiiepgdaaaDoorW.PrintWords Go.Proofs.YtfbibiiiepgdaaaDoorW.PrintLast Go.Proofs.YtfbibiiiepgdaaaDoorW.PrintMore
attribute [local go_sem] max2_int min2_int max_two min_two max_three min_three max_four min_four   -- for this text's walks alone
set_option linter.unusedVariables false
set_option linter.unusedSimpArgs false

/-- A state of type 45 at block g of W; what its slices lead to came in by w0. -/
def IsS45 (w0 W : World) (g : Nat) (f0 : Int) (f1 : Int) (f2 : Int) (f3 : Int) (f4 : Int) (f5 : Int) (f6 : Int) : Prop := W.heap[g]? = some (.cells #[.int .i64 f0, .int .i64 f1, .int .i64 f2, .int .i64 f3, .int .i64 f4, .int .i64 f5, .int .i64 f6] 45 (0, 0)) ∧ w0.heap.size ≤ g
theorem IsS45.grown {w0 W : World} {g : Nat} {f0 : Int} {f1 : Int} {f2 : Int} {f3 : Int} {f4 : Int} {f5 : Int} {f6 : Int} {W1 : World} {row : Option Nat} (h : IsS45 w0 W g f0 f1 f2 f3 f4 f5 f6) (hw : W.grownBy W1 row) (hne : some g ≠ row) : IsS45 w0 W1 g f0 f1 f2 f3 f4 f5 f6 := by
  obtain ⟨hb, hg⟩ := h
  exact ⟨blk_grown hb hw hne, hg⟩
theorem IsS45.own_neN {w0 W : World} {g : Nat} {f0 : Int} {f1 : Int} {f2 : Int} {f3 : Int} {f4 : Int} {f5 : Int} {f6 : Int} {α : Type} {d : Kd α} {e : Nat} {base : Nat} {ok : Nat → Prop} {v : Value} {xs : List α} (h : IsS45 w0 W g f0 f1 f2 f3 f4 f5 f6) (ho : Kd.N d e W base ok v xs) (ht : e ≠ 45) : some g ≠ v.ownBlock := by
  obtain ⟨hb, hg⟩ := h
  exact Kd.N_ne ho hb ht
theorem IsS45.fresh {w0 W : World} {g : Nat} {f0 : Int} {f1 : Int} {f2 : Int} {f3 : Int} {f4 : Int} {f5 : Int} {f6 : Int} (h : IsS45 w0 W g f0 f1 f2 f3 f4 f5 f6) : ∀ k, W.heap.size ≤ k → k ≠ g := by
  obtain ⟨hb, hg⟩ := h
  exact Kd.freshB hb
theorem IsS45.kept {w0 W : World} {g : Nat} {f0 : Int} {f1 : Int} {f2 : Int} {f3 : Int} {f4 : Int} {f5 : Int} {f6 : Int} {W1 : World} {S : Nat → Prop} (h : IsS45 w0 W g f0 f1 f2 f3 f4 f5 f6) (hk : Kept W W1 S) (hne : ¬ S g) : IsS45 w0 W1 g f0 f1 f2 f3 f4 f5 f6 := by
  obtain ⟨hb, hg⟩ := h
  exact ⟨blk_kept hb hk hne, hg⟩
theorem IsS45.below {w0 W : World} {g : Nat} {f0 : Int} {f1 : Int} {f2 : Int} {f3 : Int} {f4 : Int} {f5 : Int} {f6 : Int} {W1 : World} (h : IsS45 w0 W g f0 f1 f2 f3 f4 f5 f6) (hw : Below W.heap.size W W1) : IsS45 w0 W1 g f0 f1 f2 f3 f4 f5 f6 := h.grown (grown_of_below hw none) (by simp)
theorem IsS45.alloc {w0 W : World} {g : Nat} {f0 : Int} {f1 : Int} {f2 : Int} {f3 : Int} {f4 : Int} {f5 : Int} {f6 : Int} (h : IsS45 w0 W g f0 f1 f2 f3 f4 f5 f6) (o : Obj) : IsS45 w0 (W.alloc o) g f0 f1 f2 f3 f4 f5 f6 := h.below (below_alloc (Below.refl _ _) o)
theorem IsS45.drewN {w0 W : World} {g : Nat} {f0 : Int} {f1 : Int} {f2 : Int} {f3 : Int} {f4 : Int} {f5 : Int} {f6 : Int} (h : IsS45 w0 W g f0 f1 f2 f3 f4 f5 f6) (m : Nat) : IsS45 w0 (W.drewN m) g f0 f1 f2 f3 f4 f5 f6 := h
theorem IsS45.drew {w0 W : World} {g : Nat} {f0 : Int} {f1 : Int} {f2 : Int} {f3 : Int} {f4 : Int} {f5 : Int} {f6 : Int} (h : IsS45 w0 W g f0 f1 f2 f3 f4 f5 f6) : IsS45 w0 W.drew g f0 f1 f2 f3 f4 f5 f6 := h
theorem IsS45.at_ {w0 W : World} {g : Nat} {f0 : Int} {f1 : Int} {f2 : Int} {f3 : Int} {f4 : Int} {f5 : Int} {f6 : Int} {w' : World} {m : Nat} (hq : W.drewN m = w') (h : IsS45 w0 W g f0 f1 f2 f3 f4 f5 f6) : IsS45 w0 w' g f0 f1 f2 f3 f4 f5 f6 := by subst hq; exact IsS45.drewN h m
theorem IsS45.apart {w0 W : World} {g : Nat} {f0 : Int} {f1 : Int} {f2 : Int} {f3 : Int} {f4 : Int} {f5 : Int} {f6 : Int} {α : Type} {d : Kd α} {e : Nat} {base : Nat} {ok : Nat → Prop} {v : Value} {xs : List α} (h : IsS45 w0 W g f0 f1 f2 f3 f4 f5 f6) (ho : d.R e W base ok v xs) (ht : ∀ q, q ∈ e :: d.E → q ≠ 45) : d.R e W base (fun k => ok k ∧ k ≠ g) v xs := by
  obtain ⟨hb, hg⟩ := h
  exact Kd.R_types ho hb ht
theorem IsS45.own_ne {w0 W : World} {g : Nat} {f0 : Int} {f1 : Int} {f2 : Int} {f3 : Int} {f4 : Int} {f5 : Int} {f6 : Int} {α : Type} {d : Kd α} {e : Nat} {base : Nat} {ok : Nat → Prop} {v : Value} {xs : List α} (h : IsS45 w0 W g f0 f1 f2 f3 f4 f5 f6) (ho : d.R e W base ok v xs) (ht : e ≠ 45) : some g ≠ v.ownBlock := by
  obtain ⟨hb, hg⟩ := h
  exact Kd.R_ne ho hb ht
theorem IsS45.apartQ {w0 W : World} {g : Nat} {f0 : Int} {f1 : Int} {f2 : Int} {f3 : Int} {f4 : Int} {f5 : Int} {f6 : Int} {α : Type} {d : Kd α} {e : Nat} {base : Nat} {ok : Nat → Prop} {v : Value} {xs : List α} (h : IsS45 w0 W g f0 f1 f2 f3 f4 f5 f6) (ho : d.Q e W base ok v xs) (ht : ∀ q, q ∈ e :: d.E → q ≠ 45) : d.Q e W base (fun k => ok k ∧ k ≠ g) v xs := by
  obtain ⟨hb, hg⟩ := h
  exact Kd.Q_types ho hb ht
theorem IsS45.own_neQ {w0 W : World} {g : Nat} {f0 : Int} {f1 : Int} {f2 : Int} {f3 : Int} {f4 : Int} {f5 : Int} {f6 : Int} {α : Type} {d : Kd α} {e : Nat} {base : Nat} {ok : Nat → Prop} {v : Value} {xs : List α} (h : IsS45 w0 W g f0 f1 f2 f3 f4 f5 f6) (ho : d.Q e W base ok v xs) (ht : e ≠ 45) : some g ≠ v.ownBlock := by
  obtain ⟨hb, hg⟩ := h
  exact Kd.Q_ne ho hb ht
theorem IsS45.apartS {w0 W : World} {g : Nat} {f0 : Int} {f1 : Int} {f2 : Int} {f3 : Int} {f4 : Int} {f5 : Int} {f6 : Int} {α : Type} {d : Kd α} {e : Nat} {base : Nat} {ok : Nat → Prop} {v : Value} {xs : List α} (h : IsS45 w0 W g f0 f1 f2 f3 f4 f5 f6) (ho : d.S e W base ok v xs) (ht : ∀ q, q ∈ e :: d.E → q ≠ 45) : d.S e W base (fun k => ok k ∧ k ≠ g) v xs := by
  obtain ⟨hb, hg⟩ := h
  exact Kd.S_types ho hb ht
theorem IsS45.own_neS {w0 W : World} {g : Nat} {f0 : Int} {f1 : Int} {f2 : Int} {f3 : Int} {f4 : Int} {f5 : Int} {f6 : Int} {α : Type} {d : Kd α} {e : Nat} {base : Nat} {ok : Nat → Prop} {v : Value} {xs : List α} (h : IsS45 w0 W g f0 f1 f2 f3 f4 f5 f6) (ho : d.S e W base ok v xs) (ht : e ≠ 45) : some g ≠ v.ownBlock := by
  obtain ⟨hb, hg⟩ := h
  exact Kd.S_ne ho hb ht
theorem IsS45.lt {w0 W : World} {g : Nat} {f0 : Int} {f1 : Int} {f2 : Int} {f3 : Int} {f4 : Int} {f5 : Int} {f6 : Int} (h : IsS45 w0 W g f0 f1 f2 f3 f4 f5 f6) : g < W.heap.size := by
  obtain ⟨hb, hg⟩ := h
  exact blk_lt hb
theorem IsS45.ge {w0 W : World} {g : Nat} {f0 : Int} {f1 : Int} {f2 : Int} {f3 : Int} {f4 : Int} {f5 : Int} {f6 : Int} (h : IsS45 w0 W g f0 f1 f2 f3 f4 f5 f6) : w0.heap.size ≤ g := by
  obtain ⟨hb, hg⟩ := h
  exact hg
theorem IsS45.ne_blk {w0 W : World} {g : Nat} {f0 : Int} {f1 : Int} {f2 : Int} {f3 : Int} {f4 : Int} {f5 : Int} {f6 : Int} {a : Nat} {cs : Array Value} {t : TypeId} {fr : Nat × Nat} (h : IsS45 w0 W g f0 f1 f2 f3 f4 f5 f6) (hb2 : W.heap[a]? = some (.cells cs t fr)) (ht : t ≠ 45) : g ≠ a := by
  obtain ⟨hb, hg⟩ := h
  rintro rfl
  rw [hb] at hb2
  injection hb2 with hb2
  injection hb2 with _ ht2
  exact ht ht2.symm
theorem IsS45.far {w0 W : World} {g : Nat} {f0 : Int} {f1 : Int} {f2 : Int} {f3 : Int} {f4 : Int} {f5 : Int} {f6 : Int} {p : Addr} (h : IsS45 w0 W g f0 f1 f2 f3 f4 f5 f6) (hne : g ≠ p.block) (u : Value) : IsS45 w0 (W.setCell p u) g f0 f1 f2 f3 f4 f5 f6 := by
  obtain ⟨hb, hg⟩ := h
  exact ⟨blk_far hb hne u, hg⟩
theorem cellS45_0 {W : World} {g : Nat} {f0 : Int} {f1 : Int} {f2 : Int} {f3 : Int} {f4 : Int} {f5 : Int} {f6 : Int} (h : W.heap[g]? = some (.cells #[.int .i64 f0, .int .i64 f1, .int .i64 f2, .int .i64 f3, .int .i64 f4, .int .i64 f5, .int .i64 f6] 45 (0, 0))) : W.cell? ⟨g, 0, none⟩ = some (.int .i64 f0) := (blk_cell h 0).trans rfl
theorem IsS45.set_0 {w0 W : World} {g : Nat} {f0 : Int} {f1 : Int} {f2 : Int} {f3 : Int} {f4 : Int} {f5 : Int} {f6 : Int} (h : IsS45 w0 W g f0 f1 f2 f3 f4 f5 f6) (x : Int) : IsS45 w0 (W.setCell ⟨g, 0, none⟩ (.int .i64 x)) g x f1 f2 f3 f4 f5 f6 := by
  obtain ⟨hb, hg⟩ := h
  exact ⟨by simpa using blk_set hb 0 (.int .i64 x), hg⟩
theorem cellS45_1 {W : World} {g : Nat} {f0 : Int} {f1 : Int} {f2 : Int} {f3 : Int} {f4 : Int} {f5 : Int} {f6 : Int} (h : W.heap[g]? = some (.cells #[.int .i64 f0, .int .i64 f1, .int .i64 f2, .int .i64 f3, .int .i64 f4, .int .i64 f5, .int .i64 f6] 45 (0, 0))) : W.cell? ⟨g, 1, none⟩ = some (.int .i64 f1) := (blk_cell h 1).trans rfl
theorem IsS45.set_1 {w0 W : World} {g : Nat} {f0 : Int} {f1 : Int} {f2 : Int} {f3 : Int} {f4 : Int} {f5 : Int} {f6 : Int} (h : IsS45 w0 W g f0 f1 f2 f3 f4 f5 f6) (x : Int) : IsS45 w0 (W.setCell ⟨g, 1, none⟩ (.int .i64 x)) g f0 x f2 f3 f4 f5 f6 := by
  obtain ⟨hb, hg⟩ := h
  exact ⟨by simpa using blk_set hb 1 (.int .i64 x), hg⟩
theorem cellS45_2 {W : World} {g : Nat} {f0 : Int} {f1 : Int} {f2 : Int} {f3 : Int} {f4 : Int} {f5 : Int} {f6 : Int} (h : W.heap[g]? = some (.cells #[.int .i64 f0, .int .i64 f1, .int .i64 f2, .int .i64 f3, .int .i64 f4, .int .i64 f5, .int .i64 f6] 45 (0, 0))) : W.cell? ⟨g, 2, none⟩ = some (.int .i64 f2) := (blk_cell h 2).trans rfl
theorem IsS45.set_2 {w0 W : World} {g : Nat} {f0 : Int} {f1 : Int} {f2 : Int} {f3 : Int} {f4 : Int} {f5 : Int} {f6 : Int} (h : IsS45 w0 W g f0 f1 f2 f3 f4 f5 f6) (x : Int) : IsS45 w0 (W.setCell ⟨g, 2, none⟩ (.int .i64 x)) g f0 f1 x f3 f4 f5 f6 := by
  obtain ⟨hb, hg⟩ := h
  exact ⟨by simpa using blk_set hb 2 (.int .i64 x), hg⟩
theorem cellS45_3 {W : World} {g : Nat} {f0 : Int} {f1 : Int} {f2 : Int} {f3 : Int} {f4 : Int} {f5 : Int} {f6 : Int} (h : W.heap[g]? = some (.cells #[.int .i64 f0, .int .i64 f1, .int .i64 f2, .int .i64 f3, .int .i64 f4, .int .i64 f5, .int .i64 f6] 45 (0, 0))) : W.cell? ⟨g, 3, none⟩ = some (.int .i64 f3) := (blk_cell h 3).trans rfl
theorem IsS45.set_3 {w0 W : World} {g : Nat} {f0 : Int} {f1 : Int} {f2 : Int} {f3 : Int} {f4 : Int} {f5 : Int} {f6 : Int} (h : IsS45 w0 W g f0 f1 f2 f3 f4 f5 f6) (x : Int) : IsS45 w0 (W.setCell ⟨g, 3, none⟩ (.int .i64 x)) g f0 f1 f2 x f4 f5 f6 := by
  obtain ⟨hb, hg⟩ := h
  exact ⟨by simpa using blk_set hb 3 (.int .i64 x), hg⟩
theorem cellS45_4 {W : World} {g : Nat} {f0 : Int} {f1 : Int} {f2 : Int} {f3 : Int} {f4 : Int} {f5 : Int} {f6 : Int} (h : W.heap[g]? = some (.cells #[.int .i64 f0, .int .i64 f1, .int .i64 f2, .int .i64 f3, .int .i64 f4, .int .i64 f5, .int .i64 f6] 45 (0, 0))) : W.cell? ⟨g, 4, none⟩ = some (.int .i64 f4) := (blk_cell h 4).trans rfl
theorem IsS45.set_4 {w0 W : World} {g : Nat} {f0 : Int} {f1 : Int} {f2 : Int} {f3 : Int} {f4 : Int} {f5 : Int} {f6 : Int} (h : IsS45 w0 W g f0 f1 f2 f3 f4 f5 f6) (x : Int) : IsS45 w0 (W.setCell ⟨g, 4, none⟩ (.int .i64 x)) g f0 f1 f2 f3 x f5 f6 := by
  obtain ⟨hb, hg⟩ := h
  exact ⟨by simpa using blk_set hb 4 (.int .i64 x), hg⟩
theorem cellS45_5 {W : World} {g : Nat} {f0 : Int} {f1 : Int} {f2 : Int} {f3 : Int} {f4 : Int} {f5 : Int} {f6 : Int} (h : W.heap[g]? = some (.cells #[.int .i64 f0, .int .i64 f1, .int .i64 f2, .int .i64 f3, .int .i64 f4, .int .i64 f5, .int .i64 f6] 45 (0, 0))) : W.cell? ⟨g, 5, none⟩ = some (.int .i64 f5) := (blk_cell h 5).trans rfl
theorem IsS45.set_5 {w0 W : World} {g : Nat} {f0 : Int} {f1 : Int} {f2 : Int} {f3 : Int} {f4 : Int} {f5 : Int} {f6 : Int} (h : IsS45 w0 W g f0 f1 f2 f3 f4 f5 f6) (x : Int) : IsS45 w0 (W.setCell ⟨g, 5, none⟩ (.int .i64 x)) g f0 f1 f2 f3 f4 x f6 := by
  obtain ⟨hb, hg⟩ := h
  exact ⟨by simpa using blk_set hb 5 (.int .i64 x), hg⟩
theorem cellS45_6 {W : World} {g : Nat} {f0 : Int} {f1 : Int} {f2 : Int} {f3 : Int} {f4 : Int} {f5 : Int} {f6 : Int} (h : W.heap[g]? = some (.cells #[.int .i64 f0, .int .i64 f1, .int .i64 f2, .int .i64 f3, .int .i64 f4, .int .i64 f5, .int .i64 f6] 45 (0, 0))) : W.cell? ⟨g, 6, none⟩ = some (.int .i64 f6) := (blk_cell h 6).trans rfl
theorem IsS45.set_6 {w0 W : World} {g : Nat} {f0 : Int} {f1 : Int} {f2 : Int} {f3 : Int} {f4 : Int} {f5 : Int} {f6 : Int} (h : IsS45 w0 W g f0 f1 f2 f3 f4 f5 f6) (x : Int) : IsS45 w0 (W.setCell ⟨g, 6, none⟩ (.int .i64 x)) g f0 f1 f2 f3 f4 f5 x := by
  obtain ⟨hb, hg⟩ := h
  exact ⟨by simpa using blk_set hb 6 (.int .i64 x), hg⟩
theorem IsS45.new (w0 W : World) (f0 : Int) (f1 : Int) (f2 : Int) (f3 : Int) (f4 : Int) (f5 : Int) (f6 : Int) (hB : Below w0.heap.size w0 W) : IsS45 w0 (W.alloc (.cells #[.int .i64 f0, .int .i64 f1, .int .i64 f2, .int .i64 f3, .int .i64 f4, .int .i64 f5, .int .i64 f6] 45)) W.heap.size f0 f1 f2 f3 f4 f5 f6 := ⟨by simpa using heap_alloc_new W _, hB.size⟩

/-! ### trunnionref22_Note: function 15 -/
mutual
def trunnionref22_Note.j0 : Nat → Int → Bool → Int → Int → Int → Int → Int → Int → Int → Option (Int × Int × Bool × Int × Int × Int × Int × Int × Int × Int)
  | 0, _, _, _, _, _, _, _, _, _ => none
  | k + 1, x1, x19, x1000, x1001, x1002, x1003, x1004, x1005, x1006 => if x19 = true then (some (0, 0, false, x1000, x1001, x1002, x1003, x1004, x1005, x1006)) else (if x1 = x1003 then (trunnionref22_Note.j1 k x1 x1000 x1001 x1002 x1003 (wrap64 (x1004 + 1)) x1005 x1006) else (trunnionref22_Note.j1 k x1 x1000 x1001 x1002 x1003 1 0 (wrap64 (x1 + 1))))
def trunnionref22_Note.j1 : Nat → Int → Int → Int → Int → Int → Int → Int → Int → Option (Int × Int × Bool × Int × Int × Int × Int × Int × Int × Int)
  | 0, _, _, _, _, _, _, _, _ => none
  | k + 1, x1, x1000, x1001, x1002, x1003, x1004, x1005, x1006 => if x1004 < 2 then (some (0, 0, false, x1000, x1001, x1002, wrap64 (x1 + 1), x1004, x1005, x1006)) else (if x1006 > (wrap64 ((wrap64 (x1 + 1)) + (wrap64 (Int.tdiv x1005 2)))) then (some (0, 0, false, x1000, x1001, x1002, wrap64 (x1 + 1), x1004, x1005, x1006)) else (if (wrap64 (2 * x1005)) = 0 then (trunnionref22_Note.j2 k 2 x1000 x1001 x1002 (wrap64 (x1 + 1)) x1004 x1005 x1006) else (trunnionref22_Note.j2 k (wrap64 (2 * x1005)) x1000 x1001 x1002 (wrap64 (x1 + 1)) x1004 x1005 x1006)))
def trunnionref22_Note.j2 : Nat → Int → Int → Int → Int → Int → Int → Int → Int → Option (Int × Int × Bool × Int × Int × Int × Int × Int × Int × Int)
  | 0, _, _, _, _, _, _, _, _ => none
  | k + 1, x7, x1000, x1001, x1002, x1003, x1004, x1005, x1006 => if x7 > x1002 then (trunnionref22_Note.j3 k x1002 x1000 x1001 x1002 x1003 x1004 x1005 x1006) else (trunnionref22_Note.j3 k x7 x1000 x1001 x1002 x1003 x1004 x1005 x1006)
def trunnionref22_Note.j3 : Nat → Int → Int → Int → Int → Int → Int → Int → Int → Option (Int × Int × Bool × Int × Int × Int × Int × Int × Int × Int)
  | 0, _, _, _, _, _, _, _, _ => none
  | k + 1, x7, x1000, x1001, x1002, x1003, x1004, x1005, x1006 => if x1006 < x1003 then (trunnionref22_Note.j4 k x7 x1003 x1000 x1001 x1002 x1003 x1004 x7 x1006) else (trunnionref22_Note.j4 k x7 x1006 x1000 x1001 x1002 x1003 x1004 x7 x1006)
def trunnionref22_Note.j4 : Nat → Int → Int → Int → Int → Int → Int → Int → Int → Int → Option (Int × Int × Bool × Int × Int × Int × Int × Int × Int × Int)
  | 0, _, _, _, _, _, _, _, _, _ => none
  | k + 1, x7, x8, x1000, x1001, x1002, x1003, x1004, x1005, x1006 => trunnionref22_Note.l0 k x8 (wrap64 (x1003 + x7)) x1000 x1001 x1002 x1003 x1004 x1005 x1006
def trunnionref22_Note.l0 : Nat → Int → Int → Int → Int → Int → Int → Int → Int → Int → Option (Int × Int × Bool × Int × Int × Int × Int × Int × Int × Int)
  | 0, _, _, _, _, _, _, _, _, _ => none
  | k + 1, x8, x9, x1000, x1001, x1002, x1003, x1004, x1005, x1006 => if x1001 = 0 then (none) else (if (Int.tmod x9 x1001) = 0 then (if x9 > x1000 then (if x1000 ≤ x8 then (some (0, 0, false, x1000, x1001, x1002, x1003, x1004, x1005, x1006)) else (some (x8, x1000, true, x1000, x1001, x1002, x1003, x1004, x1005, x1000))) else (if x9 ≤ x8 then (some (0, 0, false, x1000, x1001, x1002, x1003, x1004, x1005, x1006)) else (some (x8, x9, true, x1000, x1001, x1002, x1003, x1004, x1005, x9)))) else (trunnionref22_Note.l0 k x8 (wrap64 (x9 + 1)) x1000 x1001 x1002 x1003 x1004 x1005 x1006))
end
def trunnionref22_Note.f (k : Nat) (s0_0 : Int) (s0_1 : Int) (s0_2 : Int) (s0_3 : Int) (s0_4 : Int) (s0_5 : Int) (s0_6 : Int) (a1 : Int) : Option (Int × Int × Bool × Int × Int × Int × Int × Int × Int × Int) := if a1 < 0 then (trunnionref22_Note.j0 k a1 true s0_0 s0_1 s0_2 s0_3 s0_4 s0_5 s0_6) else (trunnionref22_Note.j0 k a1 (decide (a1 ≥ s0_0)) s0_0 s0_1 s0_2 s0_3 s0_4 s0_5 s0_6)
theorem trunnionref22_Note.mono_l : ∀ k, (∀ y0 y1 y2 y3 y4 y5 y6 y7 y8, LeO (trunnionref22_Note.j0 k y0 y1 y2 y3 y4 y5 y6 y7 y8) (trunnionref22_Note.j0 (k + 1) y0 y1 y2 y3 y4 y5 y6 y7 y8)) ∧ (∀ y0 y1 y2 y3 y4 y5 y6 y7, LeO (trunnionref22_Note.j1 k y0 y1 y2 y3 y4 y5 y6 y7) (trunnionref22_Note.j1 (k + 1) y0 y1 y2 y3 y4 y5 y6 y7)) ∧ (∀ y0 y1 y2 y3 y4 y5 y6 y7, LeO (trunnionref22_Note.j2 k y0 y1 y2 y3 y4 y5 y6 y7) (trunnionref22_Note.j2 (k + 1) y0 y1 y2 y3 y4 y5 y6 y7)) ∧ (∀ y0 y1 y2 y3 y4 y5 y6 y7, LeO (trunnionref22_Note.j3 k y0 y1 y2 y3 y4 y5 y6 y7) (trunnionref22_Note.j3 (k + 1) y0 y1 y2 y3 y4 y5 y6 y7)) ∧ (∀ y0 y1 y2 y3 y4 y5 y6 y7 y8, LeO (trunnionref22_Note.j4 k y0 y1 y2 y3 y4 y5 y6 y7 y8) (trunnionref22_Note.j4 (k + 1) y0 y1 y2 y3 y4 y5 y6 y7 y8)) ∧ (∀ y0 y1 y2 y3 y4 y5 y6 y7 y8, LeO (trunnionref22_Note.l0 k y0 y1 y2 y3 y4 y5 y6 y7 y8) (trunnionref22_Note.l0 (k + 1) y0 y1 y2 y3 y4 y5 y6 y7 y8))
  | 0 => ⟨fun _ _ _ _ _ _ _ _ _ r h => by simp [trunnionref22_Note.j0] at h, fun _ _ _ _ _ _ _ _ r h => by simp [trunnionref22_Note.j1] at h, fun _ _ _ _ _ _ _ _ r h => by simp [trunnionref22_Note.j2] at h, fun _ _ _ _ _ _ _ _ r h => by simp [trunnionref22_Note.j3] at h, fun _ _ _ _ _ _ _ _ _ r h => by simp [trunnionref22_Note.j4] at h, fun _ _ _ _ _ _ _ _ _ r h => by simp [trunnionref22_Note.l0] at h⟩
  | k + 1 => by
    obtain ⟨ih0, ih1, ih2, ih3, ih4, ih5⟩ := trunnionref22_Note.mono_l k
    refine ⟨?_, ?_, ?_, ?_, ?_, ?_⟩
    · intro y0 y1 y2 y3 y4 y5 y6 y7 y8
      unfold trunnionref22_Note.j0
      repeat' first
      | (with_reducible exact ih0 _ _ _ _ _ _ _ _ _)
      | (with_reducible exact ih1 _ _ _ _ _ _ _ _)
      | (with_reducible exact ih2 _ _ _ _ _ _ _ _)
      | (with_reducible exact ih3 _ _ _ _ _ _ _ _)
      | (with_reducible exact ih4 _ _ _ _ _ _ _ _ _)
      | (with_reducible exact ih5 _ _ _ _ _ _ _ _ _)
      | (with_reducible exact LeO.refl _)
      | (with_reducible exact LeO.none _)
      | (with_reducible refine LeO.ite ?_ ?_)
      | (with_reducible refine LeO.bind ?_ (fun _ => ?_))
      | exact ih0 _ _ _ _ _ _ _ _ _
      | exact ih1 _ _ _ _ _ _ _ _
      | exact ih2 _ _ _ _ _ _ _ _
      | exact ih3 _ _ _ _ _ _ _ _
      | exact ih4 _ _ _ _ _ _ _ _ _
      | exact ih5 _ _ _ _ _ _ _ _ _
      | exact LeO.none _
      | refine LeO.ite ?_ ?_
      | refine LeO.bind ?_ (fun _ => ?_)
    · intro y0 y1 y2 y3 y4 y5 y6 y7
      unfold trunnionref22_Note.j1
      repeat' first
      | (with_reducible exact ih0 _ _ _ _ _ _ _ _ _)
      | (with_reducible exact ih1 _ _ _ _ _ _ _ _)
      | (with_reducible exact ih2 _ _ _ _ _ _ _ _)
      | (with_reducible exact ih3 _ _ _ _ _ _ _ _)
      | (with_reducible exact ih4 _ _ _ _ _ _ _ _ _)
      | (with_reducible exact ih5 _ _ _ _ _ _ _ _ _)
      | (with_reducible exact LeO.refl _)
      | (with_reducible exact LeO.none _)
      | (with_reducible refine LeO.ite ?_ ?_)
      | (with_reducible refine LeO.bind ?_ (fun _ => ?_))
      | exact ih0 _ _ _ _ _ _ _ _ _
      | exact ih1 _ _ _ _ _ _ _ _
      | exact ih2 _ _ _ _ _ _ _ _
      | exact ih3 _ _ _ _ _ _ _ _
      | exact ih4 _ _ _ _ _ _ _ _ _
      | exact ih5 _ _ _ _ _ _ _ _ _
      | exact LeO.none _
      | refine LeO.ite ?_ ?_
      | refine LeO.bind ?_ (fun _ => ?_)
    · intro y0 y1 y2 y3 y4 y5 y6 y7
      unfold trunnionref22_Note.j2
      repeat' first
      | (with_reducible exact ih0 _ _ _ _ _ _ _ _ _)
      | (with_reducible exact ih1 _ _ _ _ _ _ _ _)
      | (with_reducible exact ih2 _ _ _ _ _ _ _ _)
      | (with_reducible exact ih3 _ _ _ _ _ _ _ _)
      | (with_reducible exact ih4 _ _ _ _ _ _ _ _ _)
      | (with_reducible exact ih5 _ _ _ _ _ _ _ _ _)
      | (with_reducible exact LeO.refl _)
      | (with_reducible exact LeO.none _)
      | (with_reducible refine LeO.ite ?_ ?_)
      | (with_reducible refine LeO.bind ?_ (fun _ => ?_))
      | exact ih0 _ _ _ _ _ _ _ _ _
      | exact ih1 _ _ _ _ _ _ _ _
      | exact ih2 _ _ _ _ _ _ _ _
      | exact ih3 _ _ _ _ _ _ _ _
      | exact ih4 _ _ _ _ _ _ _ _ _
      | exact ih5 _ _ _ _ _ _ _ _ _
      | exact LeO.none _
      | refine LeO.ite ?_ ?_
      | refine LeO.bind ?_ (fun _ => ?_)
    · intro y0 y1 y2 y3 y4 y5 y6 y7
      unfold trunnionref22_Note.j3
      repeat' first
      | (with_reducible exact ih0 _ _ _ _ _ _ _ _ _)
      | (with_reducible exact ih1 _ _ _ _ _ _ _ _)
      | (with_reducible exact ih2 _ _ _ _ _ _ _ _)
      | (with_reducible exact ih3 _ _ _ _ _ _ _ _)
      | (with_reducible exact ih4 _ _ _ _ _ _ _ _ _)
      | (with_reducible exact ih5 _ _ _ _ _ _ _ _ _)
      | (with_reducible exact LeO.refl _)
      | (with_reducible exact LeO.none _)
      | (with_reducible refine LeO.ite ?_ ?_)
      | (with_reducible refine LeO.bind ?_ (fun _ => ?_))
      | exact ih0 _ _ _ _ _ _ _ _ _
      | exact ih1 _ _ _ _ _ _ _ _
      | exact ih2 _ _ _ _ _ _ _ _
      | exact ih3 _ _ _ _ _ _ _ _
      | exact ih4 _ _ _ _ _ _ _ _ _
      | exact ih5 _ _ _ _ _ _ _ _ _
      | exact LeO.none _
      | refine LeO.ite ?_ ?_
      | refine LeO.bind ?_ (fun _ => ?_)
    · intro y0 y1 y2 y3 y4 y5 y6 y7 y8
      unfold trunnionref22_Note.j4
      repeat' first
      | (with_reducible exact ih0 _ _ _ _ _ _ _ _ _)
      | (with_reducible exact ih1 _ _ _ _ _ _ _ _)
      | (with_reducible exact ih2 _ _ _ _ _ _ _ _)
      | (with_reducible exact ih3 _ _ _ _ _ _ _ _)
      | (with_reducible exact ih4 _ _ _ _ _ _ _ _ _)
      | (with_reducible exact ih5 _ _ _ _ _ _ _ _ _)
      | (with_reducible exact LeO.refl _)
      | (with_reducible exact LeO.none _)
      | (with_reducible refine LeO.ite ?_ ?_)
      | (with_reducible refine LeO.bind ?_ (fun _ => ?_))
      | exact ih0 _ _ _ _ _ _ _ _ _
      | exact ih1 _ _ _ _ _ _ _ _
      | exact ih2 _ _ _ _ _ _ _ _
      | exact ih3 _ _ _ _ _ _ _ _
      | exact ih4 _ _ _ _ _ _ _ _ _
      | exact ih5 _ _ _ _ _ _ _ _ _
      | exact LeO.none _
      | refine LeO.ite ?_ ?_
      | refine LeO.bind ?_ (fun _ => ?_)
    · intro y0 y1 y2 y3 y4 y5 y6 y7 y8
      unfold trunnionref22_Note.l0
      repeat' first
      | (with_reducible exact ih0 _ _ _ _ _ _ _ _ _)
      | (with_reducible exact ih1 _ _ _ _ _ _ _ _)
      | (with_reducible exact ih2 _ _ _ _ _ _ _ _)
      | (with_reducible exact ih3 _ _ _ _ _ _ _ _)
      | (with_reducible exact ih4 _ _ _ _ _ _ _ _ _)
      | (with_reducible exact ih5 _ _ _ _ _ _ _ _ _)
      | (with_reducible exact LeO.refl _)
      | (with_reducible exact LeO.none _)
      | (with_reducible refine LeO.ite ?_ ?_)
      | (with_reducible refine LeO.bind ?_ (fun _ => ?_))
      | exact ih0 _ _ _ _ _ _ _ _ _
      | exact ih1 _ _ _ _ _ _ _ _
      | exact ih2 _ _ _ _ _ _ _ _
      | exact ih3 _ _ _ _ _ _ _ _
      | exact ih4 _ _ _ _ _ _ _ _ _
      | exact ih5 _ _ _ _ _ _ _ _ _
      | exact LeO.none _
      | refine LeO.ite ?_ ?_
      | refine LeO.bind ?_ (fun _ => ?_)
theorem trunnionref22_Note.mono : ∀ a0 a1 a2 a3 a4 a5 a6 a7 k, LeO (trunnionref22_Note.f k a0 a1 a2 a3 a4 a5 a6 a7) (trunnionref22_Note.f (k + 1) a0 a1 a2 a3 a4 a5 a6 a7) := by
  intro a0 a1 a2 a3 a4 a5 a6 a7 k
  obtain ⟨ih0, ih1, ih2, ih3, ih4, ih5⟩ := trunnionref22_Note.mono_l k
  unfold trunnionref22_Note.f
  repeat' first
      | (with_reducible exact ih0 _ _ _ _ _ _ _ _ _)
      | (with_reducible exact ih1 _ _ _ _ _ _ _ _)
      | (with_reducible exact ih2 _ _ _ _ _ _ _ _)
      | (with_reducible exact ih3 _ _ _ _ _ _ _ _)
      | (with_reducible exact ih4 _ _ _ _ _ _ _ _ _)
      | (with_reducible exact ih5 _ _ _ _ _ _ _ _ _)
      | (with_reducible exact LeO.refl _)
      | (with_reducible exact LeO.none _)
      | (with_reducible refine LeO.ite ?_ ?_)
      | (with_reducible refine LeO.bind ?_ (fun _ => ?_))
      | exact ih0 _ _ _ _ _ _ _ _ _
      | exact ih1 _ _ _ _ _ _ _ _
      | exact ih2 _ _ _ _ _ _ _ _
      | exact ih3 _ _ _ _ _ _ _ _
      | exact ih4 _ _ _ _ _ _ _ _ _
      | exact ih5 _ _ _ _ _ _ _ _ _
      | exact LeO.none _
      | refine LeO.ite ?_ ?_
      | refine LeO.bind ?_ (fun _ => ?_)
set_option maxHeartbeats 8000000 in
set_option maxRecDepth 100000 in
theorem trunnionref22_Note.calls (k : Nat) (g : Nat) (s0_0 : Int) (s0_1 : Int) (s0_2 : Int) (s0_3 : Int) (s0_4 : Int) (s0_5 : Int) (s0_6 : Int) (a1 : Int) (r1 : Int) (r2 : Int) (r3 : Bool) (r4 : Int) (r5 : Int) (r6 : Int) (r7 : Int) (r8 : Int) (r9 : Int) (r10 : Int) (w0 w : World) (hI : IsS45 w0 w g s0_0 s0_1 s0_2 s0_3 s0_4 s0_5 s0_6) (hB : Below w0.heap.size w0 w) (h : trunnionref22_Note.f k s0_0 s0_1 s0_2 s0_3 s0_4 s0_5 s0_6 a1 = some (r1, r2, r3, r4, r5, r6, r7, r8, r9, r10)) :
    Calls Tryd.prog 15 #[.pointer (some ⟨g, 0, none⟩), .int .i64 a1] w fun e w' => e = .returned (.tuple #[.int .i64 r1, .int .i64 r2, .bool r3]) ∧ IsS45 w0 w' g r4 r5 r6 r7 r8 r9 r10 ∧ Below w0.heap.size w0 w' ∧ KeepBut w w' g none := by
  have HI0 := Aside0.mk hI
  have HK := Aside0.mk (KeepBut.refl w g none)
  have HL := Aside0.mk hB.size
  clear hI
  have HW0 := Aside0.mk hB.size
  have HB := Aside0.mk hB
  clear hB
  have H : (if a1 < 0 then (trunnionref22_Note.j0 k a1 true s0_0 s0_1 s0_2 s0_3 s0_4 s0_5 s0_6) else (trunnionref22_Note.j0 k a1 (decide (a1 ≥ s0_0)) s0_0 s0_1 s0_2 s0_3 s0_4 s0_5 s0_6)) = some (r1, r2, r3, r4, r5, r6, r7, r8, r9, r10) := h
  clear h
  have HC3 := Aside0.mk H
  clear H
  go_enter Tryd.func15, Tryd.ntmps15
  go_upto_region 1 with (fail)
  repeat (go_quiet (fail); go_upto_region 1 with (fail))
  go_cut [19] (fun v19 wc => ∃ (kq : Nat) (x19_2 : Bool), v19 = .bool x19_2 ∧ Aside0 (trunnionref22_Note.j0 kq a1 x19_2 s0_0 s0_1 s0_2 s0_3 s0_4 s0_5 s0_6 = some (r1, r2, r3, r4, r5, r6, r7, r8, r9, r10)) ∧ Aside0 (kq ≤ k) ∧ Aside0 (IsS45 w0 wc g s0_0 s0_1 s0_2 s0_3 s0_4 s0_5 s0_6) ∧ Aside0 (KeepBut w wc g none) ∧ Aside0 (Below w0.heap.size w0 wc))
  case first =>
    have H := HC3.out
    clear HC3
    by_cases c4 : a1 < 0
    · rw [if_pos c4] at H
      have c4b0 : decide (a1 < 0) = true := decide_eq_true c4
      clear c4
      (first | rw [c4b0] | (simp only [i64_w, i32_w]; rw [c4b0]) | skip)
      have H' := Aside0.mk H
      clear H
      go_wp2
      repeat (go_quiet (fail); try go_wp2)
      go_meet
      case rel => exact ⟨_, (true), (by first | rfl | (simp; done) | (simp [*]; done)), H', ⟨by first | omega | exact Nat.le_refl _⟩, ⟨by repeat (first | (with_reducible first | exact HI0.out | apply IsS45.alloc | apply IsS45.drewN | apply IsS45.drew | apply IsS45.set_0 | apply IsS45.set_1 | apply IsS45.set_2 | apply IsS45.set_3 | apply IsS45.set_4 | apply IsS45.set_5 | apply IsS45.set_6) | exact HI0.out)⟩, ⟨by repeat (first | (with_reducible first | exact HK.out | apply KeepBut.set_ | apply keep_drewN | apply keep_drew | apply keep_alloc) | exact HK.out)⟩, ⟨by repeat (first | (with_reducible first | exact HB.out | apply below_alloc | apply pw_below_drewN | apply below_drew1 | refine below_set ?_ (IsS45.ge HI0.out)) | exact HB.out)⟩⟩
    · rw [if_neg c4] at H
      have c4b0 : decide (a1 < 0) = false := decide_eq_false c4
      clear c4
      (first | rw [c4b0] | (simp only [i64_w, i32_w]; rw [c4b0]) | skip)
      have H' := Aside0.mk H
      clear H
      obtain ⟨HGz5, hgz5⟩ := HI0.out
      have hcz5_0 := cellS45_0 HGz5
      have hcz5_1 := cellS45_1 HGz5
      have hcz5_2 := cellS45_2 HGz5
      have hcz5_3 := cellS45_3 HGz5
      have hcz5_4 := cellS45_4 HGz5
      have hcz5_5 := cellS45_5 HGz5
      have hcz5_6 := cellS45_6 HGz5
      have hfz5_0 := blk_frozen HGz5 0
      have hfz5_1 := blk_frozen HGz5 1
      have hfz5_2 := blk_frozen HGz5 2
      have hfz5_3 := blk_frozen HGz5 3
      have hfz5_4 := blk_frozen HGz5 4
      have hfz5_5 := blk_frozen HGz5 5
      have hfz5_6 := blk_frozen HGz5 6
      clear HGz5 hgz5
      go_wp2
      repeat (go_quiet (fail); try go_wp2)
      go_meet
      case rel => exact ⟨_, (decide (a1 ≥ s0_0)), (by first | rfl | (simp; done) | (simp [*]; done)), H', ⟨by first | omega | exact Nat.le_refl _⟩, ⟨by repeat (first | (with_reducible first | exact HI0.out | apply IsS45.alloc | apply IsS45.drewN | apply IsS45.drew | apply IsS45.set_0 | apply IsS45.set_1 | apply IsS45.set_2 | apply IsS45.set_3 | apply IsS45.set_4 | apply IsS45.set_5 | apply IsS45.set_6) | exact HI0.out)⟩, ⟨by repeat (first | (with_reducible first | exact HK.out | apply KeepBut.set_ | apply keep_drewN | apply keep_drew | apply keep_alloc) | exact HK.out)⟩, ⟨by repeat (first | (with_reducible first | exact HB.out | apply below_alloc | apply pw_below_drewN | apply below_drew1 | refine below_set ?_ (IsS45.ge HI0.out)) | exact HB.out)⟩⟩
  case rest =>
    clear HC3
    try clear c1
    try clear p2
    try clear c4
    try clear c4b0
    try clear hcz5_0
    try clear hcz5_1
    try clear hcz5_2
    try clear hcz5_3
    try clear hcz5_4
    try clear hcz5_5
    try clear hcz5_6
    try clear hfz5_0
    try clear hfz5_1
    try clear hfz5_2
    try clear hfz5_3
    try clear hfz5_4
    try clear hfz5_5
    try clear hfz5_6
    obtain ⟨kq, x19_2, rfl, HA, HJ2, HI0, HK, HB⟩ := hcut
    cases kq with
    | zero => exact absurd HA.out (by simp [trunnionref22_Note.j0])
    | succ kj2 =>
      have H := HA.out
      clear HA
      simp only [trunnionref22_Note.j0] at H
      by_cases c6 : x19_2 = true
      · subst c6
        have H1 : (some (0, 0, false, s0_0, s0_1, s0_2, s0_3, s0_4, s0_5, s0_6)) = some (r1, r2, r3, r4, r5, r6, r7, r8, r9, r10) := by rw [if_pos rfl] at H; exact H
        clear H
        have H := H1
        clear H1
        simp only [Option.some.injEq, Prod.mk.injEq] at H
        obtain ⟨rfl, rfl, rfl, rfl, rfl, rfl, rfl, rfl, rfl, rfl⟩ := H
        go_wp2
        repeat (go_quiet (fail); try go_wp2)
        go_ret3
        exact ⟨by first | rfl | (simp [errW_none, errW_some] <;> rfl) | (simp [*, errW_none, errW_some] <;> rfl), by repeat (first | (with_reducible first | exact HI0.out | apply IsS45.alloc | apply IsS45.drewN | apply IsS45.drew | apply IsS45.set_0 | apply IsS45.set_1 | apply IsS45.set_2 | apply IsS45.set_3 | apply IsS45.set_4 | apply IsS45.set_5 | apply IsS45.set_6) | exact HI0.out), by repeat (first | (with_reducible first | exact HB.out | apply below_alloc | apply pw_below_drewN | apply below_drew1 | refine below_set ?_ (IsS45.ge HI0.out)) | exact HB.out), by repeat (first | (with_reducible first | exact HK.out | apply KeepBut.set_ | apply keep_drewN | apply keep_drew | apply keep_alloc) | exact HK.out)⟩
      · replace c6 := Bool.eq_false_iff.mpr c6
        subst c6
        have H1 : (if a1 = s0_3 then (trunnionref22_Note.j1 kj2 a1 s0_0 s0_1 s0_2 s0_3 (wrap64 (s0_4 + 1)) s0_5 s0_6) else (trunnionref22_Note.j1 kj2 a1 s0_0 s0_1 s0_2 s0_3 1 0 (wrap64 (a1 + 1)))) = some (r1, r2, r3, r4, r5, r6, r7, r8, r9, r10) := by rw [if_neg (show ¬ (false = true) by decide)] at H; exact H
        clear H
        have H := H1
        clear H1
        have HC7 := Aside0.mk H
        clear H
        obtain ⟨HGz8, hgz8⟩ := HI0.out
        have hcz8_0 := cellS45_0 HGz8
        have hcz8_1 := cellS45_1 HGz8
        have hcz8_2 := cellS45_2 HGz8
        have hcz8_3 := cellS45_3 HGz8
        have hcz8_4 := cellS45_4 HGz8
        have hcz8_5 := cellS45_5 HGz8
        have hcz8_6 := cellS45_6 HGz8
        have hfz8_0 := blk_frozen HGz8 0
        have hfz8_1 := blk_frozen HGz8 1
        have hfz8_2 := blk_frozen HGz8 2
        have hfz8_3 := blk_frozen HGz8 3
        have hfz8_4 := blk_frozen HGz8 4
        have hfz8_5 := blk_frozen HGz8 5
        have hfz8_6 := blk_frozen HGz8 6
        clear HGz8 hgz8
        go_upto_if 25 with (fail)
        repeat (go_quiet (fail); go_upto_if 25 with (fail))
        go_cut [] (fun wc => ∃ (kq : Nat) (x1004_6 : Int) (x1005_6 : Int) (x1006_6 : Int), Aside0 (trunnionref22_Note.j1 kq a1 s0_0 s0_1 s0_2 s0_3 x1004_6 x1005_6 x1006_6 = some (r1, r2, r3, r4, r5, r6, r7, r8, r9, r10)) ∧ Aside0 (kq ≤ kj2) ∧ Aside0 (IsS45 w0 wc g s0_0 s0_1 s0_2 s0_3 x1004_6 x1005_6 x1006_6) ∧ Aside0 (KeepBut w wc g none) ∧ Aside0 (Below w0.heap.size w0 wc))
        case first =>
          have H := HC7.out
          clear HC7
          by_cases c9 : a1 = s0_3
          · rw [if_pos c9] at H
            have c9b0 : (a1 == s0_3) = true := beq_iff_eq.mpr c9
            have c9b1 : (a1 != s0_3) = false := bne_eq_false_iff_eq.mpr c9
            clear c9
            (first | rw [c9b0] | (simp only [i64_w, i32_w]; rw [c9b0]) | skip)
            have H' := Aside0.mk H
            clear H
            obtain ⟨HGz10, hgz10⟩ := HI0.out
            have hcz10_0 := cellS45_0 HGz10
            have hcz10_1 := cellS45_1 HGz10
            have hcz10_2 := cellS45_2 HGz10
            have hcz10_3 := cellS45_3 HGz10
            have hcz10_4 := cellS45_4 HGz10
            have hcz10_5 := cellS45_5 HGz10
            have hcz10_6 := cellS45_6 HGz10
            have hfz10_0 := blk_frozen HGz10 0
            have hfz10_1 := blk_frozen HGz10 1
            have hfz10_2 := blk_frozen HGz10 2
            have hfz10_3 := blk_frozen HGz10 3
            have hfz10_4 := blk_frozen HGz10 4
            have hfz10_5 := blk_frozen HGz10 5
            have hfz10_6 := blk_frozen HGz10 6
            clear HGz10 hgz10
            go_wp2
            repeat (go_quiet (fail); try go_wp2)
            go_meet
            case rel => exact ⟨_, (wrap64 (s0_4 + 1)), (s0_5), (s0_6), H', ⟨by have := HJ2.out; first | omega | exact Nat.le_refl _⟩, ⟨by repeat (first | (with_reducible first | exact HI0.out | apply IsS45.alloc | apply IsS45.drewN | apply IsS45.drew | apply IsS45.set_0 | apply IsS45.set_1 | apply IsS45.set_2 | apply IsS45.set_3 | apply IsS45.set_4 | apply IsS45.set_5 | apply IsS45.set_6) | exact HI0.out)⟩, ⟨by repeat (first | (with_reducible first | exact HK.out | apply KeepBut.set_ | apply keep_drewN | apply keep_drew | apply keep_alloc) | exact HK.out)⟩, ⟨by repeat (first | (with_reducible first | exact HB.out | apply below_alloc | apply pw_below_drewN | apply below_drew1 | refine below_set ?_ (IsS45.ge HI0.out)) | exact HB.out)⟩⟩
          · rw [if_neg c9] at H
            have c9b0 : (a1 == s0_3) = false := beq_eq_false_iff_ne.mpr c9
            have c9b1 : (a1 != s0_3) = true := bne_iff_ne.mpr c9
            (first | rw [c9b0] | (simp only [i64_w, i32_w]; rw [c9b0]) | skip)
            have H' := Aside0.mk H
            clear H
            obtain ⟨HGz11, hgz11⟩ := HI0.out
            have hcz11_0 := cellS45_0 HGz11
            have hcz11_1 := cellS45_1 HGz11
            have hcz11_2 := cellS45_2 HGz11
            have hcz11_3 := cellS45_3 HGz11
            have hcz11_4 := cellS45_4 HGz11
            have hcz11_5 := cellS45_5 HGz11
            have hcz11_6 := cellS45_6 HGz11
            have hfz11_0 := blk_frozen HGz11 0
            have hfz11_1 := blk_frozen HGz11 1
            have hfz11_2 := blk_frozen HGz11 2
            have hfz11_3 := blk_frozen HGz11 3
            have hfz11_4 := blk_frozen HGz11 4
            have hfz11_5 := blk_frozen HGz11 5
            have hfz11_6 := blk_frozen HGz11 6
            clear HGz11 hgz11
            go_wp2
            repeat (go_quiet (fail); try go_wp2)
            go_meet
            case rel => exact ⟨_, (1), (0), (wrap64 (a1 + 1)), H', ⟨by have := HJ2.out; first | omega | exact Nat.le_refl _⟩, ⟨by repeat (first | (with_reducible first | exact HI0.out | apply IsS45.alloc | apply IsS45.drewN | apply IsS45.drew | apply IsS45.set_0 | apply IsS45.set_1 | apply IsS45.set_2 | apply IsS45.set_3 | apply IsS45.set_4 | apply IsS45.set_5 | apply IsS45.set_6) | exact HI0.out)⟩, ⟨by repeat (first | (with_reducible first | exact HK.out | apply KeepBut.set_ | apply keep_drewN | apply keep_drew | apply keep_alloc) | exact HK.out)⟩, ⟨by repeat (first | (with_reducible first | exact HB.out | apply below_alloc | apply pw_below_drewN | apply below_drew1 | refine below_set ?_ (IsS45.ge HI0.out)) | exact HB.out)⟩⟩
        case rest =>
          clear HC7
          try clear c1
          try clear p2
          try clear c4
          try clear c4b0
          try clear c6
          try clear p6
          try clear c9
          try clear c9b0
          try clear c9b1
          try clear hcz10_0
          try clear hcz10_1
          try clear hcz10_2
          try clear hcz10_3
          try clear hcz10_4
          try clear hcz10_5
          try clear hcz10_6
          try clear hcz11_0
          try clear hcz11_1
          try clear hcz11_2
          try clear hcz11_3
          try clear hcz11_4
          try clear hcz11_5
          try clear hcz11_6
          try clear hcz5_0
          try clear hcz5_1
          try clear hcz5_2
          try clear hcz5_3
          try clear hcz5_4
          try clear hcz5_5
          try clear hcz5_6
          try clear hcz8_0
          try clear hcz8_1
          try clear hcz8_2
          try clear hcz8_3
          try clear hcz8_4
          try clear hcz8_5
          try clear hcz8_6
          try clear hfz10_0
          try clear hfz10_1
          try clear hfz10_2
          try clear hfz10_3
          try clear hfz10_4
          try clear hfz10_5
          try clear hfz10_6
          try clear hfz11_0
          try clear hfz11_1
          try clear hfz11_2
          try clear hfz11_3
          try clear hfz11_4
          try clear hfz11_5
          try clear hfz11_6
          try clear hfz5_0
          try clear hfz5_1
          try clear hfz5_2
          try clear hfz5_3
          try clear hfz5_4
          try clear hfz5_5
          try clear hfz5_6
          try clear hfz8_0
          try clear hfz8_1
          try clear hfz8_2
          try clear hfz8_3
          try clear hfz8_4
          try clear hfz8_5
          try clear hfz8_6
          try clear p2
          obtain ⟨kq, x1004_6, x1005_6, x1006_6, HA, HJ6, HI0, HK, HB⟩ := hcut
          cases kq with
          | zero => exact absurd HA.out (by simp [trunnionref22_Note.j1])
          | succ kj6 =>
            have H := HA.out
            clear HA
            simp only [trunnionref22_Note.j1] at H
            by_cases c12 : x1004_6 < 2
            · rw [if_pos c12] at H
              have c12b0 : decide (x1004_6 < 2) = true := decide_eq_true c12
              clear c12
              simp only [Option.some.injEq, Prod.mk.injEq] at H
              obtain ⟨rfl, rfl, rfl, rfl, rfl, rfl, rfl, rfl, rfl, rfl⟩ := H
              obtain ⟨HGz13, hgz13⟩ := HI0.out
              have hcz13_0 := cellS45_0 HGz13
              have hcz13_1 := cellS45_1 HGz13
              have hcz13_2 := cellS45_2 HGz13
              have hcz13_3 := cellS45_3 HGz13
              have hcz13_4 := cellS45_4 HGz13
              have hcz13_5 := cellS45_5 HGz13
              have hcz13_6 := cellS45_6 HGz13
              have hfz13_0 := blk_frozen HGz13 0
              have hfz13_1 := blk_frozen HGz13 1
              have hfz13_2 := blk_frozen HGz13 2
              have hfz13_3 := blk_frozen HGz13 3
              have hfz13_4 := blk_frozen HGz13 4
              have hfz13_5 := blk_frozen HGz13 5
              have hfz13_6 := blk_frozen HGz13 6
              clear HGz13 hgz13
              go_wp2
              repeat (go_quiet (fail); try go_wp2)
              go_ret3
              exact ⟨by first | rfl | (simp [errW_none, errW_some] <;> rfl) | (simp [*, errW_none, errW_some] <;> rfl), by repeat (first | (with_reducible first | exact HI0.out | apply IsS45.alloc | apply IsS45.drewN | apply IsS45.drew | apply IsS45.set_0 | apply IsS45.set_1 | apply IsS45.set_2 | apply IsS45.set_3 | apply IsS45.set_4 | apply IsS45.set_5 | apply IsS45.set_6) | exact HI0.out), by repeat (first | (with_reducible first | exact HB.out | apply below_alloc | apply pw_below_drewN | apply below_drew1 | refine below_set ?_ (IsS45.ge HI0.out)) | exact HB.out), by repeat (first | (with_reducible first | exact HK.out | apply KeepBut.set_ | apply keep_drewN | apply keep_drew | apply keep_alloc) | exact HK.out)⟩
            · rw [if_neg c12] at H
              have c12b0 : decide (x1004_6 < 2) = false := decide_eq_false c12
              clear c12
              by_cases c14 : x1006_6 > (wrap64 ((wrap64 (a1 + 1)) + (wrap64 (Int.tdiv x1005_6 2))))
              · rw [if_pos c14] at H
                have c14b0 : decide ((wrap64 ((wrap64 (a1 + 1)) + (wrap64 (Int.tdiv x1005_6 2)))) < x1006_6) = true := decide_eq_true c14
                clear c14
                simp only [Option.some.injEq, Prod.mk.injEq] at H
                obtain ⟨rfl, rfl, rfl, rfl, rfl, rfl, rfl, rfl, rfl, rfl⟩ := H
                obtain ⟨HGz15, hgz15⟩ := HI0.out
                have hcz15_0 := cellS45_0 HGz15
                have hcz15_1 := cellS45_1 HGz15
                have hcz15_2 := cellS45_2 HGz15
                have hcz15_3 := cellS45_3 HGz15
                have hcz15_4 := cellS45_4 HGz15
                have hcz15_5 := cellS45_5 HGz15
                have hcz15_6 := cellS45_6 HGz15
                have hfz15_0 := blk_frozen HGz15 0
                have hfz15_1 := blk_frozen HGz15 1
                have hfz15_2 := blk_frozen HGz15 2
                have hfz15_3 := blk_frozen HGz15 3
                have hfz15_4 := blk_frozen HGz15 4
                have hfz15_5 := blk_frozen HGz15 5
                have hfz15_6 := blk_frozen HGz15 6
                clear HGz15 hgz15
                go_wp2
                repeat (go_quiet (fail); try go_wp2)
                go_ret3
                exact ⟨by first | rfl | (simp [errW_none, errW_some] <;> rfl) | (simp [*, errW_none, errW_some] <;> rfl), by repeat (first | (with_reducible first | exact HI0.out | apply IsS45.alloc | apply IsS45.drewN | apply IsS45.drew | apply IsS45.set_0 | apply IsS45.set_1 | apply IsS45.set_2 | apply IsS45.set_3 | apply IsS45.set_4 | apply IsS45.set_5 | apply IsS45.set_6) | exact HI0.out), by repeat (first | (with_reducible first | exact HB.out | apply below_alloc | apply pw_below_drewN | apply below_drew1 | refine below_set ?_ (IsS45.ge HI0.out)) | exact HB.out), by repeat (first | (with_reducible first | exact HK.out | apply KeepBut.set_ | apply keep_drewN | apply keep_drew | apply keep_alloc) | exact HK.out)⟩
              · rw [if_neg c14] at H
                have c14b0 : decide ((wrap64 ((wrap64 (a1 + 1)) + (wrap64 (Int.tdiv x1005_6 2)))) < x1006_6) = false := decide_eq_false c14
                clear c14
                have HC16 := Aside0.mk H
                clear H
                obtain ⟨HGz17, hgz17⟩ := HI0.out
                have hcz17_0 := cellS45_0 HGz17
                have hcz17_1 := cellS45_1 HGz17
                have hcz17_2 := cellS45_2 HGz17
                have hcz17_3 := cellS45_3 HGz17
                have hcz17_4 := cellS45_4 HGz17
                have hcz17_5 := cellS45_5 HGz17
                have hcz17_6 := cellS45_6 HGz17
                have hfz17_0 := blk_frozen HGz17 0
                have hfz17_1 := blk_frozen HGz17 1
                have hfz17_2 := blk_frozen HGz17 2
                have hfz17_3 := blk_frozen HGz17 3
                have hfz17_4 := blk_frozen HGz17 4
                have hfz17_5 := blk_frozen HGz17 5
                have hfz17_6 := blk_frozen HGz17 6
                clear HGz17 hgz17
                go_upto_if 76 with (fail)
                repeat (go_quiet (fail); go_upto_if 76 with (fail))
                go_cut [7] (fun v7 wc => ∃ (kq : Nat) (x7_15 : Int), v7 = .int .i64 x7_15 ∧ Aside0 (trunnionref22_Note.j2 kq x7_15 s0_0 s0_1 s0_2 (wrap64 (a1 + 1)) x1004_6 x1005_6 x1006_6 = some (r1, r2, r3, r4, r5, r6, r7, r8, r9, r10)) ∧ Aside0 (kq ≤ kj6) ∧ Aside0 (IsS45 w0 wc g s0_0 s0_1 s0_2 (wrap64 (a1 + 1)) x1004_6 x1005_6 x1006_6) ∧ Aside0 (KeepBut w wc g none) ∧ Aside0 (Below w0.heap.size w0 wc))
                case first =>
                  have H := HC16.out
                  clear HC16
                  by_cases c18 : (wrap64 (2 * x1005_6)) = 0
                  · rw [if_pos c18] at H
                    have c18b0 : ((wrap64 (2 * x1005_6)) == 0) = true := beq_iff_eq.mpr c18
                    have c18b1 : ((wrap64 (2 * x1005_6)) != 0) = false := bne_eq_false_iff_eq.mpr c18
                    clear c18
                    (first | rw [c18b0] | (simp only [i64_w, i32_w]; rw [c18b0]) | skip)
                    have H' := Aside0.mk H
                    clear H
                    go_wp2
                    repeat (go_quiet (fail); try go_wp2)
                    go_meet
                    case rel => exact ⟨_, (2), (by first | rfl | (simp; done) | (simp [*]; done)), H', ⟨by have := HJ2.out; have := HJ6.out; first | omega | exact Nat.le_refl _⟩, ⟨by repeat (first | (with_reducible first | exact HI0.out | apply IsS45.alloc | apply IsS45.drewN | apply IsS45.drew | apply IsS45.set_0 | apply IsS45.set_1 | apply IsS45.set_2 | apply IsS45.set_3 | apply IsS45.set_4 | apply IsS45.set_5 | apply IsS45.set_6) | exact HI0.out)⟩, ⟨by repeat (first | (with_reducible first | exact HK.out | apply KeepBut.set_ | apply keep_drewN | apply keep_drew | apply keep_alloc) | exact HK.out)⟩, ⟨by repeat (first | (with_reducible first | exact HB.out | apply below_alloc | apply pw_below_drewN | apply below_drew1 | refine below_set ?_ (IsS45.ge HI0.out)) | exact HB.out)⟩⟩
                  · rw [if_neg c18] at H
                    have c18b0 : ((wrap64 (2 * x1005_6)) == 0) = false := beq_eq_false_iff_ne.mpr c18
                    have c18b1 : ((wrap64 (2 * x1005_6)) != 0) = true := bne_iff_ne.mpr c18
                    (first | rw [c18b0] | (simp only [i64_w, i32_w]; rw [c18b0]) | skip)
                    have H' := Aside0.mk H
                    clear H
                    go_wp2
                    repeat (go_quiet (fail); try go_wp2)
                    go_meet
                    case rel => exact ⟨_, (wrap64 (2 * x1005_6)), (by first | rfl | (simp; done) | (simp [*]; done)), H', ⟨by have := HJ2.out; have := HJ6.out; first | omega | exact Nat.le_refl _⟩, ⟨by repeat (first | (with_reducible first | exact HI0.out | apply IsS45.alloc | apply IsS45.drewN | apply IsS45.drew | apply IsS45.set_0 | apply IsS45.set_1 | apply IsS45.set_2 | apply IsS45.set_3 | apply IsS45.set_4 | apply IsS45.set_5 | apply IsS45.set_6) | exact HI0.out)⟩, ⟨by repeat (first | (with_reducible first | exact HK.out | apply KeepBut.set_ | apply keep_drewN | apply keep_drew | apply keep_alloc) | exact HK.out)⟩, ⟨by repeat (first | (with_reducible first | exact HB.out | apply below_alloc | apply pw_below_drewN | apply below_drew1 | refine below_set ?_ (IsS45.ge HI0.out)) | exact HB.out)⟩⟩
                case rest =>
                  clear HC16
                  try clear c1
                  try clear p2
                  try clear c4
                  try clear c4b0
                  try clear c6
                  try clear p6
                  try clear c9
                  try clear c9b0
                  try clear c9b1
                  try clear c12
                  try clear c12b0
                  try clear c14
                  try clear c14b0
                  try clear c15
                  try clear c18
                  try clear c18b0
                  try clear c18b1
                  try clear hcz10_0
                  try clear hcz10_1
                  try clear hcz10_2
                  try clear hcz10_3
                  try clear hcz10_4
                  try clear hcz10_5
                  try clear hcz10_6
                  try clear hcz11_0
                  try clear hcz11_1
                  try clear hcz11_2
                  try clear hcz11_3
                  try clear hcz11_4
                  try clear hcz11_5
                  try clear hcz11_6
                  try clear hcz13_0
                  try clear hcz13_1
                  try clear hcz13_2
                  try clear hcz13_3
                  try clear hcz13_4
                  try clear hcz13_5
                  try clear hcz13_6
                  try clear hcz15_0
                  try clear hcz15_1
                  try clear hcz15_2
                  try clear hcz15_3
                  try clear hcz15_4
                  try clear hcz15_5
                  try clear hcz15_6
                  try clear hcz17_0
                  try clear hcz17_1
                  try clear hcz17_2
                  try clear hcz17_3
                  try clear hcz17_4
                  try clear hcz17_5
                  try clear hcz17_6
                  try clear hcz5_0
                  try clear hcz5_1
                  try clear hcz5_2
                  try clear hcz5_3
                  try clear hcz5_4
                  try clear hcz5_5
                  try clear hcz5_6
                  try clear hcz8_0
                  try clear hcz8_1
                  try clear hcz8_2
                  try clear hcz8_3
                  try clear hcz8_4
                  try clear hcz8_5
                  try clear hcz8_6
                  try clear hfz10_0
                  try clear hfz10_1
                  try clear hfz10_2
                  try clear hfz10_3
                  try clear hfz10_4
                  try clear hfz10_5
                  try clear hfz10_6
                  try clear hfz11_0
                  try clear hfz11_1
                  try clear hfz11_2
                  try clear hfz11_3
                  try clear hfz11_4
                  try clear hfz11_5
                  try clear hfz11_6
                  try clear hfz13_0
                  try clear hfz13_1
                  try clear hfz13_2
                  try clear hfz13_3
                  try clear hfz13_4
                  try clear hfz13_5
                  try clear hfz13_6
                  try clear hfz15_0
                  try clear hfz15_1
                  try clear hfz15_2
                  try clear hfz15_3
                  try clear hfz15_4
                  try clear hfz15_5
                  try clear hfz15_6
                  try clear hfz17_0
                  try clear hfz17_1
                  try clear hfz17_2
                  try clear hfz17_3
                  try clear hfz17_4
                  try clear hfz17_5
                  try clear hfz17_6
                  try clear hfz5_0
                  try clear hfz5_1
                  try clear hfz5_2
                  try clear hfz5_3
                  try clear hfz5_4
                  try clear hfz5_5
                  try clear hfz5_6
                  try clear hfz8_0
                  try clear hfz8_1
                  try clear hfz8_2
                  try clear hfz8_3
                  try clear hfz8_4
                  try clear hfz8_5
                  try clear hfz8_6
                  try clear p2
                  try clear p6
                  obtain ⟨kq, x7_15, rfl, HA, HJ15, HI0, HK, HB⟩ := hcut
                  cases kq with
                  | zero => exact absurd HA.out (by simp [trunnionref22_Note.j2])
                  | succ kj15 =>
                    have H := HA.out
                    clear HA
                    simp only [trunnionref22_Note.j2] at H
                    have HC19 := Aside0.mk H
                    clear H
                    obtain ⟨HGz20, hgz20⟩ := HI0.out
                    have hcz20_0 := cellS45_0 HGz20
                    have hcz20_1 := cellS45_1 HGz20
                    have hcz20_2 := cellS45_2 HGz20
                    have hcz20_3 := cellS45_3 HGz20
                    have hcz20_4 := cellS45_4 HGz20
                    have hcz20_5 := cellS45_5 HGz20
                    have hcz20_6 := cellS45_6 HGz20
                    have hfz20_0 := blk_frozen HGz20 0
                    have hfz20_1 := blk_frozen HGz20 1
                    have hfz20_2 := blk_frozen HGz20 2
                    have hfz20_3 := blk_frozen HGz20 3
                    have hfz20_4 := blk_frozen HGz20 4
                    have hfz20_5 := blk_frozen HGz20 5
                    have hfz20_6 := blk_frozen HGz20 6
                    clear HGz20 hgz20
                    go_upto_if 82 with (fail)
                    repeat (go_quiet (fail); go_upto_if 82 with (fail))
                    go_cut [7] (fun v7 wc => ∃ (kq : Nat) (x7_18 : Int), v7 = .int .i64 x7_18 ∧ Aside0 (trunnionref22_Note.j3 kq x7_18 s0_0 s0_1 s0_2 (wrap64 (a1 + 1)) x1004_6 x1005_6 x1006_6 = some (r1, r2, r3, r4, r5, r6, r7, r8, r9, r10)) ∧ Aside0 (kq ≤ kj15) ∧ Aside0 (IsS45 w0 wc g s0_0 s0_1 s0_2 (wrap64 (a1 + 1)) x1004_6 x1005_6 x1006_6) ∧ Aside0 (KeepBut w wc g none) ∧ Aside0 (Below w0.heap.size w0 wc))
                    case first =>
                      have H := HC19.out
                      clear HC19
                      by_cases c21 : x7_15 > s0_2
                      · rw [if_pos c21] at H
                        have c21b0 : decide (s0_2 < x7_15) = true := decide_eq_true c21
                        clear c21
                        (first | rw [c21b0] | (simp only [i64_w, i32_w]; rw [c21b0]) | skip)
                        have H' := Aside0.mk H
                        clear H
                        obtain ⟨HGz22, hgz22⟩ := HI0.out
                        have hcz22_0 := cellS45_0 HGz22
                        have hcz22_1 := cellS45_1 HGz22
                        have hcz22_2 := cellS45_2 HGz22
                        have hcz22_3 := cellS45_3 HGz22
                        have hcz22_4 := cellS45_4 HGz22
                        have hcz22_5 := cellS45_5 HGz22
                        have hcz22_6 := cellS45_6 HGz22
                        have hfz22_0 := blk_frozen HGz22 0
                        have hfz22_1 := blk_frozen HGz22 1
                        have hfz22_2 := blk_frozen HGz22 2
                        have hfz22_3 := blk_frozen HGz22 3
                        have hfz22_4 := blk_frozen HGz22 4
                        have hfz22_5 := blk_frozen HGz22 5
                        have hfz22_6 := blk_frozen HGz22 6
                        clear HGz22 hgz22
                        go_wp2
                        repeat (go_quiet (fail); try go_wp2)
                        go_meet
                        case rel => exact ⟨_, (s0_2), (by first | rfl | (simp; done) | (simp [*]; done)), H', ⟨by have := HJ2.out; have := HJ6.out; have := HJ15.out; first | omega | exact Nat.le_refl _⟩, ⟨by repeat (first | (with_reducible first | exact HI0.out | apply IsS45.alloc | apply IsS45.drewN | apply IsS45.drew | apply IsS45.set_0 | apply IsS45.set_1 | apply IsS45.set_2 | apply IsS45.set_3 | apply IsS45.set_4 | apply IsS45.set_5 | apply IsS45.set_6) | exact HI0.out)⟩, ⟨by repeat (first | (with_reducible first | exact HK.out | apply KeepBut.set_ | apply keep_drewN | apply keep_drew | apply keep_alloc) | exact HK.out)⟩, ⟨by repeat (first | (with_reducible first | exact HB.out | apply below_alloc | apply pw_below_drewN | apply below_drew1 | refine below_set ?_ (IsS45.ge HI0.out)) | exact HB.out)⟩⟩
                      · rw [if_neg c21] at H
                        have c21b0 : decide (s0_2 < x7_15) = false := decide_eq_false c21
                        clear c21
                        (first | rw [c21b0] | (simp only [i64_w, i32_w]; rw [c21b0]) | skip)
                        have H' := Aside0.mk H
                        clear H
                        go_wp2
                        repeat (go_quiet (fail); try go_wp2)
                        go_meet
                        case rel => exact ⟨_, (x7_15), (by first | rfl | (simp; done) | (simp [*]; done)), H', ⟨by have := HJ2.out; have := HJ6.out; have := HJ15.out; first | omega | exact Nat.le_refl _⟩, ⟨by repeat (first | (with_reducible first | exact HI0.out | apply IsS45.alloc | apply IsS45.drewN | apply IsS45.drew | apply IsS45.set_0 | apply IsS45.set_1 | apply IsS45.set_2 | apply IsS45.set_3 | apply IsS45.set_4 | apply IsS45.set_5 | apply IsS45.set_6) | exact HI0.out)⟩, ⟨by repeat (first | (with_reducible first | exact HK.out | apply KeepBut.set_ | apply keep_drewN | apply keep_drew | apply keep_alloc) | exact HK.out)⟩, ⟨by repeat (first | (with_reducible first | exact HB.out | apply below_alloc | apply pw_below_drewN | apply below_drew1 | refine below_set ?_ (IsS45.ge HI0.out)) | exact HB.out)⟩⟩
                    case rest =>
                      clear HC19
                      try clear c1
                      try clear c2
                      try clear p2
                      try clear c4
                      try clear c4b0
                      try clear c6
                      try clear p6
                      try clear c9
                      try clear c9b0
                      try clear c9b1
                      try clear c12
                      try clear c12b0
                      try clear c14
                      try clear c14b0
                      try clear c15
                      try clear c18
                      try clear c18b0
                      try clear c18b1
                      try clear c21
                      try clear c21b0
                      try clear hcz10_0
                      try clear hcz10_1
                      try clear hcz10_2
                      try clear hcz10_3
                      try clear hcz10_4
                      try clear hcz10_5
                      try clear hcz10_6
                      try clear hcz11_0
                      try clear hcz11_1
                      try clear hcz11_2
                      try clear hcz11_3
                      try clear hcz11_4
                      try clear hcz11_5
                      try clear hcz11_6
                      try clear hcz13_0
                      try clear hcz13_1
                      try clear hcz13_2
                      try clear hcz13_3
                      try clear hcz13_4
                      try clear hcz13_5
                      try clear hcz13_6
                      try clear hcz15_0
                      try clear hcz15_1
                      try clear hcz15_2
                      try clear hcz15_3
                      try clear hcz15_4
                      try clear hcz15_5
                      try clear hcz15_6
                      try clear hcz17_0
                      try clear hcz17_1
                      try clear hcz17_2
                      try clear hcz17_3
                      try clear hcz17_4
                      try clear hcz17_5
                      try clear hcz17_6
                      try clear hcz20_0
                      try clear hcz20_1
                      try clear hcz20_2
                      try clear hcz20_3
                      try clear hcz20_4
                      try clear hcz20_5
                      try clear hcz20_6
                      try clear hcz22_0
                      try clear hcz22_1
                      try clear hcz22_2
                      try clear hcz22_3
                      try clear hcz22_4
                      try clear hcz22_5
                      try clear hcz22_6
                      try clear hcz5_0
                      try clear hcz5_1
                      try clear hcz5_2
                      try clear hcz5_3
                      try clear hcz5_4
                      try clear hcz5_5
                      try clear hcz5_6
                      try clear hcz8_0
                      try clear hcz8_1
                      try clear hcz8_2
                      try clear hcz8_3
                      try clear hcz8_4
                      try clear hcz8_5
                      try clear hcz8_6
                      try clear hfz10_0
                      try clear hfz10_1
                      try clear hfz10_2
                      try clear hfz10_3
                      try clear hfz10_4
                      try clear hfz10_5
                      try clear hfz10_6
                      try clear hfz11_0
                      try clear hfz11_1
                      try clear hfz11_2
                      try clear hfz11_3
                      try clear hfz11_4
                      try clear hfz11_5
                      try clear hfz11_6
                      try clear hfz13_0
                      try clear hfz13_1
                      try clear hfz13_2
                      try clear hfz13_3
                      try clear hfz13_4
                      try clear hfz13_5
                      try clear hfz13_6
                      try clear hfz15_0
                      try clear hfz15_1
                      try clear hfz15_2
                      try clear hfz15_3
                      try clear hfz15_4
                      try clear hfz15_5
                      try clear hfz15_6
                      try clear hfz17_0
                      try clear hfz17_1
                      try clear hfz17_2
                      try clear hfz17_3
                      try clear hfz17_4
                      try clear hfz17_5
                      try clear hfz17_6
                      try clear hfz20_0
                      try clear hfz20_1
                      try clear hfz20_2
                      try clear hfz20_3
                      try clear hfz20_4
                      try clear hfz20_5
                      try clear hfz20_6
                      try clear hfz22_0
                      try clear hfz22_1
                      try clear hfz22_2
                      try clear hfz22_3
                      try clear hfz22_4
                      try clear hfz22_5
                      try clear hfz22_6
                      try clear hfz5_0
                      try clear hfz5_1
                      try clear hfz5_2
                      try clear hfz5_3
                      try clear hfz5_4
                      try clear hfz5_5
                      try clear hfz5_6
                      try clear hfz8_0
                      try clear hfz8_1
                      try clear hfz8_2
                      try clear hfz8_3
                      try clear hfz8_4
                      try clear hfz8_5
                      try clear hfz8_6
                      try clear p2
                      try clear p6
                      obtain ⟨kq, x7_18, rfl, HA, HJ18, HI0, HK, HB⟩ := hcut
                      cases kq with
                      | zero => exact absurd HA.out (by simp [trunnionref22_Note.j3])
                      | succ kj18 =>
                        have H := HA.out
                        clear HA
                        simp only [trunnionref22_Note.j3] at H
                        have HC23 := Aside0.mk H
                        clear H
                        obtain ⟨HGz24, hgz24⟩ := HI0.out
                        have hcz24_0 := cellS45_0 HGz24
                        have hcz24_1 := cellS45_1 HGz24
                        have hcz24_2 := cellS45_2 HGz24
                        have hcz24_3 := cellS45_3 HGz24
                        have hcz24_4 := cellS45_4 HGz24
                        have hcz24_5 := cellS45_5 HGz24
                        have hcz24_6 := cellS45_6 HGz24
                        have hfz24_0 := blk_frozen HGz24 0
                        have hfz24_1 := blk_frozen HGz24 1
                        have hfz24_2 := blk_frozen HGz24 2
                        have hfz24_3 := blk_frozen HGz24 3
                        have hfz24_4 := blk_frozen HGz24 4
                        have hfz24_5 := blk_frozen HGz24 5
                        have hfz24_6 := blk_frozen HGz24 6
                        clear HGz24 hgz24
                        go_upto_if 100 with (fail)
                        repeat (go_quiet (fail); go_upto_if 100 with (fail))
                        go_cut [8] (fun v8 wc => ∃ (kq : Nat) (x8_22 : Int), v8 = .int .i64 x8_22 ∧ Aside0 (trunnionref22_Note.j4 kq x7_18 x8_22 s0_0 s0_1 s0_2 (wrap64 (a1 + 1)) x1004_6 x7_18 x1006_6 = some (r1, r2, r3, r4, r5, r6, r7, r8, r9, r10)) ∧ Aside0 (kq ≤ kj18) ∧ Aside0 (IsS45 w0 wc g s0_0 s0_1 s0_2 (wrap64 (a1 + 1)) x1004_6 x7_18 x1006_6) ∧ Aside0 (KeepBut w wc g none) ∧ Aside0 (Below w0.heap.size w0 wc))
                        case first =>
                          have H := HC23.out
                          clear HC23
                          by_cases c25 : x1006_6 < (wrap64 (a1 + 1))
                          · rw [if_pos c25] at H
                            have c25b0 : decide (x1006_6 < (wrap64 (a1 + 1))) = true := decide_eq_true c25
                            clear c25
                            (first | rw [c25b0] | (simp only [i64_w, i32_w]; rw [c25b0]) | skip)
                            have H' := Aside0.mk H
                            clear H
                            obtain ⟨HGz26, hgz26⟩ := HI0.out
                            have hcz26_0 := cellS45_0 HGz26
                            have hcz26_1 := cellS45_1 HGz26
                            have hcz26_2 := cellS45_2 HGz26
                            have hcz26_3 := cellS45_3 HGz26
                            have hcz26_4 := cellS45_4 HGz26
                            have hcz26_5 := cellS45_5 HGz26
                            have hcz26_6 := cellS45_6 HGz26
                            have hfz26_0 := blk_frozen HGz26 0
                            have hfz26_1 := blk_frozen HGz26 1
                            have hfz26_2 := blk_frozen HGz26 2
                            have hfz26_3 := blk_frozen HGz26 3
                            have hfz26_4 := blk_frozen HGz26 4
                            have hfz26_5 := blk_frozen HGz26 5
                            have hfz26_6 := blk_frozen HGz26 6
                            clear HGz26 hgz26
                            go_wp2
                            repeat (go_quiet (fail); try go_wp2)
                            go_meet
                            case rel => exact ⟨_, ((wrap64 (a1 + 1))), (by first | rfl | (simp; done) | (simp [*]; done)), H', ⟨by have := HJ2.out; have := HJ6.out; have := HJ15.out; have := HJ18.out; first | omega | exact Nat.le_refl _⟩, ⟨by repeat (first | (with_reducible first | exact HI0.out | apply IsS45.alloc | apply IsS45.drewN | apply IsS45.drew | apply IsS45.set_0 | apply IsS45.set_1 | apply IsS45.set_2 | apply IsS45.set_3 | apply IsS45.set_4 | apply IsS45.set_5 | apply IsS45.set_6) | exact HI0.out)⟩, ⟨by repeat (first | (with_reducible first | exact HK.out | apply KeepBut.set_ | apply keep_drewN | apply keep_drew | apply keep_alloc) | exact HK.out)⟩, ⟨by repeat (first | (with_reducible first | exact HB.out | apply below_alloc | apply pw_below_drewN | apply below_drew1 | refine below_set ?_ (IsS45.ge HI0.out)) | exact HB.out)⟩⟩
                          · rw [if_neg c25] at H
                            have c25b0 : decide (x1006_6 < (wrap64 (a1 + 1))) = false := decide_eq_false c25
                            clear c25
                            (first | rw [c25b0] | (simp only [i64_w, i32_w]; rw [c25b0]) | skip)
                            have H' := Aside0.mk H
                            clear H
                            go_wp2
                            repeat (go_quiet (fail); try go_wp2)
                            go_meet
                            case rel => exact ⟨_, (x1006_6), (by first | rfl | (simp; done) | (simp [*]; done)), H', ⟨by have := HJ2.out; have := HJ6.out; have := HJ15.out; have := HJ18.out; first | omega | exact Nat.le_refl _⟩, ⟨by repeat (first | (with_reducible first | exact HI0.out | apply IsS45.alloc | apply IsS45.drewN | apply IsS45.drew | apply IsS45.set_0 | apply IsS45.set_1 | apply IsS45.set_2 | apply IsS45.set_3 | apply IsS45.set_4 | apply IsS45.set_5 | apply IsS45.set_6) | exact HI0.out)⟩, ⟨by repeat (first | (with_reducible first | exact HK.out | apply KeepBut.set_ | apply keep_drewN | apply keep_drew | apply keep_alloc) | exact HK.out)⟩, ⟨by repeat (first | (with_reducible first | exact HB.out | apply below_alloc | apply pw_below_drewN | apply below_drew1 | refine below_set ?_ (IsS45.ge HI0.out)) | exact HB.out)⟩⟩
                        case rest =>
                          clear HC23
                          try clear c1
                          try clear c2
                          try clear p2
                          try clear c4
                          try clear c4b0
                          try clear c6
                          try clear p6
                          try clear c9
                          try clear c9b0
                          try clear c9b1
                          try clear c12
                          try clear c12b0
                          try clear c14
                          try clear c14b0
                          try clear c15
                          try clear c18
                          try clear c18b0
                          try clear c18b1
                          try clear c21
                          try clear c21b0
                          try clear c25
                          try clear c25b0
                          try clear hcz10_0
                          try clear hcz10_1
                          try clear hcz10_2
                          try clear hcz10_3
                          try clear hcz10_4
                          try clear hcz10_5
                          try clear hcz10_6
                          try clear hcz11_0
                          try clear hcz11_1
                          try clear hcz11_2
                          try clear hcz11_3
                          try clear hcz11_4
                          try clear hcz11_5
                          try clear hcz11_6
                          try clear hcz13_0
                          try clear hcz13_1
                          try clear hcz13_2
                          try clear hcz13_3
                          try clear hcz13_4
                          try clear hcz13_5
                          try clear hcz13_6
                          try clear hcz15_0
                          try clear hcz15_1
                          try clear hcz15_2
                          try clear hcz15_3
                          try clear hcz15_4
                          try clear hcz15_5
                          try clear hcz15_6
                          try clear hcz17_0
                          try clear hcz17_1
                          try clear hcz17_2
                          try clear hcz17_3
                          try clear hcz17_4
                          try clear hcz17_5
                          try clear hcz17_6
                          try clear hcz20_0
                          try clear hcz20_1
                          try clear hcz20_2
                          try clear hcz20_3
                          try clear hcz20_4
                          try clear hcz20_5
                          try clear hcz20_6
                          try clear hcz22_0
                          try clear hcz22_1
                          try clear hcz22_2
                          try clear hcz22_3
                          try clear hcz22_4
                          try clear hcz22_5
                          try clear hcz22_6
                          try clear hcz24_0
                          try clear hcz24_1
                          try clear hcz24_2
                          try clear hcz24_3
                          try clear hcz24_4
                          try clear hcz24_5
                          try clear hcz24_6
                          try clear hcz26_0
                          try clear hcz26_1
                          try clear hcz26_2
                          try clear hcz26_3
                          try clear hcz26_4
                          try clear hcz26_5
                          try clear hcz26_6
                          try clear hcz5_0
                          try clear hcz5_1
                          try clear hcz5_2
                          try clear hcz5_3
                          try clear hcz5_4
                          try clear hcz5_5
                          try clear hcz5_6
                          try clear hcz8_0
                          try clear hcz8_1
                          try clear hcz8_2
                          try clear hcz8_3
                          try clear hcz8_4
                          try clear hcz8_5
                          try clear hcz8_6
                          try clear hfz10_0
                          try clear hfz10_1
                          try clear hfz10_2
                          try clear hfz10_3
                          try clear hfz10_4
                          try clear hfz10_5
                          try clear hfz10_6
                          try clear hfz11_0
                          try clear hfz11_1
                          try clear hfz11_2
                          try clear hfz11_3
                          try clear hfz11_4
                          try clear hfz11_5
                          try clear hfz11_6
                          try clear hfz13_0
                          try clear hfz13_1
                          try clear hfz13_2
                          try clear hfz13_3
                          try clear hfz13_4
                          try clear hfz13_5
                          try clear hfz13_6
                          try clear hfz15_0
                          try clear hfz15_1
                          try clear hfz15_2
                          try clear hfz15_3
                          try clear hfz15_4
                          try clear hfz15_5
                          try clear hfz15_6
                          try clear hfz17_0
                          try clear hfz17_1
                          try clear hfz17_2
                          try clear hfz17_3
                          try clear hfz17_4
                          try clear hfz17_5
                          try clear hfz17_6
                          try clear hfz20_0
                          try clear hfz20_1
                          try clear hfz20_2
                          try clear hfz20_3
                          try clear hfz20_4
                          try clear hfz20_5
                          try clear hfz20_6
                          try clear hfz22_0
                          try clear hfz22_1
                          try clear hfz22_2
                          try clear hfz22_3
                          try clear hfz22_4
                          try clear hfz22_5
                          try clear hfz22_6
                          try clear hfz24_0
                          try clear hfz24_1
                          try clear hfz24_2
                          try clear hfz24_3
                          try clear hfz24_4
                          try clear hfz24_5
                          try clear hfz24_6
                          try clear hfz26_0
                          try clear hfz26_1
                          try clear hfz26_2
                          try clear hfz26_3
                          try clear hfz26_4
                          try clear hfz26_5
                          try clear hfz26_6
                          try clear hfz5_0
                          try clear hfz5_1
                          try clear hfz5_2
                          try clear hfz5_3
                          try clear hfz5_4
                          try clear hfz5_5
                          try clear hfz5_6
                          try clear hfz8_0
                          try clear hfz8_1
                          try clear hfz8_2
                          try clear hfz8_3
                          try clear hfz8_4
                          try clear hfz8_5
                          try clear hfz8_6
                          try clear p2
                          try clear p6
                          obtain ⟨kq, x8_22, rfl, HA, HJ22, HI0, HK, HB⟩ := hcut
                          cases kq with
                          | zero => exact absurd HA.out (by simp [trunnionref22_Note.j4])
                          | succ kj22 =>
                            have H := HA.out
                            clear HA
                            simp only [trunnionref22_Note.j4] at H
                            have H' := Aside0.mk H
                            clear H
                            obtain ⟨HGz27, hgz27⟩ := HI0.out
                            have hcz27_0 := cellS45_0 HGz27
                            have hcz27_1 := cellS45_1 HGz27
                            have hcz27_2 := cellS45_2 HGz27
                            have hcz27_3 := cellS45_3 HGz27
                            have hcz27_4 := cellS45_4 HGz27
                            have hcz27_5 := cellS45_5 HGz27
                            have hcz27_6 := cellS45_6 HGz27
                            have hfz27_0 := blk_frozen HGz27 0
                            have hfz27_1 := blk_frozen HGz27 1
                            have hfz27_2 := blk_frozen HGz27 2
                            have hfz27_3 := blk_frozen HGz27 3
                            have hfz27_4 := blk_frozen HGz27 4
                            have hfz27_5 := blk_frozen HGz27 5
                            have hfz27_6 := blk_frozen HGz27 6
                            clear HGz27 hgz27
                            go_wp2
                            repeat (go_quiet (fail); try go_wp2)
                            go_loopg [9] kj22 (fun kq v9 w' => ∃ (x9_6 : Int), v9 = .int .i64 x9_6 ∧ Aside0 (trunnionref22_Note.l0 kq x8_22 x9_6 s0_0 s0_1 s0_2 (wrap64 (a1 + 1)) x1004_6 x7_18 x1006_6 = some (r1, r2, r3, r4, r5, r6, r7, r8, r9, r10)) ∧ Aside0 (kq ≤ kj22) ∧ Aside0 (IsS45 w0 w' g s0_0 s0_1 s0_2 (wrap64 (a1 + 1)) x1004_6 x7_18 x1006_6) ∧ Aside0 (KeepBut w w' g none) ∧ Aside0 (Below w0.heap.size w0 w'))
                            case atStart => exact ⟨(wrap64 ((wrap64 (a1 + 1)) + x7_18)), (by first | rfl | (simp; done) | (simp [*]; done)), H', ⟨Nat.le_refl _⟩, ⟨by repeat (first | (with_reducible first | exact HI0.out | apply IsS45.alloc | apply IsS45.drewN | apply IsS45.drew | apply IsS45.set_0 | apply IsS45.set_1 | apply IsS45.set_2 | apply IsS45.set_3 | apply IsS45.set_4 | apply IsS45.set_5 | apply IsS45.set_6) | exact HI0.out)⟩, ⟨by repeat (first | (with_reducible first | exact HK.out | apply KeepBut.set_ | apply keep_drewN | apply keep_drew | apply keep_alloc) | exact HK.out)⟩, ⟨by repeat (first | (with_reducible first | exact HB.out | apply below_alloc | apply pw_below_drewN | apply below_drew1 | refine below_set ?_ (IsS45.ge HI0.out)) | exact HB.out)⟩⟩
                            case round =>
                              clear H'
                              try clear c1
                              try clear c2
                              try clear p2
                              try clear c4
                              try clear c4b0
                              try clear c6
                              try clear p6
                              try clear c9
                              try clear c9b0
                              try clear c9b1
                              try clear c12
                              try clear c12b0
                              try clear c14
                              try clear c14b0
                              try clear c15
                              try clear c18
                              try clear c18b0
                              try clear c18b1
                              try clear c21
                              try clear c21b0
                              try clear c25
                              try clear c25b0
                              try clear hcz10_0
                              try clear hcz10_1
                              try clear hcz10_2
                              try clear hcz10_3
                              try clear hcz10_4
                              try clear hcz10_5
                              try clear hcz10_6
                              try clear hcz11_0
                              try clear hcz11_1
                              try clear hcz11_2
                              try clear hcz11_3
                              try clear hcz11_4
                              try clear hcz11_5
                              try clear hcz11_6
                              try clear hcz13_0
                              try clear hcz13_1
                              try clear hcz13_2
                              try clear hcz13_3
                              try clear hcz13_4
                              try clear hcz13_5
                              try clear hcz13_6
                              try clear hcz15_0
                              try clear hcz15_1
                              try clear hcz15_2
                              try clear hcz15_3
                              try clear hcz15_4
                              try clear hcz15_5
                              try clear hcz15_6
                              try clear hcz17_0
                              try clear hcz17_1
                              try clear hcz17_2
                              try clear hcz17_3
                              try clear hcz17_4
                              try clear hcz17_5
                              try clear hcz17_6
                              try clear hcz20_0
                              try clear hcz20_1
                              try clear hcz20_2
                              try clear hcz20_3
                              try clear hcz20_4
                              try clear hcz20_5
                              try clear hcz20_6
                              try clear hcz22_0
                              try clear hcz22_1
                              try clear hcz22_2
                              try clear hcz22_3
                              try clear hcz22_4
                              try clear hcz22_5
                              try clear hcz22_6
                              try clear hcz24_0
                              try clear hcz24_1
                              try clear hcz24_2
                              try clear hcz24_3
                              try clear hcz24_4
                              try clear hcz24_5
                              try clear hcz24_6
                              try clear hcz26_0
                              try clear hcz26_1
                              try clear hcz26_2
                              try clear hcz26_3
                              try clear hcz26_4
                              try clear hcz26_5
                              try clear hcz26_6
                              try clear hcz27_0
                              try clear hcz27_1
                              try clear hcz27_2
                              try clear hcz27_3
                              try clear hcz27_4
                              try clear hcz27_5
                              try clear hcz27_6
                              try clear hcz5_0
                              try clear hcz5_1
                              try clear hcz5_2
                              try clear hcz5_3
                              try clear hcz5_4
                              try clear hcz5_5
                              try clear hcz5_6
                              try clear hcz8_0
                              try clear hcz8_1
                              try clear hcz8_2
                              try clear hcz8_3
                              try clear hcz8_4
                              try clear hcz8_5
                              try clear hcz8_6
                              try clear hfz10_0
                              try clear hfz10_1
                              try clear hfz10_2
                              try clear hfz10_3
                              try clear hfz10_4
                              try clear hfz10_5
                              try clear hfz10_6
                              try clear hfz11_0
                              try clear hfz11_1
                              try clear hfz11_2
                              try clear hfz11_3
                              try clear hfz11_4
                              try clear hfz11_5
                              try clear hfz11_6
                              try clear hfz13_0
                              try clear hfz13_1
                              try clear hfz13_2
                              try clear hfz13_3
                              try clear hfz13_4
                              try clear hfz13_5
                              try clear hfz13_6
                              try clear hfz15_0
                              try clear hfz15_1
                              try clear hfz15_2
                              try clear hfz15_3
                              try clear hfz15_4
                              try clear hfz15_5
                              try clear hfz15_6
                              try clear hfz17_0
                              try clear hfz17_1
                              try clear hfz17_2
                              try clear hfz17_3
                              try clear hfz17_4
                              try clear hfz17_5
                              try clear hfz17_6
                              try clear hfz20_0
                              try clear hfz20_1
                              try clear hfz20_2
                              try clear hfz20_3
                              try clear hfz20_4
                              try clear hfz20_5
                              try clear hfz20_6
                              try clear hfz22_0
                              try clear hfz22_1
                              try clear hfz22_2
                              try clear hfz22_3
                              try clear hfz22_4
                              try clear hfz22_5
                              try clear hfz22_6
                              try clear hfz24_0
                              try clear hfz24_1
                              try clear hfz24_2
                              try clear hfz24_3
                              try clear hfz24_4
                              try clear hfz24_5
                              try clear hfz24_6
                              try clear hfz26_0
                              try clear hfz26_1
                              try clear hfz26_2
                              try clear hfz26_3
                              try clear hfz26_4
                              try clear hfz26_5
                              try clear hfz26_6
                              try clear hfz27_0
                              try clear hfz27_1
                              try clear hfz27_2
                              try clear hfz27_3
                              try clear hfz27_4
                              try clear hfz27_5
                              try clear hfz27_6
                              try clear hfz5_0
                              try clear hfz5_1
                              try clear hfz5_2
                              try clear hfz5_3
                              try clear hfz5_4
                              try clear hfz5_5
                              try clear hfz5_6
                              try clear hfz8_0
                              try clear hfz8_1
                              try clear hfz8_2
                              try clear hfz8_3
                              try clear hfz8_4
                              try clear hfz8_5
                              try clear hfz8_6
                              try clear p2
                              try clear p6
                              obtain ⟨x9_6, rfl, HA, HK6, HI0, HK, HB⟩ := hrel
                              cases gk with
                              | zero => exact absurd HA.out (by simp [trunnionref22_Note.l0])
                              | succ k6 =>
                                have H := HA.out
                                clear HA
                                simp only [trunnionref22_Note.l0] at H
                                by_cases c28 : s0_1 = 0
                                · rw [if_pos c28] at H
                                  exact absurd H (by simp)
                                · rw [if_neg c28] at H
                                  have c28b0 : (s0_1 == 0) = false := beq_eq_false_iff_ne.mpr c28
                                  have c28b1 : (s0_1 != 0) = true := bne_iff_ne.mpr c28
                                  by_cases c29 : (Int.tmod x9_6 s0_1) = 0
                                  · rw [if_pos c29] at H
                                    have c29b0 : ((Int.tmod x9_6 s0_1) == 0) = true := beq_iff_eq.mpr c29
                                    have c29b1 : ((Int.tmod x9_6 s0_1) != 0) = false := bne_eq_false_iff_eq.mpr c29
                                    clear c29
                                    by_cases c30 : x9_6 > s0_0
                                    · rw [if_pos c30] at H
                                      have c30b0 : decide (s0_0 < x9_6) = true := decide_eq_true c30
                                      clear c30
                                      by_cases c31 : s0_0 ≤ x8_22
                                      · rw [if_pos c31] at H
                                        have c31b0 : decide (s0_0 ≤ x8_22) = true := decide_eq_true c31
                                        clear c31
                                        simp only [Option.some.injEq, Prod.mk.injEq] at H
                                        obtain ⟨rfl, rfl, rfl, rfl, rfl, rfl, rfl, rfl, rfl, rfl⟩ := H
                                        obtain ⟨HGz32, hgz32⟩ := HI0.out
                                        have hcz32_0 := cellS45_0 HGz32
                                        have hcz32_1 := cellS45_1 HGz32
                                        have hcz32_2 := cellS45_2 HGz32
                                        have hcz32_3 := cellS45_3 HGz32
                                        have hcz32_4 := cellS45_4 HGz32
                                        have hcz32_5 := cellS45_5 HGz32
                                        have hcz32_6 := cellS45_6 HGz32
                                        have hfz32_0 := blk_frozen HGz32 0
                                        have hfz32_1 := blk_frozen HGz32 1
                                        have hfz32_2 := blk_frozen HGz32 2
                                        have hfz32_3 := blk_frozen HGz32 3
                                        have hfz32_4 := blk_frozen HGz32 4
                                        have hfz32_5 := blk_frozen HGz32 5
                                        have hfz32_6 := blk_frozen HGz32 6
                                        clear HGz32 hgz32
                                        go_wp2
                                        repeat (go_quiet (fail); try go_wp2)
                                        go_ret3
                                        exact ⟨by first | rfl | (simp [errW_none, errW_some] <;> rfl) | (simp [*, errW_none, errW_some] <;> rfl), by repeat (first | (with_reducible first | exact HI0.out | apply IsS45.alloc | apply IsS45.drewN | apply IsS45.drew | apply IsS45.set_0 | apply IsS45.set_1 | apply IsS45.set_2 | apply IsS45.set_3 | apply IsS45.set_4 | apply IsS45.set_5 | apply IsS45.set_6) | exact HI0.out), by repeat (first | (with_reducible first | exact HB.out | apply below_alloc | apply pw_below_drewN | apply below_drew1 | refine below_set ?_ (IsS45.ge HI0.out)) | exact HB.out), by repeat (first | (with_reducible first | exact HK.out | apply KeepBut.set_ | apply keep_drewN | apply keep_drew | apply keep_alloc) | exact HK.out)⟩
                                      · rw [if_neg c31] at H
                                        have c31b0 : decide (s0_0 ≤ x8_22) = false := decide_eq_false c31
                                        clear c31
                                        simp only [Option.some.injEq, Prod.mk.injEq] at H
                                        obtain ⟨rfl, rfl, rfl, rfl, rfl, rfl, rfl, rfl, rfl, rfl⟩ := H
                                        obtain ⟨HGz33, hgz33⟩ := HI0.out
                                        have hcz33_0 := cellS45_0 HGz33
                                        have hcz33_1 := cellS45_1 HGz33
                                        have hcz33_2 := cellS45_2 HGz33
                                        have hcz33_3 := cellS45_3 HGz33
                                        have hcz33_4 := cellS45_4 HGz33
                                        have hcz33_5 := cellS45_5 HGz33
                                        have hcz33_6 := cellS45_6 HGz33
                                        have hfz33_0 := blk_frozen HGz33 0
                                        have hfz33_1 := blk_frozen HGz33 1
                                        have hfz33_2 := blk_frozen HGz33 2
                                        have hfz33_3 := blk_frozen HGz33 3
                                        have hfz33_4 := blk_frozen HGz33 4
                                        have hfz33_5 := blk_frozen HGz33 5
                                        have hfz33_6 := blk_frozen HGz33 6
                                        clear HGz33 hgz33
                                        go_wp2
                                        repeat (go_quiet (fail); try go_wp2)
                                        go_ret3
                                        exact ⟨by first | rfl | (simp [errW_none, errW_some] <;> rfl) | (simp [*, errW_none, errW_some] <;> rfl), by repeat (first | (with_reducible first | exact HI0.out | apply IsS45.alloc | apply IsS45.drewN | apply IsS45.drew | apply IsS45.set_0 | apply IsS45.set_1 | apply IsS45.set_2 | apply IsS45.set_3 | apply IsS45.set_4 | apply IsS45.set_5 | apply IsS45.set_6) | exact HI0.out), by repeat (first | (with_reducible first | exact HB.out | apply below_alloc | apply pw_below_drewN | apply below_drew1 | refine below_set ?_ (IsS45.ge HI0.out)) | exact HB.out), by repeat (first | (with_reducible first | exact HK.out | apply KeepBut.set_ | apply keep_drewN | apply keep_drew | apply keep_alloc) | exact HK.out)⟩
                                    · rw [if_neg c30] at H
                                      have c30b0 : decide (s0_0 < x9_6) = false := decide_eq_false c30
                                      clear c30
                                      by_cases c34 : x9_6 ≤ x8_22
                                      · rw [if_pos c34] at H
                                        have c34b0 : decide (x9_6 ≤ x8_22) = true := decide_eq_true c34
                                        clear c34
                                        simp only [Option.some.injEq, Prod.mk.injEq] at H
                                        obtain ⟨rfl, rfl, rfl, rfl, rfl, rfl, rfl, rfl, rfl, rfl⟩ := H
                                        obtain ⟨HGz35, hgz35⟩ := HI0.out
                                        have hcz35_0 := cellS45_0 HGz35
                                        have hcz35_1 := cellS45_1 HGz35
                                        have hcz35_2 := cellS45_2 HGz35
                                        have hcz35_3 := cellS45_3 HGz35
                                        have hcz35_4 := cellS45_4 HGz35
                                        have hcz35_5 := cellS45_5 HGz35
                                        have hcz35_6 := cellS45_6 HGz35
                                        have hfz35_0 := blk_frozen HGz35 0
                                        have hfz35_1 := blk_frozen HGz35 1
                                        have hfz35_2 := blk_frozen HGz35 2
                                        have hfz35_3 := blk_frozen HGz35 3
                                        have hfz35_4 := blk_frozen HGz35 4
                                        have hfz35_5 := blk_frozen HGz35 5
                                        have hfz35_6 := blk_frozen HGz35 6
                                        clear HGz35 hgz35
                                        go_wp2
                                        repeat (go_quiet (fail); try go_wp2)
                                        go_ret3
                                        exact ⟨by first | rfl | (simp [errW_none, errW_some] <;> rfl) | (simp [*, errW_none, errW_some] <;> rfl), by repeat (first | (with_reducible first | exact HI0.out | apply IsS45.alloc | apply IsS45.drewN | apply IsS45.drew | apply IsS45.set_0 | apply IsS45.set_1 | apply IsS45.set_2 | apply IsS45.set_3 | apply IsS45.set_4 | apply IsS45.set_5 | apply IsS45.set_6) | exact HI0.out), by repeat (first | (with_reducible first | exact HB.out | apply below_alloc | apply pw_below_drewN | apply below_drew1 | refine below_set ?_ (IsS45.ge HI0.out)) | exact HB.out), by repeat (first | (with_reducible first | exact HK.out | apply KeepBut.set_ | apply keep_drewN | apply keep_drew | apply keep_alloc) | exact HK.out)⟩
                                      · rw [if_neg c34] at H
                                        have c34b0 : decide (x9_6 ≤ x8_22) = false := decide_eq_false c34
                                        clear c34
                                        simp only [Option.some.injEq, Prod.mk.injEq] at H
                                        obtain ⟨rfl, rfl, rfl, rfl, rfl, rfl, rfl, rfl, rfl, rfl⟩ := H
                                        obtain ⟨HGz36, hgz36⟩ := HI0.out
                                        have hcz36_0 := cellS45_0 HGz36
                                        have hcz36_1 := cellS45_1 HGz36
                                        have hcz36_2 := cellS45_2 HGz36
                                        have hcz36_3 := cellS45_3 HGz36
                                        have hcz36_4 := cellS45_4 HGz36
                                        have hcz36_5 := cellS45_5 HGz36
                                        have hcz36_6 := cellS45_6 HGz36
                                        have hfz36_0 := blk_frozen HGz36 0
                                        have hfz36_1 := blk_frozen HGz36 1
                                        have hfz36_2 := blk_frozen HGz36 2
                                        have hfz36_3 := blk_frozen HGz36 3
                                        have hfz36_4 := blk_frozen HGz36 4
                                        have hfz36_5 := blk_frozen HGz36 5
                                        have hfz36_6 := blk_frozen HGz36 6
                                        clear HGz36 hgz36
                                        go_wp2
                                        repeat (go_quiet (fail); try go_wp2)
                                        go_ret3
                                        exact ⟨by first | rfl | (simp [errW_none, errW_some] <;> rfl) | (simp [*, errW_none, errW_some] <;> rfl), by repeat (first | (with_reducible first | exact HI0.out | apply IsS45.alloc | apply IsS45.drewN | apply IsS45.drew | apply IsS45.set_0 | apply IsS45.set_1 | apply IsS45.set_2 | apply IsS45.set_3 | apply IsS45.set_4 | apply IsS45.set_5 | apply IsS45.set_6) | exact HI0.out), by repeat (first | (with_reducible first | exact HB.out | apply below_alloc | apply pw_below_drewN | apply below_drew1 | refine below_set ?_ (IsS45.ge HI0.out)) | exact HB.out), by repeat (first | (with_reducible first | exact HK.out | apply KeepBut.set_ | apply keep_drewN | apply keep_drew | apply keep_alloc) | exact HK.out)⟩
                                  · rw [if_neg c29] at H
                                    have c29b0 : ((Int.tmod x9_6 s0_1) == 0) = false := beq_eq_false_iff_ne.mpr c29
                                    have c29b1 : ((Int.tmod x9_6 s0_1) != 0) = true := bne_iff_ne.mpr c29
                                    have H' := Aside0.mk H
                                    clear H
                                    obtain ⟨HGz37, hgz37⟩ := HI0.out
                                    have hcz37_0 := cellS45_0 HGz37
                                    have hcz37_1 := cellS45_1 HGz37
                                    have hcz37_2 := cellS45_2 HGz37
                                    have hcz37_3 := cellS45_3 HGz37
                                    have hcz37_4 := cellS45_4 HGz37
                                    have hcz37_5 := cellS45_5 HGz37
                                    have hcz37_6 := cellS45_6 HGz37
                                    have hfz37_0 := blk_frozen HGz37 0
                                    have hfz37_1 := blk_frozen HGz37 1
                                    have hfz37_2 := blk_frozen HGz37 2
                                    have hfz37_3 := blk_frozen HGz37 3
                                    have hfz37_4 := blk_frozen HGz37 4
                                    have hfz37_5 := blk_frozen HGz37 5
                                    have hfz37_6 := blk_frozen HGz37 6
                                    clear HGz37 hgz37
                                    go_wp2
                                    repeat (go_quiet (fail); try go_wp2)
                                    go_roundg k6
                                    case measure => have := HJ2.out; have := HJ6.out; have := HJ15.out; have := HJ18.out; have := HJ22.out; have := HK6.out; omega
                                    case rel => exact ⟨(wrap64 (x9_6 + 1)), (by first | rfl | (simp; done) | (simp [*]; done)), H', ⟨by have := HJ2.out; have := HJ6.out; have := HJ15.out; have := HJ18.out; have := HJ22.out; have := HK6.out; omega⟩, ⟨by repeat (first | (with_reducible first | exact HI0.out | apply IsS45.alloc | apply IsS45.drewN | apply IsS45.drew | apply IsS45.set_0 | apply IsS45.set_1 | apply IsS45.set_2 | apply IsS45.set_3 | apply IsS45.set_4 | apply IsS45.set_5 | apply IsS45.set_6) | exact HI0.out)⟩, ⟨by repeat (first | (with_reducible first | exact HK.out | apply KeepBut.set_ | apply keep_drewN | apply keep_drew | apply keep_alloc) | exact HK.out)⟩, ⟨by repeat (first | (with_reducible first | exact HB.out | apply below_alloc | apply pw_below_drewN | apply below_drew1 | refine below_set ?_ (IsS45.ge HI0.out)) | exact HB.out)⟩⟩

end Go.Proofs.YtfbibiiiepgdaaaDoor.PAheadPlays
