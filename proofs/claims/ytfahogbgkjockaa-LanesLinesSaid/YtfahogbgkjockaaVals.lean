/- What the program's functions on words come to, byte by byte. -/
import Derived.Test.YtfahogbgkjockaaWords
import Derived.Test.YtfahogbgkjockaaPLanesTimesx1
import Derived.Test.YtfahogbgkjockaaPLanesStoresx1
namespace Go.Proofs.Ytfahogbgkjockaa
open Go.RowKit Go.Proofs.YtfahogbgkjockaaW.PrintWords Go.Proofs.YtfahogbgkjockaaW.PrintMore
open PLanesTimes
theorem wrap_u64_of {x : Nat} (h : x < 18446744073709551616) : IntKind.u64.wrap (x : Int) = x := by
  rw [IntKind.wrap_u64]; omega
theorem each7_W (l : List Nat) (h : By l) (h8 : l.length = 8) : lanes_each.f (W l : Nat) 7 = some ((W (l.map (· / 128)) : Nat) : Int) := by
  have hl := W8_lt h h8
  have e : ((W l : Nat) : Int) / 2 ^ 7 = ((W l / 128 : Nat) : Int) := by omega
  simp only [lanes_each.f, shr, IntKind.bits]
  rw [if_pos (by omega), show (min (7 : Int).toNat 64) = 7 from rfl, e, show (72340172838076673 : Int) = ((72340172838076673 : Nat) : Int) from rfl, bits_and_u64 _ _ (by omega) (by omega), ← W_tops l h, rep8 1 l h8]
theorem each0_W (l : List Nat) (h : By l) (h8 : l.length = 8) : lanes_each.f (W l : Nat) 0 = some ((W (l.map (· % 2)) : Nat) : Int) := by
  have hl := W8_lt h h8
  have e : ((W l : Nat) : Int) / 2 ^ 0 = ((W l : Nat) : Int) := by omega
  simp only [lanes_each.f, shr, IntKind.bits]
  rw [if_pos (by omega), show (min (0 : Int).toNat 64) = 0 from rfl, e, show (72340172838076673 : Int) = ((72340172838076673 : Nat) : Int) from rfl, bits_and_u64 _ _ (by omega) (by omega), ← W_lows l h, rep8 1 l h8]
theorem twice_W (l : List Nat) (h : By l) (h8 : l.length = 8) : lanes_Twice.f (W l : Nat) = some ((W (l.map tw) : Nat) : Int) := by
  have hl := W8_lt h h8
  have hx := W_tw l h
  have h1 : By (l.map (· / 128)) := h.map (by intro b hb; omega)
  have h3 : By (l.map (· % 128)) := h.map (by intro b hb; omega)
  have e1 : W l &&& W (rep 127 l) = W (l.map (· % 128)) := by
    rw [W_and 127 (by omega) l h]; simp only [and127]
  have b1 : W (l.map (· % 128)) * 2 < 18446744073709551616 := by
    rw [W_mul]; exact W8_lt (by rw [List.map_map]; exact h.map (by intro b hb; simp only [Function.comp]; omega)) (by simpa using h8)
  have b2 : W (l.map (· / 128)) * 29 < 18446744073709551616 := by
    rw [W_mul]; exact W8_lt (by rw [List.map_map]; exact h.map (by intro b hb; simp only [Function.comp]; omega)) (by simpa using h8)
  simp only [lanes_Twice.f]
  rw [each7_W l h h8, Option.bind_some, bits_andNot_tops _ hl, ← hx, W_tops l h, e1]
  rw [rep8 127 l h8] at e1
  rw [e1]
  rw [show ((W (l.map (· % 128)) : Nat) : Int) * 2 = ((W (l.map (· % 128)) * 2 : Nat) : Int) by rw [Int.natCast_mul]; rfl, wrap_u64_of b1]
  rw [show ((W (l.map (· / 128)) : Nat) : Int) * 29 = ((W (l.map (· / 128)) * 29 : Nat) : Int) by rw [Int.natCast_mul]; rfl, wrap_u64_of b2]
  rw [bits_xor_u64_nat _ _ b1 b2]
theorem half_W (l : List Nat) (h : By l) (h8 : l.length = 8) : lanes_Half.f (W l : Nat) = some ((W (l.map hf) : Nat) : Int) := by
  have hl := W8_lt h h8
  have hx := W_hf l h
  have b2 : W (l.map (· % 2)) * 142 < 18446744073709551616 := by
    rw [W_mul]; exact W8_lt (by rw [List.map_map]; exact h.map (by intro b hb; simp only [Function.comp]; omega)) (by simpa using h8)
  have b1 : (W l / 2 &&& 9187201950435737471) < 18446744073709551616 := Nat.lt_of_le_of_lt Nat.and_le_left (by omega)
  simp only [lanes_Half.f]
  rw [each0_W l h h8, Option.bind_some, show ((W l : Nat) : Int) / 2 = ((W l / 2 : Nat) : Int) by omega, bits_andNot_tops _ (by omega), ← hx, W_lows l h, rep8 127 l h8]
  rw [show ((W (l.map (· % 2)) : Nat) : Int) * 142 = ((W (l.map (· % 2)) * 142 : Nat) : Int) by rw [Int.natCast_mul]; rfl, wrap_u64_of b2]
  rw [bits_xor_u64_nat _ _ b1 b2]
theorem times_l0 (f : Nat) : ∀ (k : Nat) (l m : List Nat) (c : Nat), By l → By m → l.length = 8 → m.length = 8 → c < 2 ^ f → c < 256 → f < k →
    lanes_Times.l0 k (W l : Nat) (c : Int) (W m : Nat) = some ((W (List.zipWith (fun b o => tmB f b c o) l m) : Nat) : Int) := by
  have hz : ∀ (l m : List Nat), l.length = m.length → List.zipWith (fun b o => o) l m = m := by
    intro l
    induction l with
    | nil => intro m h; exact (List.eq_nil_of_length_eq_zero h.symm).symm ▸ rfl
    | cons b l ih =>
      intro m h
      cases m with
      | nil => simp at h
      | cons c m => simp [ih m (by simpa using h)]
  have h0 : ∀ f b o, tmB f b 0 o = o := by
    intro f
    induction f with
    | zero => intros; rfl
    | succ f ih => intro b o; show tmB f _ _ _ = o; rw [show (0 / 2) = 0 from rfl, ih]; rfl
  induction f with
  | zero =>
    intro k l m c hl hm l8 m8 hc _ hk
    obtain ⟨k, rfl⟩ : ∃ j, k = j + 1 := ⟨k - 1, by omega⟩
    have : c = 0 := by omega
    subst this
    simp only [lanes_Times.l0]
    rw [if_pos (by omega)]
    simp only [tmB]
    rw [hz l m (by omega)]
  | succ f ih =>
    intro k l m c hl hm l8 m8 hc hc2 hk
    obtain ⟨k, rfl⟩ : ∃ j, k = j + 1 := ⟨k - 1, by omega⟩
    simp only [lanes_Times.l0]
    by_cases h : c = 0
    · subst h
      rw [if_pos (by omega)]
      simp only [h0]
      rw [hz l m (by omega)]
    · rw [if_neg (by omega)]
      have hand : Go.bits .and .u8 (c : Int) 1 = ((c % 2 : Nat) : Int) := by
        have h1 : (BitVec.ofInt 8 (c : Int)).toNat = c := by
          rw [BitVec.ofInt_natCast, BitVec.toNat_ofNat]; exact Nat.mod_eq_of_lt (by omega)
        show IntKind.u8.wrap ((BitVec.ofInt 8 (c : Int) &&& BitVec.ofInt 8 (1 : Int)).toNat : Int) = _
        rw [BitVec.toNat_and, h1, show (BitVec.ofInt 8 (1 : Int)).toNat = 2 ^ 1 - 1 by decide, Nat.and_two_pow_sub_one_eq_mod, IntKind.wrap_u8]
        omega
      rw [hand, twice_W l hl l8, show ((c : Nat) : Int) / 2 = ((c / 2 : Nat) : Int) by omega]
      have ht : By (l.map tw) := hl.map fun b hb => tw_lt hb
      have hp : 2 ^ (f + 1) = 2 * 2 ^ f := by rw [Nat.pow_succ]; omega
      have fin : ∀ m', List.zipWith (fun b o => tmB f b (c / 2) o) (l.map tw) m' = List.zipWith (fun b o => tmB f (tw b) (c / 2) o) l m' := by
        intro m'; rw [List.zipWith_map_left]
      by_cases hodd : c % 2 = 1
      · rw [if_pos (by omega), Option.bind_some, bits_xor_u64_nat _ _ (W8_lt hm m8) (W8_lt hl l8), W_xor m l (by omega) hm hl]
        have hbz : By (List.zipWith (· ^^^ ·) m l) := by
          intro b hb
          obtain ⟨i, hi, rfl⟩ := List.mem_iff_getElem.1 hb
          rw [List.getElem_zipWith]
          exact xor_lt8 (hm _ (List.getElem_mem _)) (hl _ (List.getElem_mem _))
        rw [ih k (l.map tw) (List.zipWith (· ^^^ ·) m l) (c / 2) ht hbz (by simpa using l8) (by simp; omega) (by omega) (by omega) (by omega), fin]
        congr 3
        apply List.ext_getElem
        · simp
        · intro i h1 h2
          simp only [List.getElem_zipWith, tmB, if_pos hodd]
      · rw [if_neg (by omega), Option.bind_some]
        rw [ih k (l.map tw) m (c / 2) ht hm (by simpa using l8) m8 (by omega) (by omega) (by omega), fin]
        congr 3
        apply List.ext_getElem
        · simp
        · intro i h1 h2
          simp only [List.getElem_zipWith, tmB, if_neg hodd]
theorem times_W (l : List Nat) (c : Nat) (h : By l) (h8 : l.length = 8) (hc : c < 256) : lanes_Times.f 9 (W l : Nat) (c : Int) = some ((W (l.map fun b => tmB 8 b c 0) : Nat) : Int) := by
  have hr : By (rep 0 l) := fun b hb => by simp [rep] at hb; omega
  have := times_l0 8 9 l (rep 0 l) c h hr h8 (by simp [rep, h8]) (by omega) hc (by omega)
  rw [rep8 0 l h8] at this
  simp only [lanes_Times.f]
  rw [show (0 : Int) = ((0 * 72340172838076673 : Nat) : Int) by rfl, this]
  congr 3
  apply List.ext_getElem
  · simp [rep]
  · intro i h1 h2
    simp [rep]
theorem high_W (l : List Nat) (h : By l) (h8 : l.length = 8) : PLanesStores.lanes_High.f (W l : Nat) = some ((W (l.map fun b => b / 128 * 255) : Nat) : Int) := by
  have e : ∀ a, PLanesStores.lanes_each.f a 7 = lanes_each.f a 7 := fun a => rfl
  simp only [PLanesStores.lanes_High.f]
  have b2 : W (l.map (· / 128)) * 255 < 18446744073709551616 := by
    rw [W_mul]; exact W8_lt (by rw [List.map_map]; exact h.map (by intro b hb; simp only [Function.comp]; omega)) (by simpa using h8)
  rw [e, each7_W l h h8, Option.bind_some, show ((W (l.map (· / 128)) : Nat) : Int) * 255 = ((W (l.map (· / 128)) * 255 : Nat) : Int) by rw [Int.natCast_mul]; rfl, wrap_u64_of b2, W_mul, List.map_map]
  rfl
end Go.Proofs.Ytfahogbgkjockaa
