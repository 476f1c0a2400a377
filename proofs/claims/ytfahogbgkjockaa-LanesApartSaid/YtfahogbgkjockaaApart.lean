/- One byte of a word set apart: masks, as lists of bytes. No program. -/
import Derived.Test.YtfahogbgkjockaaWords
namespace Go.Proofs.Ytfahogbgkjockaa
def mk (j : Nat) : List Nat := (List.replicate 8 0).set j 255
def mn (j : Nat) : List Nat := (List.replicate 8 255).set j 0
def M8 (j : Nat) : Nat := W (mk j)
theorem mk_by (j : Nat) (hj : j < 8) : By (mk j) := by
  intro b hb
  rcases (by omega : j = 0 ∨ j = 1 ∨ j = 2 ∨ j = 3 ∨ j = 4 ∨ j = 5 ∨ j = 6 ∨ j = 7) with rfl | rfl | rfl | rfl | rfl | rfl | rfl | rfl <;> simp [mk] at hb <;> omega
theorem mn_by (j : Nat) (hj : j < 8) : By (mn j) := by
  intro b hb
  rcases (by omega : j = 0 ∨ j = 1 ∨ j = 2 ∨ j = 3 ∨ j = 4 ∨ j = 5 ∨ j = 6 ∨ j = 7) with rfl | rfl | rfl | rfl | rfl | rfl | rfl | rfl <;> simp [mn] at hb <;> omega
theorem zw_by {op : Nat → Nat → Nat} (hop : ∀ a b, a < 256 → b < 256 → op a b < 256) (l m : List Nat) (hl : By l) (hm : By m) : By (List.zipWith op l m) := by
  intro b hb
  obtain ⟨i, hi, rfl⟩ := List.mem_iff_getElem.1 hb
  rw [List.getElem_zipWith]
  exact hop _ _ (hl _ (List.getElem_mem _)) (hm _ (List.getElem_mem _))
theorem W_and2 : ∀ l m, l.length = m.length → By l → By m → W l &&& W m = W (List.zipWith (· &&& ·) l m) := by
  intro l
  induction l with
  | nil => intro m hl _ _; obtain rfl := List.eq_nil_of_length_eq_zero hl.symm; simp [W]
  | cons b l ih =>
    intro m hl h hm
    cases m with
    | nil => simp at hl
    | cons c m =>
      show (b + 256 * W l) &&& (c + 256 * W m) = _
      rw [and_split _ _ _ _ h.head hm.head, ih m (by simpa using hl) h.tail hm.tail]
      rfl
theorem W_or2 : ∀ l m, l.length = m.length → By l → By m → W l ||| W m = W (List.zipWith (· ||| ·) l m) := by
  intro l
  induction l with
  | nil => intro m hl _ _; obtain rfl := List.eq_nil_of_length_eq_zero hl.symm; simp [W]
  | cons b l ih =>
    intro m hl h hm
    cases m with
    | nil => simp at hl
    | cons c m =>
      show (b + 256 * W l) ||| (c + 256 * W m) = _
      rw [or_split _ _ _ _ h.head hm.head, ih m (by simpa using hl) h.tail hm.tail]
      rfl
theorem bits_andNot_u64 (a b : Nat) (ha : a < 18446744073709551616) (hb : b < 18446744073709551616) : Go.bits .andNot .u64 (a : Int) (b : Int) = ((a &&& (18446744073709551615 - b) : Nat) : Int) := by
  have hx : a &&& (18446744073709551615 - b) < 2 ^ 64 := Nat.and_lt_two_pow _ (by omega)
  have h1 : (BitVec.ofInt 64 (a : Int)).toNat = a := by
    rw [BitVec.ofInt_natCast, BitVec.toNat_ofNat]; exact Nat.mod_eq_of_lt (by omega)
  have h2 : (BitVec.ofInt 64 (b : Int)).toNat = b := by
    rw [BitVec.ofInt_natCast, BitVec.toNat_ofNat]; exact Nat.mod_eq_of_lt (by omega)
  show IntKind.u64.wrap ((BitVec.ofInt 64 (a : Int) &&& ~~~ BitVec.ofInt 64 (b : Int)).toNat : Int) = _
  rw [BitVec.toNat_and, BitVec.toNat_not, h1, h2, IntKind.wrap_u64]
  have e : 2 ^ 64 - 1 - b = 18446744073709551615 - b := by omega
  rw [e]
  omega
theorem M8_lt (j : Nat) (hj : j < 8) : M8 j < 18446744073709551616 := W8_lt (mk_by j hj) (by simp [mk])
theorem M8_not (j : Nat) (hj : j < 8) : 18446744073709551615 - M8 j = W (mn j) := by
  rcases (by omega : j = 0 ∨ j = 1 ∨ j = 2 ∨ j = 3 ∨ j = 4 ∨ j = 5 ∨ j = 6 ∨ j = 7) with rfl | rfl | rfl | rfl | rfl | rfl | rfl | rfl <;> decide
theorem M8_pow (j : Nat) (hj : j < 8) : M8 j = 255 * 2 ^ (j * 8) := by
  rcases (by omega : j = 0 ∨ j = 1 ∨ j = 2 ∨ j = 3 ∨ j = 4 ∨ j = 5 ∨ j = 6 ∨ j = 7) with rfl | rfl | rfl | rfl | rfl | rfl | rfl | rfl <;> decide
theorem and255 {b : Nat} (h : b < 256) : b &&& 255 = b := by
  have : b &&& 255 = b % 256 := Nat.and_two_pow_sub_one_eq_mod _ 8
  omega
theorem mix (l m : List Nat) (j : Nat) (hj : j < 8) (h : By l) (h8 : l.length = 8) (hm : By m) (m8 : m.length = 8) :
    Go.bits .or .u64 (Go.bits .and .u64 (W l : Nat) (M8 j : Nat)) (Go.bits .andNot .u64 (W m : Nat) (M8 j : Nat)) = ((W (m.set j (l.getD j 0)) : Nat) : Int) := by
  have a8 : (mk j).length = 8 := by simp [mk]
  have n8 : (mn j).length = 8 := by simp [mn]
  rw [bits_and_u64 _ _ (W8_lt h h8) (M8_lt j hj), bits_andNot_u64 _ _ (W8_lt hm m8) (M8_lt j hj), M8_not j hj]
  unfold M8
  rw [W_and2 _ _ (by omega) h (mk_by j hj), W_and2 _ _ (by omega) hm (mn_by j hj)]
  have b1 := zw_by (op := (· &&& ·)) (fun a b ha _ => Nat.lt_of_le_of_lt Nat.and_le_left ha) l (mk j) h (mk_by j hj)
  have b2 := zw_by (op := (· &&& ·)) (fun a b ha _ => Nat.lt_of_le_of_lt Nat.and_le_left ha) m (mn j) hm (mn_by j hj)
  rw [bits_or_u64 _ _ (W8_lt b1 (by simp; omega)) (W8_lt b2 (by simp; omega)), W_or2 _ _ (by simp; omega) b1 b2]
  congr 2
  apply List.ext_getElem
  · simp; omega
  · intro i h1 h2
    have hi : i < 8 := by simp at h2; omega
    have hl := h l[i] (List.getElem_mem (by omega))
    have hm2 := hm m[i] (List.getElem_mem (by omega))
    simp only [List.getElem_zipWith, mk, mn, List.getElem_set, List.getElem_replicate]
    by_cases e : j = i
    · subst e
      simp only [if_true]
      rw [show l[j] &&& 255 = l[j] from and255 hl]
      simp [List.getD_eq_getElem?_getD, List.getElem?_eq_getElem (show j < l.length by omega)]
    · simp only [if_neg e]
      rw [and255 hm2]
      simp
theorem apart (f : Nat → Nat) (hf : ∀ b, b < 256 → f b < 256) (l m : List Nat) (j : Nat) (hj : j < 8) (h : By l) (h8 : l.length = 8) (hm : By m) (m8 : m.length = 8) :
    Go.bits .and .u64 (W ((m.set j (l.getD j 0)).map f) : Nat) (M8 j : Nat) = Go.bits .and .u64 (W (l.map f) : Nat) (M8 j : Nat) := by
  have a8 : (mk j).length = 8 := by simp [mk]
  have hs : By (m.set j (l.getD j 0)) := by
    intro b hb
    rcases List.mem_or_eq_of_mem_set hb with hb | rfl
    · exact hm b hb
    · rw [List.getD_eq_getElem?_getD, List.getElem?_eq_getElem (by omega)]
      exact h _ (List.getElem_mem _)
  rw [bits_and_u64 _ _ (W8_lt (hs.map hf) (by simpa using m8)) (M8_lt j hj), bits_and_u64 _ _ (W8_lt (h.map hf) (by simpa using h8)) (M8_lt j hj)]
  unfold M8
  rw [W_and2 _ _ (by simp; omega) (hs.map hf) (mk_by j hj), W_and2 _ _ (by simp; omega) (h.map hf) (mk_by j hj)]
  congr 2
  apply List.ext_getElem
  · simp; omega
  · intro i h1 h2
    have hi : i < 8 := by simp at h2; omega
    simp only [List.getElem_zipWith, mk, List.getElem_set, List.getElem_replicate, List.getElem_map]
    by_cases e : j = i
    · subst e
      simp [List.getD_eq_getElem?_getD, List.getElem?_eq_getElem (show j < l.length by omega)]
    · simp only [if_neg e]
      simp
theorem set_by (l m : List Nat) (j : Nat) (hj : j < 8) (h : By l) (h8 : l.length = 8) (hm : By m) : By (m.set j (l.getD j 0)) := by
  intro b hb
  rcases List.mem_or_eq_of_mem_set hb with hb | rfl
  · exact hm b hb
  · rw [List.getD_eq_getElem?_getD, List.getElem?_eq_getElem (by omega)]
    exact h _ (List.getElem_mem _)
end Go.Proofs.Ytfahogbgkjockaa
