/- Words as lists of bytes: what the operations on words do to the bytes. No program. -/
import Derived.Test.YtfahogbgkjockaaField
import Derived.Laws.Bits64
import Derived.Laws.BitsLemmas
namespace Go.Proofs.Ytfahogbgkjockaa
def W : List Nat → Nat
  | [] => 0
  | b :: l => b + 256 * W l
def By (l : List Nat) : Prop := ∀ b, b ∈ l → b < 256
theorem By.head {b : Nat} {l : List Nat} (h : By (b :: l)) : b < 256 := h b (by simp)
theorem By.tail {b : Nat} {l : List Nat} (h : By (b :: l)) : By l := fun c hc => h c (by simp [hc])
theorem By.cons {b : Nat} {l : List Nat} (h : b < 256) (hl : By l) : By (b :: l) := by
  intro c hc
  rcases List.mem_cons.1 hc with rfl | hc
  · exact h
  · exact hl c hc
theorem By.map {l : List Nat} {f : Nat → Nat} (h : By l) (hf : ∀ b, b < 256 → f b < 256) : By (l.map f) := by
  intro c hc
  obtain ⟨b, hb, rfl⟩ := List.mem_map.1 hc
  exact hf b (h b hb)
theorem W_lt {l : List Nat} (h : By l) : W l < 256 ^ l.length := by
  induction l with
  | nil => simp [W]
  | cons b l ih =>
    have h1 := ih h.tail
    have h2 := h.head
    simp only [W, List.length_cons, Nat.pow_succ]
    omega
theorem low_testBit (b y j : Nat) (hb : b < 256) : (b + 256 * y).testBit j = if j < 8 then b.testBit j else y.testBit (j - 8) := by
  have := Nat.testBit_two_pow_mul_add (i := 8) y (b := b) hb j
  rwa [Nat.add_comm] at this
theorem and_split (b c y z : Nat) (hb : b < 256) (hc : c < 256) : (b + 256 * y) &&& (c + 256 * z) = (b &&& c) + 256 * (y &&& z) := by
  apply Nat.eq_of_testBit_eq
  intro j
  rw [low_testBit _ _ _ (Nat.lt_of_le_of_lt Nat.and_le_left hb), Nat.testBit_and, low_testBit _ _ _ hb, low_testBit _ _ _ hc]
  split <;> simp
theorem xor_split (b c y z : Nat) (hb : b < 256) (hc : c < 256) : (b + 256 * y) ^^^ (c + 256 * z) = (b ^^^ c) + 256 * (y ^^^ z) := by
  apply Nat.eq_of_testBit_eq
  intro j
  rw [low_testBit _ _ _ (xor_lt8 hb hc), Nat.testBit_xor, low_testBit _ _ _ hb, low_testBit _ _ _ hc]
  split <;> simp
theorem or_split (b c y z : Nat) (hb : b < 256) (hc : c < 256) : (b + 256 * y) ||| (c + 256 * z) = (b ||| c) + 256 * (y ||| z) := by
  apply Nat.eq_of_testBit_eq
  intro j
  rw [low_testBit _ _ _ (Nat.or_lt_two_pow (n := 8) hb hc), Nat.testBit_or, low_testBit _ _ _ hb, low_testBit _ _ _ hc]
  split <;> simp
def rep (m : Nat) (l : List Nat) : List Nat := l.map fun _ => m
theorem W_and (m : Nat) (hm : m < 256) : ∀ l, By l → W l &&& W (rep m l) = W (l.map (· &&& m)) := by
  intro l
  induction l with
  | nil => intro _; simp [W, rep]
  | cons b l ih =>
    intro h
    show (b + 256 * W l) &&& (m + 256 * W (rep m l)) = _
    rw [and_split _ _ _ _ h.head hm, ih h.tail]
    rfl
theorem W_xor : ∀ l m, l.length = m.length → By l → By m → W l ^^^ W m = W (List.zipWith (· ^^^ ·) l m) := by
  intro l
  induction l with
  | nil =>
    intro m hl _ _
    have : m = [] := List.eq_nil_of_length_eq_zero hl.symm
    subst this
    simp [W]
  | cons b l ih =>
    intro m hl h hm
    cases m with
    | nil => simp at hl
    | cons c m =>
      show (b + 256 * W l) ^^^ (c + 256 * W m) = _
      rw [xor_split _ _ _ _ h.head hm.head, ih m (by simpa using hl) h.tail hm.tail]
      rfl
theorem W_mul (c : Nat) : ∀ l, W l * c = W (l.map (· * c)) := by
  intro l
  induction l with
  | nil => simp [W]
  | cons b l ih =>
    show (b + 256 * W l) * c = b * c + 256 * W (l.map (· * c))
    rw [← ih, Nat.add_mul, Nat.mul_assoc]
theorem W_tops : ∀ l, By l → W l / 128 &&& W (rep 1 l) = W (l.map (· / 128)) := by
  intro l
  induction l with
  | nil => intro _; simp [W, rep]
  | cons b l ih =>
    intro h
    have hb := h.head
    show (b + 256 * W l) / 128 &&& (1 + 256 * W (rep 1 l)) = b / 128 + 256 * W (l.map (· / 128))
    rw [← ih h.tail, show (b + 256 * W l) / 128 = (b / 128 + (2 * W l) % 256) + 256 * (W l / 128) by omega]
    rw [and_split _ _ _ _ (by omega) (by omega)]
    congr 1
    have : b / 128 + 2 * W l % 256 &&& 1 = (b / 128 + 2 * W l % 256) % 2 := Nat.and_two_pow_sub_one_eq_mod _ 1
    rw [this]
    omega
theorem W_lows : ∀ l, By l → W l &&& W (rep 1 l) = W (l.map (· % 2)) := by
  intro l h
  rw [W_and 1 (by omega) l h]
  congr 1
  apply List.map_congr_left
  intro b _
  exact Nat.and_two_pow_sub_one_eq_mod _ 1
theorem W_halves : ∀ l, By l → W l / 2 &&& W (rep 127 l) = W (l.map (· / 2)) := by
  intro l
  induction l with
  | nil => intro _; simp [W, rep]
  | cons b l ih =>
    intro h
    have hb := h.head
    show (b + 256 * W l) / 2 &&& (127 + 256 * W (rep 127 l)) = b / 2 + 256 * W (l.map (· / 2))
    rw [← ih h.tail, show (b + 256 * W l) / 2 = (b / 2 + 128 * (W l % 2)) + 256 * (W l / 2) by omega]
    rw [and_split _ _ _ _ (by omega) (by omega)]
    congr 1
    have : b / 2 + 128 * (W l % 2) &&& 127 = (b / 2 + 128 * (W l % 2)) % 128 := Nat.and_two_pow_sub_one_eq_mod _ 7
    rw [this]
    omega
theorem and127 (b : Nat) : b &&& 127 = b % 128 := Nat.and_two_pow_sub_one_eq_mod _ 7
theorem W_tw (l : List Nat) (h : By l) : ((W l &&& W (rep 127 l)) * 2) ^^^ ((W l / 128 &&& W (rep 1 l)) * 29) = W (l.map tw) := by
  rw [W_and 127 (by omega) l h, W_tops l h, W_mul, W_mul, List.map_map, List.map_map]
  rw [W_xor _ _ (by simp) (h.map (by intro b hb; simp only [Function.comp, and127]; omega)) (h.map (by intro b hb; simp only [Function.comp]; omega))]
  rw [List.zipWith_map, List.zipWith_self]
  congr 1
  apply List.map_congr_left
  intro b _
  simp only [Function.comp, and127]
  rfl
theorem W_hf (l : List Nat) (h : By l) : (W l / 2 &&& W (rep 127 l)) ^^^ ((W l &&& W (rep 1 l)) * 142) = W (l.map hf) := by
  rw [W_halves l h, W_lows l h, W_mul, List.map_map]
  rw [W_xor _ _ (by simp) (h.map (by intro b hb; omega)) (h.map (by intro b hb; simp only [Function.comp]; omega))]
  rw [List.zipWith_map, List.zipWith_self]
  rfl
theorem rep8 (m : Nat) (l : List Nat) (h : l.length = 8) : W (rep m l) = m * 72340172838076673 := by
  match l, h with
  | [_, _, _, _, _, _, _, _], _ => simp only [rep, List.map, W]; omega
theorem W8_lt {l : List Nat} (h : By l) (h8 : l.length = 8) : W l < 18446744073709551616 := by
  have := W_lt h
  rw [h8] at this
  exact this
theorem of8 (x : Nat) (h : x < 18446744073709551616) : ∃ l, l.length = 8 ∧ By l ∧ x = W l := by
  refine ⟨[x % 256, x / 256 % 256, x / 65536 % 256, x / 16777216 % 256, x / 4294967296 % 256, x / 1099511627776 % 256, x / 281474976710656 % 256, x / 72057594037927936 % 256], rfl, ?_, ?_⟩
  · intro b hb
    simp only [List.mem_cons, List.not_mem_nil, or_false] at hb
    omega
  · simp only [W]
    omega
theorem W_inj : ∀ l m, l.length = m.length → By l → By m → W l = W m → l = m := by
  intro l
  induction l with
  | nil =>
    intro m hl _ _ _
    exact (List.eq_nil_of_length_eq_zero hl.symm).symm
  | cons b l ih =>
    intro m hl h hm e
    cases m with
    | nil => simp at hl
    | cons c m =>
      have h1 := h.head
      have h2 := hm.head
      simp only [W] at e
      have e1 : b = c := by omega
      have e2 : W l = W m := by omega
      rw [e1, ih m (by simpa using hl) h.tail hm.tail e2]

/-! Go's words for it -/
theorem bits_and_u64 (a b : Nat) (ha : a < 18446744073709551616) (hb : b < 18446744073709551616) : Go.bits .and .u64 (a : Int) (b : Int) = ((a &&& b : Nat) : Int) := by
  have hx : a &&& b < 2 ^ 64 := Nat.and_lt_two_pow _ hb
  have h1 : (BitVec.ofInt 64 (a : Int)).toNat = a := by
    rw [BitVec.ofInt_natCast, BitVec.toNat_ofNat]; exact Nat.mod_eq_of_lt (by omega)
  have h2 : (BitVec.ofInt 64 (b : Int)).toNat = b := by
    rw [BitVec.ofInt_natCast, BitVec.toNat_ofNat]; exact Nat.mod_eq_of_lt (by omega)
  show IntKind.u64.wrap ((BitVec.ofInt 64 (a : Int) &&& BitVec.ofInt 64 (b : Int)).toNat : Int) = _
  rw [BitVec.toNat_and, h1, h2, IntKind.wrap_u64]
  omega
theorem bits_or_u64 (a b : Nat) (ha : a < 18446744073709551616) (hb : b < 18446744073709551616) : Go.bits .or .u64 (a : Int) (b : Int) = ((a ||| b : Nat) : Int) := by
  have hx : a ||| b < 2 ^ 64 := Nat.or_lt_two_pow (by omega) (by omega)
  have h1 : (BitVec.ofInt 64 (a : Int)).toNat = a := by
    rw [BitVec.ofInt_natCast, BitVec.toNat_ofNat]; exact Nat.mod_eq_of_lt (by omega)
  have h2 : (BitVec.ofInt 64 (b : Int)).toNat = b := by
    rw [BitVec.ofInt_natCast, BitVec.toNat_ofNat]; exact Nat.mod_eq_of_lt (by omega)
  show IntKind.u64.wrap ((BitVec.ofInt 64 (a : Int) ||| BitVec.ofInt 64 (b : Int)).toNat : Int) = _
  rw [BitVec.toNat_or, h1, h2, IntKind.wrap_u64]
  omega
theorem bits_andNot_tops (a : Nat) (ha : a < 18446744073709551616) : Go.bits .andNot .u64 (a : Int) 9259542123273814144 = ((a &&& 9187201950435737471 : Nat) : Int) := by
  have hx : a &&& 9187201950435737471 < 2 ^ 64 := Nat.and_lt_two_pow _ (by omega)
  have h1 : (BitVec.ofInt 64 (a : Int)).toNat = a := by
    rw [BitVec.ofInt_natCast, BitVec.toNat_ofNat]; exact Nat.mod_eq_of_lt (by omega)
  show IntKind.u64.wrap ((BitVec.ofInt 64 (a : Int) &&& ~~~ BitVec.ofInt 64 (9259542123273814144 : Int)).toNat : Int) = _
  rw [BitVec.toNat_and, h1, show (~~~ BitVec.ofInt 64 (9259542123273814144 : Int)).toNat = 9187201950435737471 by decide, IntKind.wrap_u64]
  omega
end Go.Proofs.Ytfahogbgkjockaa
