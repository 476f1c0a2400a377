/- Doubling, halving and products of bytes: sums, orders, and that the program's product is the reference's. No program. -/
import Derived.Test.YtfahogbgkjockaaBytes
namespace Go.Proofs.Ytfahogbgkjockaa
def tw (b : Nat) : Nat := ((b % 128) * 2) ^^^ (b / 128 * 29)
def hf (b : Nat) : Nat := (b / 2) ^^^ (b % 2 * 142)
def tmB : Nat → Nat → Nat → Nat → Nat
  | 0, _, _, o => o
  | f + 1, b, c, o => tmB f (tw b) (c / 2) (if c % 2 = 1 then o ^^^ b else o)
def Lin (f : Nat → Nat) : Prop := ∀ a b, a < 256 → b < 256 → f (a ^^^ b) = f a ^^^ f b
theorem Lin.zero {f : Nat → Nat} (h : Lin f) : f 0 = 0 := by
  have := h 0 0 (by omega) (by omega)
  simpa using this
theorem xor_lt8 {a b : Nat} (ha : a < 256) (hb : b < 256) : a ^^^ b < 256 := Nat.xor_lt_two_pow (n := 8) ha hb
theorem split_top (n b : Nat) (h : b < 2 ^ (n + 1)) : b = (b % 2 ^ n) ^^^ (if b.testBit n then 2 ^ n else 0) := by
  apply Nat.eq_of_testBit_eq
  intro i
  rw [Nat.testBit_xor, Nat.testBit_mod_two_pow]
  rcases Nat.lt_trichotomy i n with hi | hi | hi
  · have : (if b.testBit n = true then 2 ^ n else 0).testBit i = false := by
      split
      · exact Nat.testBit_two_pow_of_ne (by omega)
      · simp
    simp [this, hi]
  · subst hi
    cases hb : b.testBit i <;> simp
  · have h1 : b.testBit i = false := Nat.testBit_lt_two_pow (Nat.lt_of_lt_of_le h (Nat.pow_le_pow_right (by omega) hi))
    have h2 : (if b.testBit n = true then 2 ^ n else 0).testBit i = false := by
      split
      · exact Nat.testBit_two_pow_of_ne (by omega)
      · simp
    simp [h1, h2]
theorem lin_ext {f g : Nat → Nat} (hf : Lin f) (hg : Lin g) (h : ∀ i, i < 8 → f (2 ^ i) = g (2 ^ i)) : ∀ b, b < 256 → f b = g b := by
  have key : ∀ n, n ≤ 8 → ∀ b, b < 2 ^ n → f b = g b := by
    intro n
    induction n with
    | zero =>
      intro _ b hb
      have : b = 0 := by omega
      subst this
      rw [hf.zero, hg.zero]
    | succ n ih =>
      intro hn b hb
      have hp : (2 : Nat) ^ n ≤ 2 ^ 7 := Nat.pow_le_pow_right (by omega) (by omega)
      have hm : b % 2 ^ n < 2 ^ n := Nat.mod_lt _ (Nat.two_pow_pos n)
      have hc : (if b.testBit n then 2 ^ n else 0) < 256 := by split <;> omega
      rw [split_top n b hb, hf _ _ (by omega) hc, hg _ _ (by omega) hc, ih (by omega) _ hm]
      congr 1
      split
      · exact h n (by omega)
      · rw [hf.zero, hg.zero]
  exact fun b hb => key 8 (by omega) b hb
theorem mod2_xor (a b : Nat) : (a ^^^ b) % 2 = (a % 2 + b % 2) % 2 := by
  have h : (a ^^^ b) % 2 = (a % 2) ^^^ (b % 2) := Nat.xor_mod_two_pow (n := 1)
  rw [h]
  rcases Nat.mod_two_eq_zero_or_one a with ha | ha <;> rcases Nat.mod_two_eq_zero_or_one b with hb | hb <;> rw [ha, hb] <;> rfl
theorem div_xor (a b n : Nat) : (a ^^^ b) / 2 ^ n = a / 2 ^ n ^^^ b / 2 ^ n := by
  simp only [← Nat.shiftRight_eq_div_pow, Nat.shiftRight_xor_distrib]
theorem bit_xor (a b n : Nat) : (a ^^^ b) / 2 ^ n % 2 = (a / 2 ^ n % 2 + b / 2 ^ n % 2) % 2 := by rw [div_xor, mod2_xor]
theorem xor4 (a b c d : Nat) : (a ^^^ b) ^^^ (c ^^^ d) = (a ^^^ c) ^^^ (b ^^^ d) := by
  rw [Nat.xor_assoc, Nat.xor_assoc, ← Nat.xor_assoc b, Nat.xor_comm b c, Nat.xor_assoc c]
theorem stp_lin (D E j p r q : Nat) (hp : p < 2) (hr : r < 2) : stp (D ^^^ E) j ((p + r) % 2) q = stp D j p q ^^^ stp E j r q := by
  unfold stp
  by_cases hq : q = 1
  · subst hq
    rcases (by omega : p = 0 ∨ p = 1) with rfl | rfl <;> rcases (by omega : r = 0 ∨ r = 1) with rfl | rfl <;> simp
    · rw [Nat.xor_assoc]
    · rw [Nat.xor_assoc, Nat.xor_assoc, Nat.xor_comm E]
    · rw [xor4]; simp
  · have h1 : ∀ x, x < 2 → ¬ x * q = 1 := by
      intro x hx h
      rcases (by omega : x = 0 ∨ x = 1) with rfl | rfl <;> omega
    rw [if_neg (h1 _ (by omega)), if_neg (h1 _ hp), if_neg (h1 _ hr)]
theorem inn_lin (b i C D x y : Nat) (k : Nat) : inn (C ^^^ D) (x ^^^ y) b i k = inn C x b i k ^^^ inn D y b i k := by
  induction k with
  | zero => rfl
  | succ k ih =>
    show stp _ _ _ _ = stp _ _ _ _ ^^^ stp _ _ _ _
    rw [ih, bit_xor]
    exact stp_lin _ _ _ _ _ _ (Nat.mod_lt _ (by omega)) (Nat.mod_lt _ (by omega))
theorem clm_lin (b x y : Nat) (i : Nat) : clm (x ^^^ y) b i = clm x b i ^^^ clm y b i := by
  induction i with
  | zero => simp [clm]
  | succ i ih =>
    show inn _ _ _ _ _ = inn _ _ _ _ _ ^^^ inn _ _ _ _ _
    rw [ih, inn_lin]
theorem flp_lin (C D i : Nat) : flp (C ^^^ D) i = flp C i ^^^ flp D i := by
  unfold flp
  rw [Nat.testBit_xor]
  cases C.testBit i <;> cases D.testBit i <;> simp
  · rw [Nat.xor_assoc]
  · rw [Nat.xor_assoc, Nat.xor_assoc, Nat.xor_comm D]
  · rw [xor4]; simp
theorem red_lin (n : Nat) : ∀ C D : Nat, red (C ^^^ D) n = red C n ^^^ red D n := by
  induction n with
  | zero => intro C D; rfl
  | succ n ih =>
    intro C D
    show red (flp _ _) _ = red (flp _ _) _ ^^^ red (flp _ _) _
    rw [flp_lin, ih]
theorem mulB_lin (c : Nat) : Lin (fun b => mulB b c) := by
  intro x y _ _
  show red (clm _ _ _) _ % 256 = (red (clm _ _ _) _ % 256) ^^^ (red (clm _ _ _) _ % 256)
  rw [clm_lin, red_lin]
  exact Nat.xor_mod_two_pow (n := 8)
theorem bit_mul_lin (p r m : Nat) (hp : p < 2) (hr : r < 2) : (p + r) % 2 * m = (p * m) ^^^ (r * m) := by
  rcases (by omega : p = 0 ∨ p = 1) with rfl | rfl <;> rcases (by omega : r = 0 ∨ r = 1) with rfl | rfl <;> simp
theorem tw_lin : Lin tw := by
  intro x y hx hy
  unfold tw
  rw [show (x ^^^ y) / 128 = (x / 128 + y / 128) % 2 by
    have := bit_xor x y 7
    simp at this
    have h3 := div_xor x y 7
    simp at h3
    have := xor_lt8 hx hy
    omega]
  rw [bit_mul_lin _ _ _ (by omega) (by omega)]
  rw [show (x ^^^ y) % 128 = (x % 128) ^^^ (y % 128) from Nat.xor_mod_two_pow (n := 7)]
  rw [show (x % 128 ^^^ y % 128) * 2 = (x % 128 * 2) ^^^ (y % 128 * 2) by
    have := Nat.shiftLeft_xor_distrib (a := x % 128) (b := y % 128) (i := 1)
    simpa [Nat.shiftLeft_eq] using this]
  rw [xor4]
theorem hf_lin : Lin hf := by
  intro x y hx hy
  unfold hf
  have h := div_xor x y 1
  simp at h
  rw [h, mod2_xor, bit_mul_lin _ _ _ (by omega) (by omega), xor4]
theorem tw_lt {b : Nat} (h : b < 256) : tw b < 256 := by
  unfold tw
  exact xor_lt8 (by omega) (by omega)
theorem hf_lt {b : Nat} (h : b < 256) : hf b < 256 := by
  unfold hf
  exact xor_lt8 (by omega) (by omega)
theorem tmB_lt (f : Nat) : ∀ b c o, b < 256 → o < 256 → tmB f b c o < 256 := by
  induction f with
  | zero => intro b c o _ ho; exact ho
  | succ f ih =>
    intro b c o hb ho
    refine ih _ _ _ (tw_lt hb) ?_
    split
    · exact xor_lt8 ho hb
    · exact ho
theorem tmB_lin (f : Nat) : ∀ c b d o p, b < 256 → d < 256 → tmB f (b ^^^ d) c (o ^^^ p) = tmB f b c o ^^^ tmB f d c p := by
  induction f with
  | zero => intros; rfl
  | succ f ih =>
    intro c b d o p hb hd
    show tmB f _ _ _ = tmB f _ _ _ ^^^ tmB f _ _ _
    rw [tw_lin _ _ hb hd, ← ih _ _ _ _ _ (tw_lt hb) (tw_lt hd)]
    split
    · rw [xor4]
    · rfl
theorem tm_lin (c : Nat) : Lin (fun b => tmB 8 b c 0) := by
  intro x y hx hy
  have := tmB_lin 8 c x y 0 0 hx hy
  simpa using this
theorem tm_mul (b c : Nat) (hb : b < 256) (hc : c < 256) : tmB 8 b c 0 = mulB b c := by
  have key : ∀ i, i < 8 → ∀ c, c < 256 → tmB 8 (2 ^ i) c 0 = mulB (2 ^ i) c := by decide +kernel
  exact lin_ext (tm_lin c) (mulB_lin c) (fun i hi => key i hi c hc) b hb
theorem tw_mul (b : Nat) (hb : b < 256) : tw b = mulB b 2 := lin_ext tw_lin (mulB_lin 2) (by decide +kernel) b hb
theorem hf_mul (b : Nat) (hb : b < 256) : hf b = mulB b 142 := lin_ext hf_lin (mulB_lin 142) (by decide +kernel) b hb
theorem Lin.comp {f g : Nat → Nat} (hf : Lin f) (hg : Lin g) (hl : ∀ b, b < 256 → g b < 256) : Lin (fun b => f (g b)) := by
  intro a b ha hb
  show f (g _) = _
  rw [hg a b ha hb, hf _ _ (hl a ha) (hl b hb)]
theorem lin_id : Lin (fun b => b) := fun _ _ _ _ => rfl
theorem hf_tw (b : Nat) (hb : b < 256) : hf (tw b) = b := lin_ext (hf_lin.comp tw_lin (fun _ h => tw_lt h)) lin_id (by decide +kernel) b hb
theorem tw_hf (b : Nat) (hb : b < 256) : tw (hf b) = b := lin_ext (tw_lin.comp hf_lin (fun _ h => hf_lt h)) lin_id (by decide +kernel) b hb
/-- Times a sum of bytes. -/
theorem tmB_sum (f : Nat) : ∀ b c d o p, tmB f b (c ^^^ d) (o ^^^ p) = tmB f b c o ^^^ tmB f b d p := by
  induction f with
  | zero => intros; rfl
  | succ f ih =>
    intro b c d o p
    show tmB f _ _ _ = tmB f _ _ _ ^^^ tmB f _ _ _
    have h := div_xor c d 1
    simp at h
    rw [← ih, h, mod2_xor]
    congr 1
    rcases (by omega : c % 2 = 0 ∨ c % 2 = 1) with hc | hc <;> rcases (by omega : d % 2 = 0 ∨ d % 2 = 1) with hd | hd <;> simp [hc, hd]
    · rw [Nat.xor_assoc]
    · rw [Nat.xor_assoc, Nat.xor_assoc, Nat.xor_comm p]
    · rw [xor4]; simp
theorem tmB_tw (f : Nat) : ∀ b c o, b < 256 → o < 256 → tw (tmB f b c o) = tmB f (tw b) c (tw o) := by
  induction f with
  | zero => intros; rfl
  | succ f ih =>
    intro b c o hb ho
    show tw (tmB f _ _ _) = tmB f _ _ _
    rw [ih _ _ _ (tw_lt hb) (by split; exact xor_lt8 ho hb; exact ho)]
    congr 1
    split
    · rw [tw_lin _ _ ho hb]
    · rfl
theorem tmB_comm (f g : Nat) : ∀ b c d o, b < 256 → o < 256 → tmB f (tmB g b c 0) d (tmB g o c 0) = tmB g (tmB f b d o) c 0 := by
  induction f with
  | zero => intros; rfl
  | succ f ih =>
    intro b c d o hb ho
    show tmB f (tw (tmB g b c 0)) _ _ = tmB g (tmB f (tw b) _ _) c 0
    have h0 : tw 0 = 0 := by decide
    rw [tmB_tw g b c 0 hb (by omega), h0]
    rw [← ih (tw b) c (d / 2) _ (tw_lt hb) (by split; exact xor_lt8 ho hb; exact ho)]
    congr 1
    split
    · have := tmB_lin g c o b 0 0 ho hb
      simpa using this.symm
    · rfl
theorem tm_comm (b c d : Nat) (hb : b < 256) : tmB 8 (tmB 8 b c 0) d 0 = tmB 8 (tmB 8 b d 0) c 0 := by
  have h := tmB_comm 8 8 b c d 0 hb (by omega)
  have h0 : tmB 8 0 c 0 = 0 := by
    have := (tm_lin c).zero
    exact this
  rwa [h0] at h
theorem tm_one (b : Nat) : tmB 8 b 1 0 = b := by simp [tmB]
theorem tm_zero (b : Nat) : tmB 8 b 0 0 = 0 := by simp [tmB]
end Go.Proofs.Ytfahogbgkjockaa
