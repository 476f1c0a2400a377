/- Bytes and words of bytes as numbers: what doubling, halving and multiplying do to them. No program. -/
namespace Go.Proofs.Ytfahogbgkjockaa
def bt1 (C j : Nat) : Int := if C.testBit j then 1 else 0
def stp (D j p q : Nat) : Nat := if p * q = 1 then D ^^^ 2 ^ j else D
def inn (C a b i : Nat) : Nat → Nat
  | 0 => C
  | k + 1 => stp (inn C a b i k) (i + k) (a / 2 ^ i % 2) (b / 2 ^ k % 2)
def clm (a b : Nat) : Nat → Nat
  | 0 => 0
  | i + 1 => inn (clm a b i) a b i 8
def flp (C i : Nat) : Nat := if C.testBit i then C ^^^ (285 * 2 ^ (i - 8)) else C
def red (C : Nat) : Nat → Nat
  | 0 => C
  | n + 1 => red (flp C (n + 8)) n
def mulB (a b : Nat) : Nat := red (clm a b 8) 7 % 256

end Go.Proofs.Ytfahogbgkjockaa
