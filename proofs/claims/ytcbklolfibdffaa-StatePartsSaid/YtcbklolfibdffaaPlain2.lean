/- Plain numbers (2): Mul, Div, MulDiv as numbers. -/
import Derived.Test.YtcbklolfibdffaaPlain
namespace Go.Proofs.Ytcbklolfibdffaa
def mulV (a b s : Int) : Int := if s < 0 ∨ 120 < s then 0 else satV (rsh (satV a * satV b) s.toNat)
def mulH (a b s : Int) : Bool := satH a || satH b || (decide (s < 0 ∨ 120 < s) || satH (rsh (satV a * satV b) s.toNat))
/-- Divided; by nought: the bound on the number's side. -/
def byV (x d : Int) : Int := if d = 0 then (if x = 0 then 0 else if x < 0 then -1152921504606846976 else 1152921504606846976) else satV (rdiv x d)
def byH (x d : Int) : Bool := decide (d = 0) || satH (rdiv x d)
def divV (a b s : Int) : Int := if s < 0 ∨ 66 < s then 0 else byV (satV a * 2 ^ s.toNat) (satV b)
def divH (a b s : Int) : Bool := satH a || satH b || (decide (s < 0 ∨ 66 < s) || byH (satV a * 2 ^ s.toNat) (satV b))
def mdivV (a b d : Int) : Int := byV (satV a * satV b) (satV d)
def mdivH (a b d : Int) : Bool := satH a || satH b || satH d || byH (satV a * satV b) (satV d)
/-- The sum of the products, and whether a number was clamped. -/
def dotS (A B : Nat → Int) : Nat → Int | 0 => 0 | n + 1 => dotS A B n + satV (A n) * satV (B n)
def dotB (A B : Nat → Int) : Nat → Bool | 0 => false | n + 1 => dotB A B n || satH (A n) || satH (B n)
def dotV (s : Int) (A B : Nat → Int) (n : Nat) : Int := if s < 0 ∨ 120 < s then 0 else satV (rsh (dotS A B n) s.toNat)
def dotH (s : Int) (A B : Nat → Int) (n : Nat) : Bool := if s < 0 ∨ 120 < s then true else dotB A B n || satH (rsh (dotS A B n) s.toNat)
/-- The sum of clamped numbers. -/
def sumS (A : Nat → Int) : Nat → Int | 0 => 0 | n + 1 => sumS A n + satV (A n)
def sumB (A : Nat → Int) : Nat → Bool | 0 => false | n + 1 => sumB A n || satH (A n)
theorem sumS_bd (A : Nat → Int) (n : Nat) : -(n * 1152921504606846976 : Int) ≤ sumS A n ∧ sumS A n ≤ (n * 1152921504606846976 : Int) := by
  induction n with
  | zero => simp [sumS]
  | succ n ih =>
    have := satV_bd (A n)
    simp only [sumS]
    omega
theorem prod_bd (a b : Int) : -1329227995784915872903807060280344576 ≤ satV a * satV b ∧ satV a * satV b ≤ 1329227995784915872903807060280344576 := by
  have ha := satV_bd a
  have hb := satV_bd b
  generalize satV a = x at *
  generalize satV b = y at *
  have e : ((x * y).natAbs : Int) ≤ 1152921504606846976 * 1152921504606846976 := by
    rw [Int.natAbs_mul, Int.natCast_mul]
    exact Int.mul_le_mul (by omega) (by omega) (by omega) (by decide)
  omega
theorem dotS_bd (A B : Nat → Int) (n : Nat) : -(n * 1329227995784915872903807060280344576 : Int) ≤ dotS A B n ∧ dotS A B n ≤ (n * 1329227995784915872903807060280344576 : Int) := by
  induction n with
  | zero => simp [dotS]
  | succ n ih =>
    have := prod_bd (A n) (B n)
    simp only [dotS]
    omega
theorem shift_bd (a s : Int) (_s0 : 0 ≤ s) (s1 : s ≤ 66) : -85070591730234615865843651857942052864 ≤ satV a * 2 ^ s.toNat ∧ satV a * 2 ^ s.toNat ≤ 85070591730234615865843651857942052864 := by
  have ha := satV_bd a
  generalize satV a = x at *
  have h : (2 : Nat) ^ s.toNat ≤ 2 ^ 66 := Nat.pow_le_pow_right (by decide) (by omega)
  have h3 : (2 : Nat) ^ 66 = 73786976294838206464 := by decide
  have h2 : ((2 ^ s.toNat : Nat) : Int) = 2 ^ s.toNat := by simp
  have e : ((x * 2 ^ s.toNat).natAbs : Int) ≤ 1152921504606846976 * 73786976294838206464 := by
    rw [Int.natAbs_mul, Int.natCast_mul, ← h2, Int.natAbs_natCast]
    exact Int.mul_le_mul (by omega) (by omega) (Int.natCast_nonneg _) (by decide)
  omega
theorem rdiv_sign (x d : Int) (h : rdiv x d ≠ 0) : rdiv x d < 0 ↔ ¬ ((0 ≤ x) = (0 < d)) := by
  unfold rdiv at *
  have h1 : (0 : Int) ≤ (((2 * x.natAbs + d.natAbs) / (2 * d.natAbs) : Nat) : Int) := Int.natCast_nonneg _
  generalize (((2 * x.natAbs + d.natAbs) / (2 * d.natAbs) : Nat) : Int) = q at *
  by_cases hc : (0 ≤ x) = (0 < d)
  · rw [if_pos hc] at *; simp [hc]; omega
  · rw [if_neg hc] at *; simp [hc]; omega
end Go.Proofs.Ytcbklolfibdffaa
