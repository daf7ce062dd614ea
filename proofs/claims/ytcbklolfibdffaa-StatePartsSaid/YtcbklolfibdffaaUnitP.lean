/- Plain numbers: Hypot, Unit: what they come to, and that Unit's answer has the length One. No program. -/
import Derived.Test.YtcbklolfibdffaaRootP
import Derived.Test.YtcbklolfibdffaaStepP
namespace Go.Proofs.Ytcbklolfibdffaa
/-- The root of the sum of the squares (of at most 64 numbers). -/
def hypV (A : Nat → Int) (n : Nat) : Int := satV (rootV (dotS A A n).toNat : Nat)
def hypH (A : Nat → Int) (n : Nat) : Bool := orB (fun i => satH (A i)) n || satH (rootV (dotS A A n).toNat : Nat)
def uniT (A : Nat → Int) : Nat → Int := fun i => divV (A i) (hypV A 4) 30
def uniTH (A : Nat → Int) : Bool := hypH A 4 || orB (fun i => divH (A i) (hypV A 4) 30) 4
def satA (A : Nat → Int) : Nat → Int := fun i => satV (A i)
def oneQ : Nat → Int := fun i => if i = 0 then 1073741824 else 0
def zer4 (A : Nat → Int) : Bool := decide (A 0 = 0) && decide (A 1 = 0) && decide (A 2 = 0) && decide (A 3 = 0)
def uniV (A : Nat → Int) : Nat → Int := if zer4 (satA A) = true then oneQ else uniT (uniT (satA A))
def uniH (A : Nat → Int) : Bool := orB (fun i => satH (A i)) 4 || (if zer4 (satA A) = true then false else uniTH (satA A) || uniTH (uniT (satA A)))
/-- Within a little of the length One. -/
def UnitQ (q : Nat → Int) : Prop := (∀ i, i < 4 → -1073741840 ≤ q i ∧ q i ≤ 1073741840) ∧
  -4294967296 ≤ q 0 * q 0 + q 1 * q 1 + q 2 * q 2 + q 3 * q 3 - 1152921504606846976 ∧ q 0 * q 0 + q 1 * q 1 + q 2 * q 2 + q 3 * q 3 - 1152921504606846976 ≤ 4294967296
theorem sq_nonneg (a : Int) : 0 ≤ a * a := by
  rcases Int.le_total 0 a with h | h
  · exact Int.mul_nonneg h h
  · exact Int.mul_nonneg_of_nonpos_of_nonpos h h
theorem int_lt_or_ge (a b : Int) : a < b ∨ b ≤ a := by omega
theorem abs_le_of_sq {a R : Int} (hR : 0 ≤ R) (h : a * a ≤ R * R + R) : -R ≤ a ∧ a ≤ R := by
  constructor
  · rcases int_lt_or_ge a (-R) with h1 | h1
    · have h2 : (R + 1) * (R + 1) ≤ (-a) * (-a) := Int.mul_le_mul (by omega) (by omega) (by omega) (by omega)
      have e1 : (R + 1) * (R + 1) = R * R + 2 * R + 1 := by grind
      have e2 : (-a) * (-a) = a * a := by grind
      omega
    · exact h1
  · rcases int_lt_or_ge R a with h1 | h1
    · have h2 : (R + 1) * (R + 1) ≤ a * a := Int.mul_le_mul (by omega) (by omega) (by omega) (by omega)
      have e1 : (R + 1) * (R + 1) = R * R + 2 * R + 1 := by grind
      omega
    · exact h1
/-- A division, rounded: within a half. -/
theorem rdivU_err (a n : Int) (hn : 0 < n) : -n ≤ 2 * (rdiv a n * n - a) ∧ 2 * (rdiv a n * n - a) ≤ n := by
  obtain ⟨d, rfl⟩ := Int.eq_ofNat_of_zero_le (Int.le_of_lt hn)
  have hd : 0 < d := by omega
  have hm := Nat.div_add_mod (2 * a.natAbs + d) (2 * d)
  have hr := Nat.mod_lt (2 * a.natAbs + d) (show 0 < 2 * d by omega)
  unfold rdiv
  simp only [Int.natAbs_natCast]
  generalize (2 * a.natAbs + d) % (2 * d) = r at *
  generalize (2 * a.natAbs + d) / (2 * d) = q at *
  have hm' : (2 * (d : Int)) * q + r = 2 * a.natAbs + d := by exact_mod_cast hm
  by_cases h0 : 0 ≤ a
  · rw [if_pos (by simp [h0, hd])]
    have e : (q : Int) * d = d * q := Int.mul_comm _ _
    rw [e]
    have : (a.natAbs : Int) = a := by omega
    rw [this, Int.mul_assoc] at hm'
    omega
  · rw [if_neg (by simp [h0, hd])]
    have e : -(q : Int) * d = -(d * q) := by grind
    rw [e]
    have : (a.natAbs : Int) = -a := by omega
    rw [this, Int.mul_assoc] at hm'
    omega
theorem rdivU_le {a n B : Int} (hn : 0 < n) (h1 : -(B * n) ≤ a) (h2 : a ≤ B * n) : -B ≤ rdiv a n ∧ rdiv a n ≤ B := by
  obtain ⟨e1, e2⟩ := rdivU_err a n hn
  generalize rdiv a n = q at *
  constructor
  · rcases int_lt_or_ge q (-B) with h | h
    · have : q * n ≤ (-B - 1) * n := Int.mul_le_mul_of_nonneg_right (by omega) (by omega)
      have e : (-B - 1) * n = -(B * n) - n := by grind
      omega
    · exact h
  · rcases int_lt_or_ge B q with h | h
    · have : (B + 1) * n ≤ q * n := Int.mul_le_mul_of_nonneg_right (by omega) (by omega)
      have e : (B + 1) * n = B * n + n := by grind
      omega
    · exact h
/-- Four numbers: their sizes' sum. -/
theorem sum4_le {a b c d R : Int} (hR : 0 ≤ R) (h : a * a + b * b + c * c + d * d ≤ R * R + R) : a + b + c + d ≤ 2 * R := by
  have h1 := sq_nonneg (a - b)
  have h2 := sq_nonneg (a - c)
  have h3 := sq_nonneg (a - d)
  have h4 := sq_nonneg (b - c)
  have h5 := sq_nonneg (b - d)
  have h6 := sq_nonneg (c - d)
  have e : (a + b + c + d) * (a + b + c + d) + ((a - b) * (a - b) + (a - c) * (a - c) + (a - d) * (a - d) + (b - c) * (b - c) + (b - d) * (b - d) + (c - d) * (c - d)) = 4 * (a * a + b * b + c * c + d * d) := by grind
  rcases int_lt_or_ge (2 * R) (a + b + c + d) with h7 | h7
  · have h8 : (2 * R + 1) * (2 * R + 1) ≤ (a + b + c + d) * (a + b + c + d) := Int.mul_le_mul (by omega) (by omega) (by omega) (by omega)
    have e2 : (2 * R + 1) * (2 * R + 1) = 4 * (R * R) + 4 * R + 1 := by grind
    omega
  · exact h7
theorem bound_mul {e q n : Int} (h1 : -n ≤ 2 * e) (h2 : 2 * e ≤ n) : -(n * (q.natAbs : Int)) ≤ 2 * (q * e) ∧ 2 * (q * e) ≤ n * (q.natAbs : Int) := by
  have hn : 0 ≤ n := by omega
  rcases Int.le_total 0 q with h | h
  · have : (q.natAbs : Int) = q := by omega
    rw [this]
    have k1 := Int.mul_le_mul_of_nonneg_left h2 h
    have k2 := Int.mul_le_mul_of_nonneg_left h1 h
    have e1 : q * (2 * e) = 2 * (q * e) := by grind
    have e2 : q * -n = -(n * q) := by grind
    have e3 : q * n = n * q := by grind
    omega
  · have : (q.natAbs : Int) = -q := by omega
    rw [this]
    have k1 := Int.mul_le_mul_of_nonneg_left h2 (show 0 ≤ -q by omega)
    have k2 := Int.mul_le_mul_of_nonneg_left h1 (show 0 ≤ -q by omega)
    have e1 : -q * (2 * e) = -(2 * (q * e)) := by grind
    have e2 : -q * -n = -(n * -q) := by grind
    have e3 : -q * n = n * -q := by grind
    omega
theorem sq_half {e n : Int} (h1 : -n ≤ 2 * e) (h2 : 2 * e ≤ n) : 4 * (e * e) ≤ n * n := by
  have k1 : 0 ≤ (n - 2 * e) * (n + 2 * e) := Int.mul_nonneg (by omega) (by omega)
  have e1 : (n - 2 * e) * (n + 2 * e) = n * n - 4 * (e * e) := by grind
  omega
/-- One turn of Unit's loop: what the squares come to. a: the numbers ahead, q: behind, n: the divisor, R: the root. -/
theorem uni_step {a0 a1 a2 a3 q0 q1 q2 q3 n R : Int} (hn : 0 < n) (hR : 0 ≤ R)
    (u0 : -n ≤ 2 * (q0 * n - a0 * 1073741824) ∧ 2 * (q0 * n - a0 * 1073741824) ≤ n) (u1 : -n ≤ 2 * (q1 * n - a1 * 1073741824) ∧ 2 * (q1 * n - a1 * 1073741824) ≤ n)
    (u2 : -n ≤ 2 * (q2 * n - a2 * 1073741824) ∧ 2 * (q2 * n - a2 * 1073741824) ≤ n) (u3 : -n ≤ 2 * (q3 * n - a3 * 1073741824) ∧ 2 * (q3 * n - a3 * 1073741824) ≤ n)
    (hS : a0 * a0 + a1 * a1 + a2 * a2 + a3 * a3 ≤ R * R + R) :
    -(2147483648 * (n * R)) ≤ (q0 * q0 + q1 * q1 + q2 * q2 + q3 * q3) * (n * n) - 1152921504606846976 * (a0 * a0 + a1 * a1 + a2 * a2 + a3 * a3) ∧
    (q0 * q0 + q1 * q1 + q2 * q2 + q3 * q3) * (n * n) - 1152921504606846976 * (a0 * a0 + a1 * a1 + a2 * a2 + a3 * a3) ≤ 2147483648 * (n * R) + n * n := by
  obtain ⟨e0, h0⟩ : ∃ e, q0 * n - a0 * 1073741824 = e := ⟨_, rfl⟩
  obtain ⟨e1, h1⟩ : ∃ e, q1 * n - a1 * 1073741824 = e := ⟨_, rfl⟩
  obtain ⟨e2, h2⟩ : ∃ e, q2 * n - a2 * 1073741824 = e := ⟨_, rfl⟩
  obtain ⟨e3, h3⟩ : ∃ e, q3 * n - a3 * 1073741824 = e := ⟨_, rfl⟩
  rw [h0] at u0
  rw [h1] at u1
  rw [h2] at u2
  rw [h3] at u3
  have b0 := bound_mul (q := a0) u0.1 u0.2
  have b1 := bound_mul (q := a1) u1.1 u1.2
  have b2 := bound_mul (q := a2) u2.1 u2.2
  have b3 := bound_mul (q := a3) u3.1 u3.2
  have s0 := sq_half u0.1 u0.2
  have s1 := sq_half u1.1 u1.2
  have s2 := sq_half u2.1 u2.2
  have s3 := sq_half u3.1 u3.2
  have t0 := sq_nonneg e0
  have t1 := sq_nonneg e1
  have t2 := sq_nonneg e2
  have t3 := sq_nonneg e3
  have hs : (a0.natAbs : Int) + a1.natAbs + a2.natAbs + a3.natAbs ≤ 2 * R := by
    apply sum4_le hR
    have f : ∀ x : Int, (x.natAbs : Int) * x.natAbs = x * x := fun x => by rw [← Int.natCast_mul, Int.natAbs_mul_self]
    rw [f, f, f, f]; exact hS
  have hm : n * ((a0.natAbs : Int) + a1.natAbs + a2.natAbs + a3.natAbs) ≤ n * (2 * R) := Int.mul_le_mul_of_nonneg_left hs (by omega)
  have hm1 : n * ((a0.natAbs : Int) + a1.natAbs + a2.natAbs + a3.natAbs) = n * a0.natAbs + n * a1.natAbs + n * a2.natAbs + n * a3.natAbs := by grind
  have hm2 : n * (2 * R) = 2 * (n * R) := by grind
  have g0 : q0 * n = a0 * 1073741824 + e0 := by omega
  have g1 : q1 * n = a1 * 1073741824 + e1 := by omega
  have g2 : q2 * n = a2 * 1073741824 + e2 := by omega
  have g3 : q3 * n = a3 * 1073741824 + e3 := by omega
  have ex : (q0 * q0 + q1 * q1 + q2 * q2 + q3 * q3) * (n * n) = (q0 * n) * (q0 * n) + (q1 * n) * (q1 * n) + (q2 * n) * (q2 * n) + (q3 * n) * (q3 * n) := by grind
  have eq : ∀ a e : Int, (a * 1073741824 + e) * (a * 1073741824 + e) = 1152921504606846976 * (a * a) + 2147483648 * (a * e) + e * e := fun a e => by grind
  rw [ex, g0, g1, g2, g3, eq, eq, eq, eq]
  rw [hm1, hm2] at hm
  omega
end Go.Proofs.Ytcbklolfibdffaa
