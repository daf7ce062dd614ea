/- Contracts and plain laws beyond the other parts: they hold for all arguments. -/
import Derived.Test.YtgfklheepkgedaaQ01
import Derived.Test.YtgfklheepkgedaaQ02
import Derived.Test.YtgfklheepkgedaaQ03
import Derived.Test.YtgfklheepkgedaaQ04
import Derived.Test.YtgfklheepkgedaaQ05
import Derived.Test.YtgfklheepkgedaaQ06
import Derived.Test.YtgfklheepkgedaaQ07
import Derived.Test.YtgfklheepkgedaaQ08
import Derived.Test.YtgfklheepkgedaaQ09
import Derived.Test.YtgfklheepkgedaaQ10
import Derived.Test.YtgfklheepkgedaaQ11
import Derived.Test.YtgfklheepkgedaaQ12
import Derived.Test.YtgfklheepkgedaaQ13
import Derived.Test.YtgfklheepkgedaaQ14
import Derived.Test.YtgfklheepkgedaaQ15
import Derived.Test.YtgfklheepkgedaaQ16
import Derived.Test.YtgfklheepkgedaaQ17
import Derived.Test.YtgfklheepkgedaaQ18
namespace Go.Proofs.Ytgfklheepkgedaa
/-- Within a little of the length One. -/
def UnitQ (q : Nat → Int) : Prop := (∀ i, i < 4 → -1073741840 ≤ q i ∧ q i ≤ 1073741840) ∧
  -4294967296 ≤ q 0 * q 0 + q 1 * q 1 + q 2 * q 2 + q 3 * q 3 - 1152921504606846976 ∧ q 0 * q 0 + q 1 * q 1 + q 2 * q 2 + q 3 * q 3 - 1152921504606846976 ≤ 4294967296
theorem abs_le_of_sq {a R : Int} (hR : 0 ≤ R) (h : a * a ≤ R * R + R) : -R ≤ a ∧ a ≤ R := by
  constructor
  · rcases int_lt_or_ge a (-R) with h1 | h1
    · have h2 : (R + 1) * (R + 1) ≤ (-a) * (-a) := Int.mul_le_mul (by omega) (by omega) (by omega) (by omega)
      have e1 : (R + 1) * (R + 1) = R * R + 2 * R + 1 := by grind
      have e2 : (-a) * (-a) = a * a := by grind
      omega
    · exact h1
  · rcases int_lt_or_ge R a with h1 | h1
    · have h2 : (R + 1) * (R + 1) ≤ a * a := Int.mul_le_mul (by omega) (by omega) (by omega) (by omega)
      have e1 : (R + 1) * (R + 1) = R * R + 2 * R + 1 := by grind
      omega
    · exact h1
/-- A division, rounded: within a half. -/
theorem rdivU_err (a n : Int) (hn : 0 < n) : -n ≤ 2 * (rdiv a n * n - a) ∧ 2 * (rdiv a n * n - a) ≤ n := by
  obtain ⟨d, rfl⟩ := Int.eq_ofNat_of_zero_le (Int.le_of_lt hn)
  have hd : 0 < d := by omega
  have hm := Nat.div_add_mod (2 * a.natAbs + d) (2 * d)
  have hr := Nat.mod_lt (2 * a.natAbs + d) (show 0 < 2 * d by omega)
  unfold rdiv
  simp only [Int.natAbs_natCast]
  generalize (2 * a.natAbs + d) % (2 * d) = r at *
  generalize (2 * a.natAbs + d) / (2 * d) = q at *
  have hm' : (2 * (d : Int)) * q + r = 2 * a.natAbs + d := by exact_mod_cast hm
  by_cases h0 : 0 ≤ a
  · rw [if_pos (by simp [h0, hd])]
    have e : (q : Int) * d = d * q := Int.mul_comm _ _
    rw [e]
    have : (a.natAbs : Int) = a := by omega
    rw [this, Int.mul_assoc] at hm'
    omega
  · rw [if_neg (by simp [h0, hd])]
    have e : -(q : Int) * d = -(d * q) := by grind
    rw [e]
    have : (a.natAbs : Int) = -a := by omega
    rw [this, Int.mul_assoc] at hm'
    omega
theorem rdivU_le {a n B : Int} (hn : 0 < n) (h1 : -(B * n) ≤ a) (h2 : a ≤ B * n) : -B ≤ rdiv a n ∧ rdiv a n ≤ B := by
  obtain ⟨e1, e2⟩ := rdivU_err a n hn
  generalize rdiv a n = q at *
  constructor
  · rcases int_lt_or_ge q (-B) with h | h
    · have : q * n ≤ (-B - 1) * n := Int.mul_le_mul_of_nonneg_right (by omega) (by omega)
      have e : (-B - 1) * n = -(B * n) - n := by grind
      omega
    · exact h
  · rcases int_lt_or_ge B q with h | h
    · have : (B + 1) * n ≤ q * n := Int.mul_le_mul_of_nonneg_right (by omega) (by omega)
      have e : (B + 1) * n = B * n + n := by grind
      omega
    · exact h
/-- Four numbers: their sizes' sum. -/
theorem sum4_le {a b c d R : Int} (hR : 0 ≤ R) (h : a * a + b * b + c * c + d * d ≤ R * R + R) : a + b + c + d ≤ 2 * R := by
  have h1 := sq_nonneg (a - b)
  have h2 := sq_nonneg (a - c)
  have h3 := sq_nonneg (a - d)
  have h4 := sq_nonneg (b - c)
  have h5 := sq_nonneg (b - d)
  have h6 := sq_nonneg (c - d)
  have e : (a + b + c + d) * (a + b + c + d) + ((a - b) * (a - b) + (a - c) * (a - c) + (a - d) * (a - d) + (b - c) * (b - c) + (b - d) * (b - d) + (c - d) * (c - d)) = 4 * (a * a + b * b + c * c + d * d) := by grind
  rcases int_lt_or_ge (2 * R) (a + b + c + d) with h7 | h7
  · have h8 : (2 * R + 1) * (2 * R + 1) ≤ (a + b + c + d) * (a + b + c + d) := Int.mul_le_mul (by omega) (by omega) (by omega) (by omega)
    have e2 : (2 * R + 1) * (2 * R + 1) = 4 * (R * R) + 4 * R + 1 := by grind
    omega
  · exact h7
theorem bound_mul {e q n : Int} (h1 : -n ≤ 2 * e) (h2 : 2 * e ≤ n) : -(n * (q.natAbs : Int)) ≤ 2 * (q * e) ∧ 2 * (q * e) ≤ n * (q.natAbs : Int) := by
  have hn : 0 ≤ n := by omega
  rcases Int.le_total 0 q with h | h
  · have : (q.natAbs : Int) = q := by omega
    rw [this]
    have k1 := Int.mul_le_mul_of_nonneg_left h2 h
    have k2 := Int.mul_le_mul_of_nonneg_left h1 h
    have e1 : q * (2 * e) = 2 * (q * e) := by grind
    have e2 : q * -n = -(n * q) := by grind
    have e3 : q * n = n * q := by grind
    omega
  · have : (q.natAbs : Int) = -q := by omega
    rw [this]
    have k1 := Int.mul_le_mul_of_nonneg_left h2 (show 0 ≤ -q by omega)
    have k2 := Int.mul_le_mul_of_nonneg_left h1 (show 0 ≤ -q by omega)
    have e1 : -q * (2 * e) = -(2 * (q * e)) := by grind
    have e2 : -q * -n = -(n * -q) := by grind
    have e3 : -q * n = n * -q := by grind
    omega
theorem sq_half {e n : Int} (h1 : -n ≤ 2 * e) (h2 : 2 * e ≤ n) : 4 * (e * e) ≤ n * n := by
  have k1 : 0 ≤ (n - 2 * e) * (n + 2 * e) := Int.mul_nonneg (by omega) (by omega)
  have e1 : (n - 2 * e) * (n + 2 * e) = n * n - 4 * (e * e) := by grind
  omega
/-- One turn of Unit's loop: what the squares come to. a: the numbers ahead, q: behind, n: the divisor, R: the root. -/
theorem uni_step {a0 a1 a2 a3 q0 q1 q2 q3 n R : Int} (hn : 0 < n) (hR : 0 ≤ R)
    (u0 : -n ≤ 2 * (q0 * n - a0 * 1073741824) ∧ 2 * (q0 * n - a0 * 1073741824) ≤ n) (u1 : -n ≤ 2 * (q1 * n - a1 * 1073741824) ∧ 2 * (q1 * n - a1 * 1073741824) ≤ n)
    (u2 : -n ≤ 2 * (q2 * n - a2 * 1073741824) ∧ 2 * (q2 * n - a2 * 1073741824) ≤ n) (u3 : -n ≤ 2 * (q3 * n - a3 * 1073741824) ∧ 2 * (q3 * n - a3 * 1073741824) ≤ n)
    (hS : a0 * a0 + a1 * a1 + a2 * a2 + a3 * a3 ≤ R * R + R) :
    -(2147483648 * (n * R)) ≤ (q0 * q0 + q1 * q1 + q2 * q2 + q3 * q3) * (n * n) - 1152921504606846976 * (a0 * a0 + a1 * a1 + a2 * a2 + a3 * a3) ∧
    (q0 * q0 + q1 * q1 + q2 * q2 + q3 * q3) * (n * n) - 1152921504606846976 * (a0 * a0 + a1 * a1 + a2 * a2 + a3 * a3) ≤ 2147483648 * (n * R) + n * n := by
  obtain ⟨e0, h0⟩ : ∃ e, q0 * n - a0 * 1073741824 = e := ⟨_, rfl⟩
  obtain ⟨e1, h1⟩ : ∃ e, q1 * n - a1 * 1073741824 = e := ⟨_, rfl⟩
  obtain ⟨e2, h2⟩ : ∃ e, q2 * n - a2 * 1073741824 = e := ⟨_, rfl⟩
  obtain ⟨e3, h3⟩ : ∃ e, q3 * n - a3 * 1073741824 = e := ⟨_, rfl⟩
  rw [h0] at u0
  rw [h1] at u1
  rw [h2] at u2
  rw [h3] at u3
  have b0 := bound_mul (q := a0) u0.1 u0.2
  have b1 := bound_mul (q := a1) u1.1 u1.2
  have b2 := bound_mul (q := a2) u2.1 u2.2
  have b3 := bound_mul (q := a3) u3.1 u3.2
  have s0 := sq_half u0.1 u0.2
  have s1 := sq_half u1.1 u1.2
  have s2 := sq_half u2.1 u2.2
  have s3 := sq_half u3.1 u3.2
  have t0 := sq_nonneg e0
  have t1 := sq_nonneg e1
  have t2 := sq_nonneg e2
  have t3 := sq_nonneg e3
  have hs : (a0.natAbs : Int) + a1.natAbs + a2.natAbs + a3.natAbs ≤ 2 * R := by
    apply sum4_le hR
    have f : ∀ x : Int, (x.natAbs : Int) * x.natAbs = x * x := fun x => by rw [← Int.natCast_mul, Int.natAbs_mul_self]
    rw [f, f, f, f]; exact hS
  have hm : n * ((a0.natAbs : Int) + a1.natAbs + a2.natAbs + a3.natAbs) ≤ n * (2 * R) := Int.mul_le_mul_of_nonneg_left hs (by omega)
  have hm1 : n * ((a0.natAbs : Int) + a1.natAbs + a2.natAbs + a3.natAbs) = n * a0.natAbs + n * a1.natAbs + n * a2.natAbs + n * a3.natAbs := by grind
  have hm2 : n * (2 * R) = 2 * (n * R) := by grind
  have g0 : q0 * n = a0 * 1073741824 + e0 := by omega
  have g1 : q1 * n = a1 * 1073741824 + e1 := by omega
  have g2 : q2 * n = a2 * 1073741824 + e2 := by omega
  have g3 : q3 * n = a3 * 1073741824 + e3 := by omega
  have ex : (q0 * q0 + q1 * q1 + q2 * q2 + q3 * q3) * (n * n) = (q0 * n) * (q0 * n) + (q1 * n) * (q1 * n) + (q2 * n) * (q2 * n) + (q3 * n) * (q3 * n) := by grind
  have eq : ∀ a e : Int, (a * 1073741824 + e) * (a * 1073741824 + e) = 1152921504606846976 * (a * a) + 2147483648 * (a * e) + e * e := fun a e => by grind
  rw [ex, g0, g1, g2, g3, eq, eq, eq, eq]
  rw [hm1, hm2] at hm
  omega
end Go.Proofs.Ytgfklheepkgedaa
namespace Go.Proofs.Ytgfklheepkgedaa
theorem dot4 (A : Nat → Int) : dotS A A 4 = satV (A 0) * satV (A 0) + satV (A 1) * satV (A 1) + satV (A 2) * satV (A 2) + satV (A 3) * satV (A 3) := by
  simp [dotS]
/-- The first turn: from numbers within Max. -/
theorem uni_first {a0 a1 a2 a3 q0 q1 q2 q3 n R : Int} (hR0 : 0 ≤ R)
    (m0 : -1152921504606846976 ≤ a0 ∧ a0 ≤ 1152921504606846976) (m1 : -1152921504606846976 ≤ a1 ∧ a1 ≤ 1152921504606846976) (m2 : -1152921504606846976 ≤ a2 ∧ a2 ≤ 1152921504606846976) (m3 : -1152921504606846976 ≤ a3 ∧ a3 ≤ 1152921504606846976)
    (hz : ¬ (a0 = 0 ∧ a1 = 0 ∧ a2 = 0 ∧ a3 = 0))
    (r1 : R = 0 ∨ R * R < a0 * a0 + a1 * a1 + a2 * a2 + a3 * a3 + R) (r2 : a0 * a0 + a1 * a1 + a2 * a2 + a3 * a3 ≤ R * R + R)
    (hn : n = if 1152921504606846976 < R then 1152921504606846976 else R) 
    (d0 : q0 = rdiv (a0 * 1073741824) n) (d1 : q1 = rdiv (a1 * 1073741824) n) (d2 : q2 = rdiv (a2 * 1073741824) n) (d3 : q3 = rdiv (a3 * 1073741824) n) :
    0 < n ∧ (-1073741824 ≤ q0 ∧ q0 ≤ 1073741824) ∧ (-1073741824 ≤ q1 ∧ q1 ≤ 1073741824) ∧ (-1073741824 ≤ q2 ∧ q2 ≤ 1073741824) ∧ (-1073741824 ≤ q3 ∧ q3 ≤ 1073741824) ∧
    576460752303423488 ≤ q0 * q0 + q1 * q1 + q2 * q2 + q3 * q3 := by
  have s0 := sq_nonneg a0
  have s1 := sq_nonneg a1
  have s2 := sq_nonneg a2
  have s3 := sq_nonneg a3
  have hR : 1 ≤ R := by
    rcases int_lt_or_ge 0 R with h | h
    · omega
    · exfalso
      obtain rfl : R = 0 := by omega
      have p : ∀ x : Int, x * x = 0 → x = 0 := fun x h => by rcases Int.mul_eq_zero.1 h with h | h <;> exact h
      exact hz ⟨p a0 (by omega), p a1 (by omega), p a2 (by omega), p a3 (by omega)⟩
  have k0 : n ≤ R := by rw [hn]; split <;> omega
  have hn0 : 0 < n := by rw [hn]; split <;> omega
  have le : ∀ a : Int, -1152921504606846976 ≤ a → a ≤ 1152921504606846976 → a * a ≤ R * R + R → -n ≤ a ∧ a ≤ n := fun a h1 h2 h3 => by
    have := abs_le_of_sq hR0 h3
    rw [hn]; split <;> omega
  have l0 := le a0 m0.1 m0.2 (by omega)
  have l1 := le a1 m1.1 m1.2 (by omega)
  have l2 := le a2 m2.1 m2.2 (by omega)
  have l3 := le a3 m3.1 m3.2 (by omega)
  have v0 := rdivU_le (a := a0 * 1073741824) (B := 1073741824) hn0 (by omega) (by omega)
  have v1 := rdivU_le (a := a1 * 1073741824) (B := 1073741824) hn0 (by omega) (by omega)
  have v2 := rdivU_le (a := a2 * 1073741824) (B := 1073741824) hn0 (by omega) (by omega)
  have v3 := rdivU_le (a := a3 * 1073741824) (B := 1073741824) hn0 (by omega) (by omega)
  have u0 := rdivU_err (a0 * 1073741824) n hn0
  have u1 := rdivU_err (a1 * 1073741824) n hn0
  have u2 := rdivU_err (a2 * 1073741824) n hn0
  have u3 := rdivU_err (a3 * 1073741824) n hn0
  rw [← d0] at u0 v0
  rw [← d1] at u1 v1
  rw [← d2] at u2 v2
  rw [← d3] at u3 v3
  refine ⟨hn0, v0, v1, v2, v3, ?_⟩
  have st := (uni_step hn0 hR0 u0 u1 u2 u3 r2).1
  clear u0 u1 u2 u3 d0 d1 d2 d3 v0 v1 v2 v3 l0 l1 l2 l3 le m0 m1 m2 m3 hz s0 s1 s2 s3
  generalize q0 * q0 + q1 * q1 + q2 * q2 + q3 * q3 = T at *
  generalize a0 * a0 + a1 * a1 + a2 * a2 + a3 * a3 = S at *
  rcases int_lt_or_ge T 576460752303423488 with h | h
  · exfalso
    have h1 : T * (n * n) ≤ 576460752303423487 * (n * n) := Int.mul_le_mul_of_nonneg_right (by omega) (sq_nonneg n)
    by_cases hc : 1152921504606846976 < R
    · rw [if_pos hc] at hn
      subst hn
      have h2 : 1152921504606846977 * R ≤ R * R := Int.mul_le_mul_of_nonneg_right (by omega) hR0
      omega
    · rw [if_neg hc] at hn
      obtain rfl : R = n := hn.symm
      have h2 : 0 ≤ (R - 2) * (R - 2) := sq_nonneg _
      have e2 : (R - 2) * (R - 2) = R * R - 4 * R + 4 := by grind
      have h3 : 1 * 1 ≤ R * R := Int.mul_le_mul hR hR (by omega) hR0
      omega
  · exact h
/-- The second turn. -/
theorem uni_second {q0 q1 q2 q3 t0 t1 t2 t3 R : Int} (hR0 : 0 ≤ R)
    (m0 : -1073741824 ≤ q0 ∧ q0 ≤ 1073741824) (m1 : -1073741824 ≤ q1 ∧ q1 ≤ 1073741824) (m2 : -1073741824 ≤ q2 ∧ q2 ≤ 1073741824) (m3 : -1073741824 ≤ q3 ∧ q3 ≤ 1073741824)
    (hT : 576460752303423488 ≤ q0 * q0 + q1 * q1 + q2 * q2 + q3 * q3)
    (r1 : R = 0 ∨ R * R < q0 * q0 + q1 * q1 + q2 * q2 + q3 * q3 + R) (r2 : q0 * q0 + q1 * q1 + q2 * q2 + q3 * q3 ≤ R * R + R)
    (d0 : t0 = rdiv (q0 * 1073741824) R) (d1 : t1 = rdiv (q1 * 1073741824) R) (d2 : t2 = rdiv (q2 * 1073741824) R) (d3 : t3 = rdiv (q3 * 1073741824) R) :
    (0 < R ∧ R ≤ 2147483648) ∧ (-1073741824 ≤ t0 ∧ t0 ≤ 1073741824) ∧ (-1073741824 ≤ t1 ∧ t1 ≤ 1073741824) ∧ (-1073741824 ≤ t2 ∧ t2 ≤ 1073741824) ∧ (-1073741824 ≤ t3 ∧ t3 ≤ 1073741824) ∧
    -4294967296 ≤ t0 * t0 + t1 * t1 + t2 * t2 + t3 * t3 - 1152921504606846976 ∧ t0 * t0 + t1 * t1 + t2 * t2 + t3 * t3 - 1152921504606846976 ≤ 4294967296 := by
  have s0 := sq_nonneg q0
  have s1 := sq_nonneg q1
  have s2 := sq_nonneg q2
  have s3 := sq_nonneg q3
  have w0 := sq_le (by decide) m0.1 m0.2
  have w1 := sq_le (by decide) m1.1 m1.2
  have w2 := sq_le (by decide) m2.1 m2.2
  have w3 := sq_le (by decide) m3.1 m3.2
  have lo : 759250124 < R := by
    rcases int_lt_or_ge 759250124 R with h | h
    · exact h
    · exfalso
      have := sq_le (a := R) (B := 759250124) (by decide) (by omega) h
      omega
  have hi : R ≤ 2147483648 := by
    rcases int_lt_or_ge 2147483648 R with h | h
    · exfalso
      have h2 : 2147483649 * R ≤ R * R := Int.mul_le_mul_of_nonneg_right (by omega) hR0
      omega
    · exact h
  have hn0 : 0 < R := by omega
  have l0 := abs_le_of_sq (a := q0) hR0 (by omega)
  have l1 := abs_le_of_sq (a := q1) hR0 (by omega)
  have l2 := abs_le_of_sq (a := q2) hR0 (by omega)
  have l3 := abs_le_of_sq (a := q3) hR0 (by omega)
  have v0 := rdivU_le (a := q0 * 1073741824) (B := 1073741824) hn0 (by omega) (by omega)
  have v1 := rdivU_le (a := q1 * 1073741824) (B := 1073741824) hn0 (by omega) (by omega)
  have v2 := rdivU_le (a := q2 * 1073741824) (B := 1073741824) hn0 (by omega) (by omega)
  have v3 := rdivU_le (a := q3 * 1073741824) (B := 1073741824) hn0 (by omega) (by omega)
  have u0 := rdivU_err (q0 * 1073741824) R hn0
  have u1 := rdivU_err (q1 * 1073741824) R hn0
  have u2 := rdivU_err (q2 * 1073741824) R hn0
  have u3 := rdivU_err (q3 * 1073741824) R hn0
  rw [← d0] at u0 v0
  rw [← d1] at u1 v1
  rw [← d2] at u2 v2
  rw [← d3] at u3 v3
  refine ⟨⟨hn0, hi⟩, v0, v1, v2, v3, ?_⟩
  obtain ⟨st1, st2⟩ := uni_step hn0 hR0 u0 u1 u2 u3 r2
  clear u0 u1 u2 u3 d0 d1 d2 d3 v0 v1 v2 v3 l0 l1 l2 l3 m0 m1 m2 m3 s0 s1 s2 s3 w0 w1 w2 w3
  generalize t0 * t0 + t1 * t1 + t2 * t2 + t3 * t3 = X at *
  generalize q0 * q0 + q1 * q1 + q2 * q2 + q3 * q3 = T at *
  have hl : 759250125 * R ≤ R * R := Int.mul_le_mul_of_nonneg_right (by omega) hR0
  have r1' : R * R < T + R := by omega
  constructor
  · rcases int_lt_or_ge (X - 1152921504606846976) (-4294967296) with h | h
    · exfalso
      have h1 : X * (R * R) ≤ (1152921504606846976 - 4294967297) * (R * R) := Int.mul_le_mul_of_nonneg_right (by omega) (sq_nonneg R)
      omega
    · exact h
  · rcases int_lt_or_ge 4294967296 (X - 1152921504606846976) with h | h
    · exfalso
      have h1 : (1152921504606846976 + 4294967297) * (R * R) ≤ X * (R * R) := Int.mul_le_mul_of_nonneg_right (by omega) (sq_nonneg R)
      omega
    · exact h
/-- One turn as numbers, where no clamp comes up. -/
theorem hyp_root (A : Nat → Int) (hA : ∀ i, i < 4 → -1152921504606846976 ≤ A i ∧ A i ≤ 1152921504606846976) (R : Int) (hR : ((rootV (dotS A A 4).toNat : Nat) : Int) = R) :
    0 ≤ R ∧ (R = 0 ∨ R * R < A 0 * A 0 + A 1 * A 1 + A 2 * A 2 + A 3 * A 3 + R) ∧ A 0 * A 0 + A 1 * A 1 + A 2 * A 2 + A 3 * A 3 ≤ R * R + R ∧ hypV A 4 = if 1152921504606846976 < R then 1152921504606846976 else R := by
  have e : ∀ i, i < 4 → satV (A i) = A i := fun i hi => satV_id (hA i hi).1 (hA i hi).2
  have hd : dotS A A 4 = A 0 * A 0 + A 1 * A 1 + A 2 * A 2 + A 3 * A 3 := by
    rw [dot4, e 0 (by decide), e 1 (by decide), e 2 (by decide), e 3 (by decide)]
  have w : ∀ i, i < 4 → 0 ≤ A i * A i ∧ A i * A i ≤ 1152921504606846976 * 1152921504606846976 := fun i hi => ⟨sq_nonneg _, sq_le (by decide) (hA i hi).1 (hA i hi).2⟩
  have w0 := w 0 (by decide)
  have w1 := w 1 (by decide)
  have w2 := w 2 (by decide)
  have w3 := w 3 (by decide)
  obtain ⟨a, b, c⟩ := root_int (dotS A A 4) (by rw [hd]; omega) (by rw [hd]; omega) R hR
  rw [hd] at b c
  refine ⟨a, b, c, ?_⟩
  unfold hypV
  rw [hR]
  unfold satV clampV
  rw [if_neg (by decide), if_neg (by omega)]
theorem divV_q (a n : Int) (ha : -1152921504606846976 ≤ a ∧ a ≤ 1152921504606846976) (hn : 0 < n ∧ n ≤ 1152921504606846976) (h : -1152921504606846976 ≤ rdiv (a * 1073741824) n ∧ rdiv (a * 1073741824) n ≤ 1152921504606846976) :
    divV a n 30 = rdiv (a * 1073741824) n ∧ divH a n 30 = false := by
  unfold divV divH byV byH
  rw [satV_id ha.1 ha.2, satV_id (a := n) (by omega) hn.2]
  rw [show ((2 : Int) ^ (30 : Int).toNat) = 1073741824 from rfl]
  rw [if_neg (by decide), if_neg (by omega)]
  refine ⟨satV_id h.1 h.2, ?_⟩
  rw [satH_no ha.1 ha.2, satH_no (a := n) (by omega) hn.2, satH_no h.1 h.2]
  simp; omega
theorem zer4_no {A : Nat → Int} (h : ¬ zer4 A = true) : ¬ (A 0 = 0 ∧ A 1 = 0 ∧ A 2 = 0 ∧ A 3 = 0) := by
  rintro ⟨a, b, c, d⟩
  exact h (by simp [zer4, a, b, c, d])
theorem wide_of {x : Int} (h : -1073741824 ≤ x ∧ x ≤ 1073741824) : -1152921504606846976 ≤ x ∧ x ≤ 1152921504606846976 := by omega
theorem wide_16 {x : Int} (h : -1073741824 ≤ x ∧ x ≤ 1073741824) : -1073741840 ≤ x ∧ x ≤ 1073741840 := by omega
/-- The first turn, once more. -/
theorem uni_one (B : Nat → Int) (hB : ∀ i, i < 4 → -1152921504606846976 ≤ B i ∧ B i ≤ 1152921504606846976) (hz : ¬ (B 0 = 0 ∧ B 1 = 0 ∧ B 2 = 0 ∧ B 3 = 0)) :
    (∀ i, i < 4 → -1073741824 ≤ uniT B i ∧ uniT B i ≤ 1073741824) ∧ 576460752303423488 ≤ uniT B 0 * uniT B 0 + uniT B 1 * uniT B 1 + uniT B 2 * uniT B 2 + uniT B 3 * uniT B 3 ∧
    (uniTH B = decide (1152921504606846976 < ((rootV (dotS B B 4).toNat : Nat) : Int))) := by
  obtain ⟨R, hR⟩ : ∃ R : Int, ((rootV (dotS B B 4).toNat : Nat) : Int) = R := ⟨_, rfl⟩
  obtain ⟨a1, a2, a3, a4⟩ := hyp_root B hB R hR
  obtain ⟨n, hn⟩ : ∃ n, hypV B 4 = n := ⟨_, rfl⟩
  rw [hn] at a4
  obtain ⟨n0, f0, f1, f2, f3, fT⟩ := uni_first a1 (hB 0 (by decide)) (hB 1 (by decide)) (hB 2 (by decide)) (hB 3 (by decide)) hz a2 a3 a4 rfl rfl rfl rfl
  have n1 : n ≤ 1152921504606846976 := by rw [a4]; clear a2 a3 f0 f1 f2 f3 fT; split <;> omega
  have f : ∀ i, i < 4 → -1073741824 ≤ rdiv (B i * 1073741824) n ∧ rdiv (B i * 1073741824) n ≤ 1073741824 := fun i hi => by
    obtain rfl | rfl | rfl | rfl : i = 0 ∨ i = 1 ∨ i = 2 ∨ i = 3 := by clear a2 a3 a4 f0 f1 f2 f3 fT; omega
    · exact f0
    · exact f1
    · exact f2
    · exact f3
  have e : ∀ i, i < 4 → uniT B i = rdiv (B i * 1073741824) n ∧ divH (B i) n 30 = false := fun i hi => by
    unfold uniT
    rw [hn]
    exact divV_q _ _ (hB i hi) ⟨n0, n1⟩ (wide_of (f i hi))
  refine ⟨fun i hi => by rw [(e i hi).1]; exact f i hi, ?_, ?_⟩
  · rw [(e 0 (by decide)).1, (e 1 (by decide)).1, (e 2 (by decide)).1, (e 3 (by decide)).1]; exact fT
  · have hs : ∀ i, i < 4 → satH (B i) = false := fun i hi => satH_no (hB i hi).1 (hB i hi).2
    unfold uniTH hypH
    rw [hn, hR]
    simp only [orB, hs 0 (by decide), hs 1 (by decide), hs 2 (by decide), hs 3 (by decide), (e 0 (by decide)).2, (e 1 (by decide)).2, (e 2 (by decide)).2, (e 3 (by decide)).2, Bool.or_false, Bool.false_or]
    clear a2 a3 a4 f0 f1 f2 f3 fT e f hs hB hz
    unfold satH clampH
    rw [Bool.eq_iff_iff]; simp; omega
/-- The second turn, once more. -/
theorem uni_two (T : Nat → Int) (q : ∀ i, i < 4 → -1073741824 ≤ T i ∧ T i ≤ 1073741824) (hT : 576460752303423488 ≤ T 0 * T 0 + T 1 * T 1 + T 2 * T 2 + T 3 * T 3) :
    (∀ i, i < 4 → -1073741824 ≤ uniT T i ∧ uniT T i ≤ 1073741824) ∧ UnitQ (uniT T) ∧ uniTH T = false := by
  obtain ⟨R2, hR2⟩ : ∃ R : Int, ((rootV (dotS T T 4).toNat : Nat) : Int) = R := ⟨_, rfl⟩
  obtain ⟨b1, b2, b3, b4⟩ := hyp_root T (fun i hi => wide_of (q i hi)) R2 hR2
  obtain ⟨⟨g0, g1⟩, t0, t1, t2, t3, tS1, tS2⟩ := uni_second b1 (q 0 (by decide)) (q 1 (by decide)) (q 2 (by decide)) (q 3 (by decide)) hT b2 b3 rfl rfl rfl rfl
  have g2 : R2 ≤ 1152921504606846976 := by clear b2 b3 b4 t0 t1 t2 t3 tS1 tS2 hT; omega
  have g3 : ¬ 1152921504606846976 < R2 := by clear b2 b3 b4 t0 t1 t2 t3 tS1 tS2 hT; omega
  rw [if_neg g3] at b4
  have g : ∀ i, i < 4 → -1073741824 ≤ rdiv (T i * 1073741824) R2 ∧ rdiv (T i * 1073741824) R2 ≤ 1073741824 := fun i hi => by
    obtain rfl | rfl | rfl | rfl : i = 0 ∨ i = 1 ∨ i = 2 ∨ i = 3 := by clear b2 b3 b4 t0 t1 t2 t3 tS1 tS2 hT; omega
    · exact t0
    · exact t1
    · exact t2
    · exact t3
  have e : ∀ i, i < 4 → uniT T i = rdiv (T i * 1073741824) R2 ∧ divH (T i) R2 30 = false := fun i hi => by
    unfold uniT
    rw [b4]
    exact divV_q _ _ (wide_of (q i hi)) ⟨g0, g2⟩ (wide_of (g i hi))
  refine ⟨fun i hi => by rw [(e i hi).1]; exact g i hi, ⟨fun i hi => by rw [(e i hi).1]; exact wide_16 (g i hi), ?_, ?_⟩, ?_⟩
  · rw [(e 0 (by decide)).1, (e 1 (by decide)).1, (e 2 (by decide)).1, (e 3 (by decide)).1]; exact tS1
  · rw [(e 0 (by decide)).1, (e 1 (by decide)).1, (e 2 (by decide)).1, (e 3 (by decide)).1]; exact tS2
  · have hs : ∀ i, i < 4 → satH (T i) = false := fun i hi => satH_no (wide_of (q i hi)).1 (wide_of (q i hi)).2
    unfold uniTH hypH
    rw [b4, hR2]
    simp only [orB, hs 0 (by decide), hs 1 (by decide), hs 2 (by decide), hs 3 (by decide), (e 0 (by decide)).2, (e 1 (by decide)).2, (e 2 (by decide)).2, (e 3 (by decide)).2, Bool.or_false, Bool.false_or]
    exact satH_no (by clear b2 b3 b4 t0 t1 t2 t3 tS1 tS2 hT; omega) g2
/-- Both turns. -/
theorem uni_both (B : Nat → Int) (hB : ∀ i, i < 4 → -1152921504606846976 ≤ B i ∧ B i ≤ 1152921504606846976) (hz : ¬ (B 0 = 0 ∧ B 1 = 0 ∧ B 2 = 0 ∧ B 3 = 0)) :
    UnitQ (uniT (uniT B)) ∧ (uniTH B = decide (1152921504606846976 < ((rootV (dotS B B 4).toNat : Nat) : Int))) ∧ uniTH (uniT B) = false := by
  obtain ⟨q, hT, h1⟩ := uni_one B hB hz
  obtain ⟨_, u, h2⟩ := uni_two (uniT B) q hT
  exact ⟨u, h1, h2⟩
theorem unit_oneQ : UnitQ oneQ := by
  refine ⟨fun i _ => ?_, by decide, by decide⟩
  unfold oneQ; split <;> omega
/-- Unit's answer is good, whatever is given. -/
theorem unit_good (A : Nat → Int) : UnitQ (uniV A) := by
  unfold uniV
  by_cases h : zer4 (satA A) = true
  · rw [if_pos h]; exact unit_oneQ
  · rw [if_neg h]
    exact (uni_both (satA A) (fun i _ => satV_bd _) (zer4_no h)).1
end Go.Proofs.Ytgfklheepkgedaa
namespace Go.Proofs.Ytgfklheepkgedaa
theorem unitB_iff (A : Nat → Int) : unitB A = true ↔ UnitQ A := by
  unfold unitB UnitQ sum4
  rw [Bool.and_eq_true, Bool.and_eq_true, inQs_iff, decide_eq_true_eq, decide_eq_true_eq]
end Go.Proofs.Ytgfklheepkgedaa
namespace Go.Proofs.Ytgfklheepkgedaa
open Go.RowKit
set_option maxRecDepth 100000
def inBox (S : Nat → Int) (i : Nat) : Bool := decide (-(boxF i) ≤ S i) && decide (S i ≤ boxF i)
def boxQ (S : Nat → Int) : Nat → Bool | 0 => true | n + 1 => boxQ S n && inBox S n
def goodB (S : Nat → Int) : Bool := boxQ S 24 && unitB S
theorem boxQ_iff {S : Nat → Int} : ∀ {n : Nat}, boxQ S n = true ↔ ∀ i, i < n → -(boxF i) ≤ S i ∧ S i ≤ boxF i
  | 0 => by simp [boxQ]
  | n + 1 => by
    simp only [boxQ, Bool.and_eq_true, boxQ_iff, inBox, decide_eq_true_eq]
    constructor
    · rintro ⟨h, h1⟩ i hi
      by_cases e : i = n
      · subst e; exact h1
      · exact h i (by omega)
    · intro h
      exact ⟨fun i hi => h i (by omega), h n (by omega)⟩
theorem boxQ_no {S : Nat → Int} {n : Nat} (h : boxQ S n = false) : ∀ m, n ≤ m → boxQ S m = false := by
  intro m hm
  induction m with
  | zero => have : n = 0 := by omega
            subst this; exact h
  | succ m ih =>
    by_cases e : n = m + 1
    · subst e; exact h
    · simp [boxQ, ih (by omega)]
set_option maxHeartbeats 2000000 in
theorem sgood_any (S : Nat → Int) (w : World) : Calls Try.prog 15 #[.agg (arrv 24 S)] w fun e w' => e = .returned (.bool (goodB S)) ∧ Below w.heap.size w w' := by
  have P0 : Blk (w.alloc (.cells (arrv 24 S) 27)) w.heap.size 27 24 S := Blk.new w _ 24 _
  have P0 := Lib.hid P0
  have B0 := Lib.hid (show Below w.heap.size w (w.alloc (.cells (arrv 24 S) 27)) by (repeat (first | with_reducible exact Below.refl _ _ | with_reducible apply Below.drew | (with_reducible refine below_drewN ?_ _) | (with_reducible refine Below.alloc ?_ (by (try simp) <;> omega) _) | (with_reducible refine Below.setCell ?_ (by (try simp) <;> omega) _))))
  go_enter Try.func15, Try.ntmps15
  go_upto_region 1 with fail
  generalize w.alloc (.cells (arrv 24 S) 27) = W0 at *
  go_wp2_with fail
  refine (bounds_any _).mono ?_; rintro e w1 ⟨rfl, hb1⟩
  have P1 := Lib.hid (P0.out.below hb1)
  have B1 := Lib.hid (Below.after B0.out hb1)
  clear hb1 P0 B0
  go_wp2_with fail
  go_loopw [6] (fun i wr => ∃ k : Nat, k ≤ 24 ∧ i = .int .i64 k ∧ Hid (boxQ S k = true ∧ Below w.heap.size w wr ∧ Blk wr w.heap.size 27 24 S)) (fun i _ => 24 - (intOf i).toNat)
  case atStart => exact ⟨0, by omega, rfl, rfl, B1.out, P1.out⟩
  case round =>
    obtain ⟨k, hk, rfl, R⟩ := hrel
    by_cases hlt : k < 24
    · have d1 : decide ((k : Int) < 24) = true := by simp; omega
      go_upto_region 3 with fail
      refine wp_region_lit ?_
      refine wpList_val (v := ?_) rfl ?_ ?_
      rotate_left
      · (go_simp; (try (first | with_reducible rfl | (constructor <;> with_reducible rfl))))
      (try simp only [Act.put, nA, nB, nC])
      refine wpList_val (v := ?_) rfl ?_ ?_
      rotate_left
      · refine Eq.trans (run_index_vec Try.underlying66 (.tmp 5) (.tmp 6) (by rfl) (by rfl) k (by rfl) hlt) ?_; with_reducible rfl
      (try simp only [Act.put, nA, nB, nC])
      refine wpList_val (v := ?_) rfl ?_ ?_
      rotate_left
      · (go_simp; (try (first | with_reducible rfl | (constructor <;> with_reducible rfl))))
      (try simp only [Act.put, nA, nB, nC])
      refine wpList_val (v := ?_) rfl ?_ ?_
      rotate_left
      · (go_simp; (try (first | with_reducible rfl | (constructor <;> with_reducible rfl))))
      (try simp only [Act.put, nA, nB, nC])
      refine wpList_nil ?_
      have hM := boxF_bd k
      have hin : inBox S k = (decide (-(boxF k) ≤ S k) && decide (S k ≤ boxF k)) := rfl
      obtain ⟨M, hMe⟩ : ∃ M, boxF k = M := ⟨_, rfl⟩
      rw [hMe] at hM hin ⊢
      have hneg := neg_in M (by omega)
      have b0 := R.out.2.2.cell (i := k) hlt
      have k0 : (0 : Int) ≤ (k : Int) := Int.natCast_nonneg _
      have k1 : (k : Int) < 24 := by omega
      obtain ⟨x, hx⟩ : ∃ x, S k = x := ⟨_, rfl⟩
      rw [hx] at b0 hin
      by_cases h1 : M < x
      · have e1 : decide (M < x) = true := by simpa using h1
        have NO := Lib.hid (show goodB S = false by unfold goodB; rw [boxQ_no (n := k + 1) (by simp only [boxQ]; rw [hin, show decide (x ≤ M) = false by simp; omega, Bool.and_false, Bool.and_false]) 24 (by omega), Bool.false_and])
        clear hin hx hMe hM h1
        go_wp2_with fail
        go_ret
        exact ⟨by rw [NO.out]; rfl, R.out.2.1⟩
      · have e1 : decide (M < x) = false := by simpa using h1
        by_cases h2 : x < -M
        · have e2 : decide (x < -M) = true := by simpa using h2
          have NO := Lib.hid (show goodB S = false by unfold goodB; rw [boxQ_no (n := k + 1) (by simp only [boxQ]; rw [hin, show decide (-M ≤ x) = false by simp; omega, Bool.false_and, Bool.and_false]) 24 (by omega), Bool.false_and])
          clear hin hx hMe hM h1 h2
          go_wp2_with fail
          go_ret
          exact ⟨by rw [NO.out]; rfl, R.out.2.1⟩
        · have e2 : decide (x < -M) = false := by simpa using h2
          have OK := Lib.hid (show boxQ S (k + 1) = true by simp only [boxQ]; rw [R.out.1, hin, show decide (x ≤ M) = true by simp; omega, show decide (-M ≤ x) = true by simp; omega]; rfl)
          clear hin hx hMe hM h1 h2
          go_wp2_with fail
          go_roundw
          case rel => exact ⟨k + 1, by omega, by go_num, OK.out, R.out.2.1, R.out.2.2⟩
          case measure => simp [intOf]; omega
    · have hk24 : k = 24 := by omega
      subst hk24
      rw [show ((24 : Nat) : Int) = 24 from rfl]
      have P2 := R.out.2.2
      have B2 := Lib.hid R.out.2.1
      have OK := Lib.hid (show goodB S = unitB S by unfold goodB; rw [R.out.1, Bool.true_and])
      clear R hlt hk P1 B1
      go_wp2_with (first | (refine wpList_load_row rfl 27 _ rfl (w.heap.size) rfl 27 _ (0, 0) _ (P2) Try.underlying27 rfl (ist.trans (by rw [arrv_size])) ?_) | (go_at_call 25; (refine (att_any S _).mono ?_); rintro e w3 ⟨rfl, hb3⟩; have B3 := Lib.hid (Below.after B2.out hb3); clear hb3) | (go_at_call 24; (refine (sunit_any S _).mono ?_); rintro e w4 ⟨rfl, hb4⟩; have B4 := Lib.hid (Below.after B3.out hb4); clear hb4))
      go_ret
      exact ⟨by rw [OK.out]; rfl, B4.out⟩
end Go.Proofs.Ytgfklheepkgedaa
namespace Go.Proofs.Ytgfklheepkgedaa
theorem unitQ_congr {A B : Nat → Int} (h : ∀ i, i < 4 → A i = B i) (u : UnitQ A) : UnitQ B := by
  refine ⟨fun i hi => by rw [← h i hi]; exact u.1 i hi, ?_, ?_⟩
  · rw [← h 0 (by decide), ← h 1 (by decide), ← h 2 (by decide), ← h 3 (by decide)]; exact u.2.1
  · rw [← h 0 (by decide), ← h 1 (by decide), ← h 2 (by decide), ← h 3 (by decide)]; exact u.2.2
theorem clmF_lo (X : Nat → Int) {i : Nat} (h : i < 4) : clmF X i = X i := by unfold clmF; rw [if_pos h]
theorem clampV_box (x M : Int) (hM : 0 ≤ M) : -M ≤ clampV x (-M) M ∧ clampV x (-M) M ≤ M := by
  unfold clampV; rw [if_neg (by omega)]; split
  · omega
  · split <;> omega
theorem boxF_lo {i : Nat} (h : i < 4) : boxF i = 1073741840 := by unfold boxF; rw [if_pos h]
/-- What is clamped, of a Unit's quaternion, is good. -/
theorem clm_good (X : Nat → Int) (u : UnitQ X) : goodB (clmF X) = true := by
  unfold goodB
  rw [Bool.and_eq_true]
  refine ⟨boxQ_iff.2 fun i hi => ?_, (unitB_iff _).2 (unitQ_congr (fun i hi => (clmF_lo X hi).symm) u)⟩
  by_cases h : i < 4
  · rw [clmF_lo X h, boxF_lo h]; exact u.1 i h
  · unfold clmF; rw [if_neg h]; exact clampV_box _ _ (by have := boxF_bd i; omega)
theorem turnd_unit (S Q : Nat → Int) (u : UnitQ Q) : UnitQ (turnd S Q) := unitQ_congr (fun i hi => by unfold turnd; rw [if_pos hi]) u
theorem keep_good (S : Nat → Int) : goodB (keepF S) = true := by
  refine clm_good _ ?_
  unfold keepI
  split
  · rename_i h; exact (unitB_iff S).1 h
  · exact turnd_unit _ _ (unit_good S)
theorem good_parts {K : Nat → Int} (h : goodB K = true) : (∀ i, i < 24 → -(boxF i) ≤ K i ∧ K i ≤ boxF i) ∧ unitB K = true := by
  unfold goodB at h
  rw [Bool.and_eq_true] at h
  exact ⟨boxQ_iff.1 h.1, h.2⟩
theorem clampV_id {x M : Int} (h : -M ≤ x ∧ x ≤ M) : clampV x (-M) M = x ∧ clampH x (-M) M = false := by
  unfold clampV clampH; rw [if_neg (by omega), if_neg (by omega), if_neg (by omega)]; simp; omega
theorem clm_fix {K : Nat → Int} (h : ∀ i, i < 24 → -(boxF i) ≤ K i ∧ K i ≤ boxF i) : (∀ i, i < 24 → clmF K i = K i) ∧ clmH K = false := by
  refine ⟨fun i hi => ?_, orB_noB fun i hi => (clampV_id (h (4 + i) (by omega))).2⟩
  unfold clmF; split
  · rfl
  · exact (clampV_id (h i hi)).1
/-- What is good is kept as it is. -/
theorem keep_fix {K : Nat → Int} (h : goodB K = true) : (∀ i, i < 24 → keepF K i = K i) ∧ keepH K = false := by
  obtain ⟨h1, h2⟩ := good_parts h
  have e : keepI K = K := by unfold keepI; rw [if_pos h2]
  obtain ⟨c1, c2⟩ := clm_fix h1
  unfold keepF keepH
  rw [if_pos h2, e]
  exact ⟨c1, by rw [c2]; rfl⟩
end Go.Proofs.Ytgfklheepkgedaa
namespace Go.Proofs.Ytgfklheepkgedaa
theorem mvX_bd (fr : Nat) (L : Nat → Int) (k : Nat) : -(boxF (fr + k)) ≤ mvX fr L k ∧ mvX fr L k ≤ boxF (fr + k) := by
  have := boxF_pos (fr + k)
  unfold mvX clampV
  repeat' split
  all_goals omega
theorem sub_plain {a b : Int} (ha : -9007199254740992 ≤ a ∧ a ≤ 9007199254740992) (hb : -9007199254740992 ≤ b ∧ b ≤ 9007199254740992) : subV a b = a - b ∧ subH a b = false := by
  unfold subV subH
  rw [satV_id (a := a) (by omega) (by omega), satV_id (a := b) (by omega) (by omega), satV_id (a := a - b) (by omega) (by omega), satH_no (a := a) (by omega) (by omega), satH_no (a := b) (by omega) (by omega), satH_no (a := a - b) (by omega) (by omega)]
  exact ⟨rfl, rfl⟩
/-- It stays good, if no number of the attitude is touched. -/
theorem mv_good {S : Nat → Int} (h : goodB S = true) {fr : Nat} (L : Nat → Int) (n : Nat) (hf : 4 ≤ fr) : goodB (mvS S fr L n) = true := by
  obtain ⟨h1, h2⟩ := good_parts h
  unfold goodB
  rw [Bool.and_eq_true]
  refine ⟨boxQ_iff.2 fun i hi => ?_, (unitB_iff _).2 (unitQ_congr (fun i hi => ?_) ((unitB_iff S).1 h2))⟩
  · rw [mvS_at]
    split
    · next h => have := mvX_bd fr L (i - fr); rw [show fr + (i - fr) = i by omega] at this; exact this
    · exact h1 i hi
  · rw [mvS_at, if_neg (by omega)]
/-- Kept behind it: nothing changes. -/
theorem mv_keep {S : Nat → Int} (h : goodB S = true) {fr : Nat} (L : Nat → Int) (n : Nat) (hf : 4 ≤ fr) : (∀ i, i < 24 → keepF (mvS S fr L n) i = mvS S fr L n i) ∧ keepH (mvS S fr L n) = false := keep_fix (mv_good h L n hf)
end Go.Proofs.Ytgfklheepkgedaa
namespace Go.Proofs.Ytgfklheepkgedaa
open Go.RowKit
set_option maxRecDepth 100000
theorem good_any (f : Nat → Int) (w : World) :
    Calls Try.prog 16 #[.agg (arrv 300 f)] w fun e w' => e = .returned (.bool (!condH f)) ∧ Below w.heap.size w w' := by
  go_enter Try.func16, Try.ntmps16
  have B0 := (Blk.new w 30 300 f).alloc (.cells #[.bool false] 25)
  go_wp2_with (first | (refine wpList_load_row rfl 30 _ rfl w.heap.size rfl 30 _ (0, 0) _ B0 Try.underlying30 rfl (icov.trans (by rw [arrv_size])) ?_) | (go_at_call 31; refine (cond_any ⟨w.heap.size + 1, 0, none⟩ false f _ (by simp) (by simp)).mono ?_; rintro e w1 ⟨rfl, hu1⟩; have k1 := hu1.cellc (h0 := false) (by simp)))
  go_ret
  refine ⟨by simp, ?_⟩
  exact Below.trans (by (repeat (first | with_reducible exact Below.refl _ _ | with_reducible apply Below.drew | (with_reducible refine below_drewN ?_ _) | (with_reducible refine Below.alloc ?_ (by (try simp) <;> omega) _) | (with_reducible refine Below.setCell ?_ (by (try simp) <;> omega) _)))) (Below.mono hu1 (by simp; omega))
end Go.Proofs.Ytgfklheepkgedaa
namespace Go.Proofs.Ytgfklheepkgedaa
section
variable {p : Nat → Int} (hp : DiagF p) {k : Nat} (hk : k < 24) {r : Int} (hr : 1 ≤ r ∧ r ≤ 72057594037927936) (hd : p (276 + k) ≤ 72057594037927936)
theorem byV_bd (x d : Int) : -1152921504606846976 ≤ byV x d ∧ byV x d ≤ 1152921504606846976 := by
  unfold byV; split
  · split
    · omega
    · split <;> omega
  · exact satV_bd _
theorem divV_bd (a b s : Int) : -1152921504606846976 ≤ divV a b s ∧ divV a b s ≤ 1152921504606846976 := by
  unfold divV; split
  · omega
  · exact byV_bd _ _
end
end Go.Proofs.Ytgfklheepkgedaa
namespace Go.Proofs.Ytgfklheepkgedaa
theorem outI_good (O W e : Nat → Int) {j : Nat} (hj : j < 24) : ∀ m, m ≤ j →
    (∀ x, x < 276 → (-1152921504606846976 ≤ O x ∧ O x ≤ 1152921504606846976) → -1152921504606846976 ≤ outI O W e j m x ∧ outI O W e j m x ≤ 1152921504606846976) ∧
    (∀ i, i ≠ j → outI O W e j m (276 + i) = O (276 + i)) ∧ outI O W e j m (276 + j) = stD W e j
  | 0, _ => by
    refine ⟨fun x hx h => ?_, fun i hi => ?_, ?_⟩
    · simp only [outI, upd]; rw [if_neg (by omega)]; exact h
    · simp only [outI, upd]; rw [if_neg (by omega)]
    · simp only [outI, upd, if_true]
  | m + 1, hm => by
    obtain ⟨h1, h2, h3⟩ := outI_good O W e hj m (by omega)
    have hp := pl_lt (i := m) (j := j) (by omega) hj
    refine ⟨fun x hx h => ?_, fun i hi => ?_, ?_⟩
    · simp only [outI, upd]
      split
      · unfold stU; exact divV_bd _ _ _
      · exact h1 x hx h
    · simp only [outI, upd]; rw [if_neg (by omega)]; exact h2 i hi
    · simp only [outI, upd]; rw [if_neg (by omega)]; exact h3
theorem ON_good (W e : Nat → Int) : ∀ n, n ≤ 24 → (∀ x, x < 276 → -1152921504606846976 ≤ ON W e n x ∧ ON W e n x ≤ 1152921504606846976) ∧
    ∀ i, i < 24 → 24 - n ≤ i → 1 ≤ ON W e n (276 + i) ∧ ON W e n (276 + i) ≤ 72057594037927936
  | 0, _ => ⟨fun x _ => by simp only [ON]; omega, fun i h1 h2 => by omega⟩
  | n + 1, hn => by
    obtain ⟨h1, h2⟩ := ON_good W e n (by omega)
    obtain ⟨g1, g2, g3⟩ := outI_good (ON W e n) (WN W e n) e (j := 23 - n) (by omega) (23 - n) (Nat.le_refl _)
    refine ⟨fun x hx => by simp only [ON]; exact g1 x hx (h1 x hx), fun i hi hi2 => ?_⟩
    simp only [ON]
    by_cases e1 : i = 23 - n
    · subst e1
      rw [g3]
      unfold stD
      exact varV_bd _
    · rw [g2 i e1]; exact h2 i hi (by omega)
theorem step_good (f F q : Nat → Int) : condH (stepF f F q) = false := by
  obtain ⟨h1, h2⟩ := ON_good (stepW f F) (stepE f q) 24 (Nat.le_refl _)
  exact good_of h1 fun i hi => h2 i hi (by omega)
end Go.Proofs.Ytgfklheepkgedaa
namespace Go.Proofs.Ytgfklheepkgedaa
open Go.RowKit Go.ChangeShapes
def AllInt (cs : List Value) : Prop := ∀ v, v ∈ cs → ∃ z, v = .int .i64 z ∧ (Lit.int .i64 z).wf = true
section
variable {H : Type} {enc : TypeId × Value → H} {P : Program} {w : World} {base : Nat} {spare : Nat → Bool} {held : Bool}
/-- What reads as t is int64 numbers alone. -/
def Ints (enc : TypeId × Value → H) (P : Program) (w : World) (base : Nat) (spare : Nat → Bool) (held : Bool) (t : TypeId) : Prop :=
  ∀ fuel cs x, DataW.trod enc P w base spare held fuel t cs = some x → AllInt cs ∧ x.2 = []
theorem ints_int {t : TypeId} (hu : P.underlying t = some (.int .i64)) : Ints enc P w base spare held t := by
  intro fuel cs x h
  obtain ⟨n, h1, h2, h3⟩ := DataW.trod_int hu h
  subst h1
  refine ⟨fun v hv => ?_, ?_⟩
  · rw [List.mem_singleton] at hv; exact ⟨n, hv, h3⟩
  · rw [h2]
theorem ints_array {t e : TypeId} {n m : Nat} (hu : P.underlying t = some (.array n e)) (hc : P.cellsOf t = n * m) (hm : P.cellsOf e = m) (he : Ints enc P w base spare held e) : Ints enc P w base spare held t := by
  intro fuel cs x h
  obtain ⟨xs, k, rfl, rfl, hl, hx, hi⟩ := DataW.trod_array hu h
  rw [hc] at hl
  rw [hm] at hi
  refine ⟨fun v hv => ?_, ?_⟩
  · obtain ⟨q, hq, rfl⟩ := List.getElem_of_mem hv
    have hm0 : 0 < m := by
      rcases Nat.eq_zero_or_pos m with h0 | h0
      · subst h0; omega
      · exact h0
    have hqm : q / m < n := by rw [Nat.div_lt_iff_lt_mul hm0]; omega
    have hh := hi (q / m) hqm
    rw [List.getElem?_eq_getElem (by omega)] at hh
    refine (he _ _ _ hh).1 _ ?_
    rw [List.mem_iff_getElem?]
    refine ⟨q % m, ?_⟩
    rw [List.getElem?_take_of_lt (Nat.mod_lt _ hm0), List.getElem?_drop, Nat.mul_comm, Nat.div_add_mod]
    exact List.getElem?_eq_getElem hq
  · show xs.flatMap (·.2) = []
    rw [List.flatMap_eq_nil_iff]
    intro y hy
    obtain ⟨q, hq, rfl⟩ := List.getElem_of_mem hy
    have hh := hi q (by omega)
    rw [List.getElem?_eq_getElem hq] at hh
    exact (he _ _ _ hh).2
/-- A struct of two: U's numbers, then D's. -/
theorem ints_struct2 {t : TypeId} {f0 f1 : Field} {a b : Nat} (hu : P.underlying t = some (.struct #[f0, f1])) (hc : P.cellsOf t = a + b) (o0 : f0.offset = 0) (o1 : f1.offset = a) (c0 : P.cellsOf f0.type = a) (c1 : P.cellsOf f1.type = b)
    (h0 : Ints enc P w base spare held f0.type) (h1 : Ints enc P w base spare held f1.type) : Ints enc P w base spare held t := by
  intro fuel cs x h
  obtain ⟨xs, k, rfl, rfl, hl, hx, hi⟩ := DataW.trod_struct hu h
  rw [hc] at hl
  have hx2 : xs.length = 2 := hx
  have g0 := hi 0 f0 rfl
  have g1 := hi 1 f1 rfl
  rw [List.getElem?_eq_getElem (by omega)] at g0 g1
  have r0 := h0 _ _ _ g0
  have r1 := h1 _ _ _ g1
  refine ⟨fun v hv => ?_, ?_⟩
  · obtain ⟨q, hq, rfl⟩ := List.getElem_of_mem hv
    by_cases hqa : q < a
    · refine r0.1 _ ?_
      rw [List.mem_iff_getElem?]
      refine ⟨q, ?_⟩
      rw [c0, o0, List.drop_zero, List.getElem?_take_of_lt hqa]
      exact List.getElem?_eq_getElem hq
    · refine r1.1 _ ?_
      rw [List.mem_iff_getElem?]
      refine ⟨q - a, ?_⟩
      rw [c1, o1, List.getElem?_take_of_lt (by omega), List.getElem?_drop, show a + (q - a) = q by omega]
      exact List.getElem?_eq_getElem hq
  · show xs.flatMap (·.2) = []
    rw [List.flatMap_eq_nil_iff]
    intro y hy
    obtain ⟨q, hq, rfl⟩ := List.getElem_of_mem hy
    obtain rfl | rfl : q = 0 ∨ q = 1 := by omega
    · exact r0.2
    · exact r1.2
/-- A value of such a type: an aggregate of numbers. -/
theorem open_vec {r : Reach} {b0 n : Nat} {t : TypeId} {v : Value} {d : DataW H} {ps : List MemPlace} (hI : Ints enc P w base spare held t) (hc : P.cellsOf t = n)
    (hu : ∃ u, P.underlying t = some u ∧ (match u with | .struct _ | .array _ _ => true | _ => false) = true) (hval : Value.okWide P w r b0 t v) (hd : DataW.Trod enc P w base spare held t v d ps) :
    ∃ f : Nat → Int, v = .agg (arrv n f) ∧ (∀ i, -9223372036854775808 ≤ f i ∧ f i ≤ 9223372036854775807) ∧ ps = [] := by
  obtain ⟨u, hu1, hu2⟩ := hu
  have hv : ∃ cs, v = .agg cs ∧ cs.size = P.cellsOf t := by
    unfold Value.okWide at hval
    rw [hu1] at hval
    cases u <;> simp at hu2 hval <;> (obtain ⟨cs, h1, h2, _⟩ := hval; exact ⟨cs, h1, h2⟩)
  obtain ⟨cs, rfl, hs⟩ := hv
  rw [hc] at hs
  obtain ⟨fuel, hf⟩ := hd
  obtain ⟨hA, hp⟩ := hI _ _ _ hf
  have hA' : ∀ i, i < n → ∃ z, cs[i]? = some (.int .i64 z) ∧ (Lit.int .i64 z).wf = true := by
    intro i hi
    have hm : cs[i]'(by omega) ∈ (Value.agg cs).cells.toList := by simp [Value.cells]
    obtain ⟨z, hz, hw⟩ := hA _ hm
    exact ⟨z, by rw [Array.getElem?_eq_getElem (by omega), hz], hw⟩
  refine ⟨fun i => if h : i < n then Classical.choose (hA' i h) else 0, ?_, fun i => ?_, hp⟩
  · congr 1
    apply Array.ext_getElem?
    intro i
    by_cases hi : i < n
    · rw [arrv_get hi]
      simp only [dif_pos hi]
      exact (Classical.choose_spec (hA' i hi)).1
    · rw [Array.getElem?_eq_none (by omega), Array.getElem?_eq_none (by rw [arrv_size]; omega)]
  · by_cases hi : i < n
    · simp only [dif_pos hi]
      exact Go.bounds_i64 (Classical.choose_spec (hA' i hi)).2
    · simp only [dif_neg hi]; omega
end
end Go.Proofs.Ytgfklheepkgedaa
namespace Go.Proofs.Ytgfklheepkgedaa
open Go.ChangeShapes Go.WideShapes Go.ChangeAt Go.RowKit
section
variable {H : Type} {enc : TypeId × Value → H} {w : World} {base : Nat} {spare : Nat → Bool} {held : Bool}
theorem cells_of_size {P : Program} {t : TypeId} {n : Nat} (h : (P.info? t).map (·.size) = some n) : P.cellsOf t = n := by
  unfold Program.cellsOf
  cases e : P.info? t with
  | none => rw [e] at h; cases h
  | some i => rw [e] at h; simpa using h
theorem cells_i64 : Try.prog.cellsOf 2 = 1 := cells_of_size (by kernel_rfl)
theorem cells_col : Try.prog.cellsOf 26 = 24 := cells_of_size (by kernel_rfl)
theorem cells_u : Try.prog.cellsOf 28 = 276 := cells_of_size (by kernel_rfl)
theorem cells_cov : Try.prog.cellsOf 30 = 300 := cells_of_size (by kernel_rfl)
theorem ints_i64 : Ints enc Try.prog w base spare held 2 := ints_int Try.underlying2
theorem ints_col : Ints enc Try.prog w base spare held 26 := ints_array (n := 24) (m := 1) Try.underlying26 cells_col cells_i64 ints_i64
theorem ints_u : Ints enc Try.prog w base spare held 28 := ints_array (n := 276) (m := 1) Try.underlying28 cells_u cells_i64 ints_i64
theorem ints_cov : Ints enc Try.prog w base spare held 30 := ints_struct2 (a := 276) (b := 24) Try.underlying30 cells_cov rfl rfl cells_u cells_col ints_u ints_col
theorem cells_st : Try.prog.cellsOf 27 = 24 := cells_of_size (by kernel_rfl)
theorem ints_st : Ints enc Try.prog w base spare held 27 := ints_array (n := 24) (m := 1) Try.underlying27 cells_st cells_i64 ints_i64
set_option maxRecDepth 100000 in
theorem cells_v3 : Try.prog.cellsOf 34 = 3 := cells_of_size (by kernel_rfl)
set_option maxRecDepth 100000 in
theorem ints_v3 : Ints enc Try.prog w base spare held 34 := ints_array (n := 3) (m := 1) Try.underlying34 cells_v3 cells_i64 ints_i64
end
end Go.Proofs.Ytgfklheepkgedaa
