/- Plain numbers: the root, bit by bit (no program here). -/
namespace Go.Proofs.Ytcbklolfibdffaa
/-- One round: the rest, and twice the root so far times a power of two. -/
def rootT (s : Nat × Nat) (k : Nat) : Nat × Nat := if s.1 < s.2 + 4 ^ k then (s.1, s.2 / 2) else (s.1 - (s.2 + 4 ^ k), s.2 / 2 + 4 ^ k)
/-- Behind n of 64 rounds. -/
def rootS (A : Nat) : Nat → Nat × Nat | 0 => (A, 0) | n + 1 => rootT (rootS A n) (63 - n)
def rootV (A : Nat) : Nat := if (rootS A 64).2 < (rootS A 64).1 then (rootS A 64).2 + 1 else (rootS A 64).2
theorem rootT_inv (A m rest r R : Nat) (hr : r = R * 2 ^ (m + 1)) (he : rest + R * R = A) (hlt : A < (R + 2 ^ (m + 1)) * (R + 2 ^ (m + 1))) :
    ∃ R', (rootT (rest, r) m).2 = R' * 2 ^ m ∧ (rootT (rest, r) m).1 + R' * R' = A ∧ A < (R' + 2 ^ m) * (R' + 2 ^ m) := by
  have e4 : 4 ^ m = 2 ^ m * 2 ^ m := by rw [← Nat.mul_pow]
  unfold rootT
  rw [e4]
  rw [Nat.pow_succ] at hr hlt
  generalize 2 ^ m = q at *
  have h2 : r / 2 = R * q := by rw [hr, show R * (q * 2) = (R * q) * 2 from by rw [Nat.mul_assoc], Nat.mul_div_cancel _ (by decide)]
  rw [h2]
  have ex : (R + q) * (R + q) = R * R + 2 * (R * q) + q * q := by grind
  have hr' : r = 2 * (R * q) := by rw [hr]; grind
  by_cases h : rest < r + q * q
  · rw [if_pos h]
    refine ⟨R, rfl, he, ?_⟩
    rw [ex]; omega
  · rw [if_neg h]
    refine ⟨R + q, ?_, ?_, ?_⟩
    · rw [Nat.add_mul]
    · rw [ex]; omega
    · rw [show R + q + q = R + q * 2 from by omega]; exact hlt
theorem rootS_inv (A : Nat) (hA : A < 2 ^ 128) (n : Nat) (hn : n ≤ 64) :
    ∃ R, (rootS A n).2 = R * 2 ^ (64 - n) ∧ (rootS A n).1 + R * R = A ∧ A < (R + 2 ^ (64 - n)) * (R + 2 ^ (64 - n)) := by
  induction n with
  | zero => exact ⟨0, by simp [rootS], by simp [rootS], by rw [Nat.zero_add, ← Nat.pow_add]; exact hA⟩
  | succ n ih =>
    obtain ⟨R, h1, h2, h3⟩ := ih (by omega)
    have e : 64 - n = (63 - n) + 1 := by omega
    rw [e] at h1 h3
    have h := rootT_inv A (63 - n) _ _ R h1 h2 h3
    rw [show 64 - (n + 1) = 63 - n from by omega]
    exact h
theorem rootV_spec (A : Nat) (hA : A < 2 ^ 128) : (rootV A = 0 ∨ rootV A * rootV A < A + rootV A) ∧ A ≤ rootV A * rootV A + rootV A := by
  obtain ⟨R, h1, h2, h3⟩ := rootS_inv A hA 64 (by decide)
  simp only [show 64 - 64 = 0 from rfl, Nat.pow_zero, Nat.mul_one] at h1 h3
  unfold rootV
  rw [h1]
  have ex : (R + 1) * (R + 1) = R * R + 2 * R + 1 := by grind
  by_cases h : R < (rootS A 64).1
  · rw [if_pos h, ex]; omega
  · rw [if_neg h]; omega
/-- All numbers on the way have 128 bits. -/
theorem rootS_bd (A : Nat) (hA : A < 2 ^ 127) (n : Nat) (hn : n < 64) :
    (rootS A n).1 < 2 ^ 127 ∧ (rootS A n).2 + 4 ^ (63 - n) < 2 ^ 128 ∧ (rootS A n).2 < 2 ^ 128 := by
  obtain ⟨R, h1, h2, h3⟩ := rootS_inv A (Nat.lt_trans hA (by decide)) n (by omega)
  have e4 : 4 ^ (63 - n) = 2 ^ (63 - n) * 2 ^ (63 - n) := by rw [← Nat.mul_pow]
  have e2 : 2 ^ (64 - n) = 2 * 2 ^ (63 - n) := by rw [show 64 - n = (63 - n) + 1 from by omega, Nat.pow_succ]; omega
  have hq : 2 ^ (63 - n) ≤ 2 ^ 63 := Nat.pow_le_pow_right (by decide) (by omega)
  rw [e4, h1, e2]
  generalize 2 ^ (63 - n) = q at *
  have hR : R ≤ 13043817825332782212 := by
    rcases Nat.lt_or_ge 13043817825332782212 R with h | h
    · have h4 : 13043817825332782213 * 13043817825332782213 ≤ R * R := Nat.mul_le_mul h h
      have h5 : (2 : Nat) ^ 127 = 170141183460469231731687303715884105728 := by decide
      omega
    · exact h
  have h7 : R * (2 * q) ≤ 13043817825332782212 * (2 * 2 ^ 63) := Nat.mul_le_mul hR (by omega)
  have h8 : q * q ≤ 2 ^ 63 * 2 ^ 63 := Nat.mul_le_mul hq hq
  have h5 : (2 : Nat) ^ 127 = 170141183460469231731687303715884105728 := by decide
  have h9 : (2 : Nat) ^ 128 = 340282366920938463463374607431768211456 := by decide
  have h10 : (2 : Nat) ^ 63 * 2 ^ 63 = 85070591730234615865843651857942052864 := by decide
  have h12 : 13043817825332782212 * (2 * 2 ^ 63) = 240615969168004511538585310832300654592 := by decide
  omega
theorem rootS_end (A : Nat) (hA : A < 2 ^ 127) : (rootS A 64).1 < 2 ^ 127 ∧ (rootS A 64).2 < 2 ^ 64 := by
  obtain ⟨R, h1, h2, h3⟩ := rootS_inv A (Nat.lt_trans hA (by decide)) 64 (by decide)
  simp only [show 64 - 64 = 0 from rfl, Nat.pow_zero, Nat.mul_one] at h1 h3
  rw [h1]
  refine ⟨by omega, ?_⟩
  rcases Nat.lt_or_ge R (2 ^ 64) with h | h
  · exact h
  · have h4 : 2 ^ 64 * 2 ^ 64 ≤ R * R := Nat.mul_le_mul h h
    have h5 : (2 : Nat) ^ 127 = 170141183460469231731687303715884105728 := by decide
    have h6 : (2 : Nat) ^ 64 * 2 ^ 64 = 340282366920938463463374607431768211456 := by decide
    omega
end Go.Proofs.Ytcbklolfibdffaa
