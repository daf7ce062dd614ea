/- Plain numbers: Unit's answer has the length One, whatever is given; and when it raises no flag. No program. -/
import Derived.Test.YtcbklolfibdffaaUnitP
namespace Go.Proofs.Ytcbklolfibdffaa
theorem dot4 (A : Nat → Int) : dotS A A 4 = satV (A 0) * satV (A 0) + satV (A 1) * satV (A 1) + satV (A 2) * satV (A 2) + satV (A 3) * satV (A 3) := by
  simp [dotS]
theorem satV_satV (a : Int) : satV (satV a) = satV a := satV_id (satV_bd a).1 (satV_bd a).2
/-- The root of a sum of squares, as a whole number. -/
theorem root_int (S : Int) (h0 : 0 ≤ S) (h1 : S < 340282366920938463463374607431768211456) (R : Int) (hR : ((rootV S.toNat : Nat) : Int) = R) :
    0 ≤ R ∧ (R = 0 ∨ R * R < S + R) ∧ S ≤ R * R + R := by
  obtain ⟨n, rfl⟩ := Int.eq_ofNat_of_zero_le h0
  have e : (2 : Nat) ^ 128 = 340282366920938463463374607431768211456 := by decide
  obtain ⟨a, b⟩ := rootV_spec n (by omega)
  rw [Int.toNat_natCast] at hR
  generalize rootV n = r at *
  subst hR
  refine ⟨Int.natCast_nonneg _, ?_, ?_⟩
  · rcases a with a | a
    · exact .inl (by exact_mod_cast a)
    · exact .inr (by exact_mod_cast a)
  · exact_mod_cast b
theorem sq_le {a B : Int} (hB : 0 ≤ B) (h1 : -B ≤ a) (h2 : a ≤ B) : a * a ≤ B * B := by
  have k1 : 0 ≤ (B - a) * (B + a) := Int.mul_nonneg (by omega) (by omega)
  have e1 : (B - a) * (B + a) = B * B - a * a := by grind
  omega
theorem le_of_sq_le {a b : Int} (hb : 0 ≤ b) (h : a * a ≤ b * b) : a ≤ b := by
  rcases int_lt_or_ge b a with h1 | h1
  · have : (b + 1) * (b + 1) ≤ a * a := Int.mul_le_mul (by omega) (by omega) (by omega) (by omega)
    have e : (b + 1) * (b + 1) = b * b + 2 * b + 1 := by grind
    omega
  · exact h1
/-- The first turn: from numbers within Max. -/
theorem uni_first {a0 a1 a2 a3 q0 q1 q2 q3 n R : Int} (hR0 : 0 ≤ R)
    (m0 : -1152921504606846976 ≤ a0 ∧ a0 ≤ 1152921504606846976) (m1 : -1152921504606846976 ≤ a1 ∧ a1 ≤ 1152921504606846976) (m2 : -1152921504606846976 ≤ a2 ∧ a2 ≤ 1152921504606846976) (m3 : -1152921504606846976 ≤ a3 ∧ a3 ≤ 1152921504606846976)
    (hz : ¬ (a0 = 0 ∧ a1 = 0 ∧ a2 = 0 ∧ a3 = 0))
    (r1 : R = 0 ∨ R * R < a0 * a0 + a1 * a1 + a2 * a2 + a3 * a3 + R) (r2 : a0 * a0 + a1 * a1 + a2 * a2 + a3 * a3 ≤ R * R + R)
    (hn : n = if 1152921504606846976 < R then 1152921504606846976 else R) 
    (d0 : q0 = rdiv (a0 * 1073741824) n) (d1 : q1 = rdiv (a1 * 1073741824) n) (d2 : q2 = rdiv (a2 * 1073741824) n) (d3 : q3 = rdiv (a3 * 1073741824) n) :
    0 < n ∧ (-1073741824 ≤ q0 ∧ q0 ≤ 1073741824) ∧ (-1073741824 ≤ q1 ∧ q1 ≤ 1073741824) ∧ (-1073741824 ≤ q2 ∧ q2 ≤ 1073741824) ∧ (-1073741824 ≤ q3 ∧ q3 ≤ 1073741824) ∧
    576460752303423488 ≤ q0 * q0 + q1 * q1 + q2 * q2 + q3 * q3 := by
  have s0 := sq_nonneg a0
  have s1 := sq_nonneg a1
  have s2 := sq_nonneg a2
  have s3 := sq_nonneg a3
  have hR : 1 ≤ R := by
    rcases int_lt_or_ge 0 R with h | h
    · omega
    · exfalso
      obtain rfl : R = 0 := by omega
      have p : ∀ x : Int, x * x = 0 → x = 0 := fun x h => by rcases Int.mul_eq_zero.1 h with h | h <;> exact h
      exact hz ⟨p a0 (by omega), p a1 (by omega), p a2 (by omega), p a3 (by omega)⟩
  have k0 : n ≤ R := by rw [hn]; split <;> omega
  have hn0 : 0 < n := by rw [hn]; split <;> omega
  have le : ∀ a : Int, -1152921504606846976 ≤ a → a ≤ 1152921504606846976 → a * a ≤ R * R + R → -n ≤ a ∧ a ≤ n := fun a h1 h2 h3 => by
    have := abs_le_of_sq hR0 h3
    rw [hn]; split <;> omega
  have l0 := le a0 m0.1 m0.2 (by omega)
  have l1 := le a1 m1.1 m1.2 (by omega)
  have l2 := le a2 m2.1 m2.2 (by omega)
  have l3 := le a3 m3.1 m3.2 (by omega)
  have v0 := rdivU_le (a := a0 * 1073741824) (B := 1073741824) hn0 (by omega) (by omega)
  have v1 := rdivU_le (a := a1 * 1073741824) (B := 1073741824) hn0 (by omega) (by omega)
  have v2 := rdivU_le (a := a2 * 1073741824) (B := 1073741824) hn0 (by omega) (by omega)
  have v3 := rdivU_le (a := a3 * 1073741824) (B := 1073741824) hn0 (by omega) (by omega)
  have u0 := rdivU_err (a0 * 1073741824) n hn0
  have u1 := rdivU_err (a1 * 1073741824) n hn0
  have u2 := rdivU_err (a2 * 1073741824) n hn0
  have u3 := rdivU_err (a3 * 1073741824) n hn0
  rw [← d0] at u0 v0
  rw [← d1] at u1 v1
  rw [← d2] at u2 v2
  rw [← d3] at u3 v3
  refine ⟨hn0, v0, v1, v2, v3, ?_⟩
  have st := (uni_step hn0 hR0 u0 u1 u2 u3 r2).1
  clear u0 u1 u2 u3 d0 d1 d2 d3 v0 v1 v2 v3 l0 l1 l2 l3 le m0 m1 m2 m3 hz s0 s1 s2 s3
  generalize q0 * q0 + q1 * q1 + q2 * q2 + q3 * q3 = T at *
  generalize a0 * a0 + a1 * a1 + a2 * a2 + a3 * a3 = S at *
  rcases int_lt_or_ge T 576460752303423488 with h | h
  · exfalso
    have h1 : T * (n * n) ≤ 576460752303423487 * (n * n) := Int.mul_le_mul_of_nonneg_right (by omega) (sq_nonneg n)
    by_cases hc : 1152921504606846976 < R
    · rw [if_pos hc] at hn
      subst hn
      have h2 : 1152921504606846977 * R ≤ R * R := Int.mul_le_mul_of_nonneg_right (by omega) hR0
      omega
    · rw [if_neg hc] at hn
      obtain rfl : R = n := hn.symm
      have h2 : 0 ≤ (R - 2) * (R - 2) := sq_nonneg _
      have e2 : (R - 2) * (R - 2) = R * R - 4 * R + 4 := by grind
      have h3 : 1 * 1 ≤ R * R := Int.mul_le_mul hR hR (by omega) hR0
      omega
  · exact h
/-- The second turn. -/
theorem uni_second {q0 q1 q2 q3 t0 t1 t2 t3 R : Int} (hR0 : 0 ≤ R)
    (m0 : -1073741824 ≤ q0 ∧ q0 ≤ 1073741824) (m1 : -1073741824 ≤ q1 ∧ q1 ≤ 1073741824) (m2 : -1073741824 ≤ q2 ∧ q2 ≤ 1073741824) (m3 : -1073741824 ≤ q3 ∧ q3 ≤ 1073741824)
    (hT : 576460752303423488 ≤ q0 * q0 + q1 * q1 + q2 * q2 + q3 * q3)
    (r1 : R = 0 ∨ R * R < q0 * q0 + q1 * q1 + q2 * q2 + q3 * q3 + R) (r2 : q0 * q0 + q1 * q1 + q2 * q2 + q3 * q3 ≤ R * R + R)
    (d0 : t0 = rdiv (q0 * 1073741824) R) (d1 : t1 = rdiv (q1 * 1073741824) R) (d2 : t2 = rdiv (q2 * 1073741824) R) (d3 : t3 = rdiv (q3 * 1073741824) R) :
    (0 < R ∧ R ≤ 2147483648) ∧ (-1073741824 ≤ t0 ∧ t0 ≤ 1073741824) ∧ (-1073741824 ≤ t1 ∧ t1 ≤ 1073741824) ∧ (-1073741824 ≤ t2 ∧ t2 ≤ 1073741824) ∧ (-1073741824 ≤ t3 ∧ t3 ≤ 1073741824) ∧
    -4294967296 ≤ t0 * t0 + t1 * t1 + t2 * t2 + t3 * t3 - 1152921504606846976 ∧ t0 * t0 + t1 * t1 + t2 * t2 + t3 * t3 - 1152921504606846976 ≤ 4294967296 := by
  have s0 := sq_nonneg q0
  have s1 := sq_nonneg q1
  have s2 := sq_nonneg q2
  have s3 := sq_nonneg q3
  have w0 := sq_le (by decide) m0.1 m0.2
  have w1 := sq_le (by decide) m1.1 m1.2
  have w2 := sq_le (by decide) m2.1 m2.2
  have w3 := sq_le (by decide) m3.1 m3.2
  have lo : 759250124 < R := by
    rcases int_lt_or_ge 759250124 R with h | h
    · exact h
    · exfalso
      have := sq_le (a := R) (B := 759250124) (by decide) (by omega) h
      omega
  have hi : R ≤ 2147483648 := by
    rcases int_lt_or_ge 2147483648 R with h | h
    · exfalso
      have h2 : 2147483649 * R ≤ R * R := Int.mul_le_mul_of_nonneg_right (by omega) hR0
      omega
    · exact h
  have hn0 : 0 < R := by omega
  have l0 := abs_le_of_sq (a := q0) hR0 (by omega)
  have l1 := abs_le_of_sq (a := q1) hR0 (by omega)
  have l2 := abs_le_of_sq (a := q2) hR0 (by omega)
  have l3 := abs_le_of_sq (a := q3) hR0 (by omega)
  have v0 := rdivU_le (a := q0 * 1073741824) (B := 1073741824) hn0 (by omega) (by omega)
  have v1 := rdivU_le (a := q1 * 1073741824) (B := 1073741824) hn0 (by omega) (by omega)
  have v2 := rdivU_le (a := q2 * 1073741824) (B := 1073741824) hn0 (by omega) (by omega)
  have v3 := rdivU_le (a := q3 * 1073741824) (B := 1073741824) hn0 (by omega) (by omega)
  have u0 := rdivU_err (q0 * 1073741824) R hn0
  have u1 := rdivU_err (q1 * 1073741824) R hn0
  have u2 := rdivU_err (q2 * 1073741824) R hn0
  have u3 := rdivU_err (q3 * 1073741824) R hn0
  rw [← d0] at u0 v0
  rw [← d1] at u1 v1
  rw [← d2] at u2 v2
  rw [← d3] at u3 v3
  refine ⟨⟨hn0, hi⟩, v0, v1, v2, v3, ?_⟩
  obtain ⟨st1, st2⟩ := uni_step hn0 hR0 u0 u1 u2 u3 r2
  clear u0 u1 u2 u3 d0 d1 d2 d3 v0 v1 v2 v3 l0 l1 l2 l3 m0 m1 m2 m3 s0 s1 s2 s3 w0 w1 w2 w3
  generalize t0 * t0 + t1 * t1 + t2 * t2 + t3 * t3 = X at *
  generalize q0 * q0 + q1 * q1 + q2 * q2 + q3 * q3 = T at *
  have hl : 759250125 * R ≤ R * R := Int.mul_le_mul_of_nonneg_right (by omega) hR0
  have r1' : R * R < T + R := by omega
  constructor
  · rcases int_lt_or_ge (X - 1152921504606846976) (-4294967296) with h | h
    · exfalso
      have h1 : X * (R * R) ≤ (1152921504606846976 - 4294967297) * (R * R) := Int.mul_le_mul_of_nonneg_right (by omega) (sq_nonneg R)
      omega
    · exact h
  · rcases int_lt_or_ge 4294967296 (X - 1152921504606846976) with h | h
    · exfalso
      have h1 : (1152921504606846976 + 4294967297) * (R * R) ≤ X * (R * R) := Int.mul_le_mul_of_nonneg_right (by omega) (sq_nonneg R)
      omega
    · exact h
/-- One turn as numbers, where no clamp comes up. -/
theorem hyp_root (A : Nat → Int) (hA : ∀ i, i < 4 → -1152921504606846976 ≤ A i ∧ A i ≤ 1152921504606846976) (R : Int) (hR : ((rootV (dotS A A 4).toNat : Nat) : Int) = R) :
    0 ≤ R ∧ (R = 0 ∨ R * R < A 0 * A 0 + A 1 * A 1 + A 2 * A 2 + A 3 * A 3 + R) ∧ A 0 * A 0 + A 1 * A 1 + A 2 * A 2 + A 3 * A 3 ≤ R * R + R ∧ hypV A 4 = if 1152921504606846976 < R then 1152921504606846976 else R := by
  have e : ∀ i, i < 4 → satV (A i) = A i := fun i hi => satV_id (hA i hi).1 (hA i hi).2
  have hd : dotS A A 4 = A 0 * A 0 + A 1 * A 1 + A 2 * A 2 + A 3 * A 3 := by
    rw [dot4, e 0 (by decide), e 1 (by decide), e 2 (by decide), e 3 (by decide)]
  have w : ∀ i, i < 4 → 0 ≤ A i * A i ∧ A i * A i ≤ 1152921504606846976 * 1152921504606846976 := fun i hi => ⟨sq_nonneg _, sq_le (by decide) (hA i hi).1 (hA i hi).2⟩
  have w0 := w 0 (by decide)
  have w1 := w 1 (by decide)
  have w2 := w 2 (by decide)
  have w3 := w 3 (by decide)
  obtain ⟨a, b, c⟩ := root_int (dotS A A 4) (by rw [hd]; omega) (by rw [hd]; omega) R hR
  rw [hd] at b c
  refine ⟨a, b, c, ?_⟩
  unfold hypV
  rw [hR]
  unfold satV clampV
  rw [if_neg (by decide), if_neg (by omega)]
theorem divV_q (a n : Int) (ha : -1152921504606846976 ≤ a ∧ a ≤ 1152921504606846976) (hn : 0 < n ∧ n ≤ 1152921504606846976) (h : -1152921504606846976 ≤ rdiv (a * 1073741824) n ∧ rdiv (a * 1073741824) n ≤ 1152921504606846976) :
    divV a n 30 = rdiv (a * 1073741824) n ∧ divH a n 30 = false := by
  unfold divV divH byV byH
  rw [satV_id ha.1 ha.2, satV_id (a := n) (by omega) hn.2]
  rw [show ((2 : Int) ^ (30 : Int).toNat) = 1073741824 from rfl]
  rw [if_neg (by decide), if_neg (by omega)]
  refine ⟨satV_id h.1 h.2, ?_⟩
  rw [satH_no ha.1 ha.2, satH_no (a := n) (by omega) hn.2, satH_no h.1 h.2]
  simp; omega
theorem zer4_no {A : Nat → Int} (h : ¬ zer4 A = true) : ¬ (A 0 = 0 ∧ A 1 = 0 ∧ A 2 = 0 ∧ A 3 = 0) := by
  rintro ⟨a, b, c, d⟩
  exact h (by simp [zer4, a, b, c, d])
theorem wide_of {x : Int} (h : -1073741824 ≤ x ∧ x ≤ 1073741824) : -1152921504606846976 ≤ x ∧ x ≤ 1152921504606846976 := by omega
theorem wide_16 {x : Int} (h : -1073741824 ≤ x ∧ x ≤ 1073741824) : -1073741840 ≤ x ∧ x ≤ 1073741840 := by omega
/-- The first turn, once more. -/
theorem uni_one (B : Nat → Int) (hB : ∀ i, i < 4 → -1152921504606846976 ≤ B i ∧ B i ≤ 1152921504606846976) (hz : ¬ (B 0 = 0 ∧ B 1 = 0 ∧ B 2 = 0 ∧ B 3 = 0)) :
    (∀ i, i < 4 → -1073741824 ≤ uniT B i ∧ uniT B i ≤ 1073741824) ∧ 576460752303423488 ≤ uniT B 0 * uniT B 0 + uniT B 1 * uniT B 1 + uniT B 2 * uniT B 2 + uniT B 3 * uniT B 3 ∧
    (uniTH B = decide (1152921504606846976 < ((rootV (dotS B B 4).toNat : Nat) : Int))) := by
  obtain ⟨R, hR⟩ : ∃ R : Int, ((rootV (dotS B B 4).toNat : Nat) : Int) = R := ⟨_, rfl⟩
  obtain ⟨a1, a2, a3, a4⟩ := hyp_root B hB R hR
  obtain ⟨n, hn⟩ : ∃ n, hypV B 4 = n := ⟨_, rfl⟩
  rw [hn] at a4
  obtain ⟨n0, f0, f1, f2, f3, fT⟩ := uni_first a1 (hB 0 (by decide)) (hB 1 (by decide)) (hB 2 (by decide)) (hB 3 (by decide)) hz a2 a3 a4 rfl rfl rfl rfl
  have n1 : n ≤ 1152921504606846976 := by rw [a4]; clear a2 a3 f0 f1 f2 f3 fT; split <;> omega
  have f : ∀ i, i < 4 → -1073741824 ≤ rdiv (B i * 1073741824) n ∧ rdiv (B i * 1073741824) n ≤ 1073741824 := fun i hi => by
    obtain rfl | rfl | rfl | rfl : i = 0 ∨ i = 1 ∨ i = 2 ∨ i = 3 := by clear a2 a3 a4 f0 f1 f2 f3 fT; omega
    · exact f0
    · exact f1
    · exact f2
    · exact f3
  have e : ∀ i, i < 4 → uniT B i = rdiv (B i * 1073741824) n ∧ divH (B i) n 30 = false := fun i hi => by
    unfold uniT
    rw [hn]
    exact divV_q _ _ (hB i hi) ⟨n0, n1⟩ (wide_of (f i hi))
  refine ⟨fun i hi => by rw [(e i hi).1]; exact f i hi, ?_, ?_⟩
  · rw [(e 0 (by decide)).1, (e 1 (by decide)).1, (e 2 (by decide)).1, (e 3 (by decide)).1]; exact fT
  · have hs : ∀ i, i < 4 → satH (B i) = false := fun i hi => satH_no (hB i hi).1 (hB i hi).2
    unfold uniTH hypH
    rw [hn, hR]
    simp only [orB, hs 0 (by decide), hs 1 (by decide), hs 2 (by decide), hs 3 (by decide), (e 0 (by decide)).2, (e 1 (by decide)).2, (e 2 (by decide)).2, (e 3 (by decide)).2, Bool.or_false, Bool.false_or]
    clear a2 a3 a4 f0 f1 f2 f3 fT e f hs hB hz
    unfold satH clampH
    rw [Bool.eq_iff_iff]; simp; omega
/-- The second turn, once more. -/
theorem uni_two (T : Nat → Int) (q : ∀ i, i < 4 → -1073741824 ≤ T i ∧ T i ≤ 1073741824) (hT : 576460752303423488 ≤ T 0 * T 0 + T 1 * T 1 + T 2 * T 2 + T 3 * T 3) :
    (∀ i, i < 4 → -1073741824 ≤ uniT T i ∧ uniT T i ≤ 1073741824) ∧ UnitQ (uniT T) ∧ uniTH T = false := by
  obtain ⟨R2, hR2⟩ : ∃ R : Int, ((rootV (dotS T T 4).toNat : Nat) : Int) = R := ⟨_, rfl⟩
  obtain ⟨b1, b2, b3, b4⟩ := hyp_root T (fun i hi => wide_of (q i hi)) R2 hR2
  obtain ⟨⟨g0, g1⟩, t0, t1, t2, t3, tS1, tS2⟩ := uni_second b1 (q 0 (by decide)) (q 1 (by decide)) (q 2 (by decide)) (q 3 (by decide)) hT b2 b3 rfl rfl rfl rfl
  have g2 : R2 ≤ 1152921504606846976 := by clear b2 b3 b4 t0 t1 t2 t3 tS1 tS2 hT; omega
  have g3 : ¬ 1152921504606846976 < R2 := by clear b2 b3 b4 t0 t1 t2 t3 tS1 tS2 hT; omega
  rw [if_neg g3] at b4
  have g : ∀ i, i < 4 → -1073741824 ≤ rdiv (T i * 1073741824) R2 ∧ rdiv (T i * 1073741824) R2 ≤ 1073741824 := fun i hi => by
    obtain rfl | rfl | rfl | rfl : i = 0 ∨ i = 1 ∨ i = 2 ∨ i = 3 := by clear b2 b3 b4 t0 t1 t2 t3 tS1 tS2 hT; omega
    · exact t0
    · exact t1
    · exact t2
    · exact t3
  have e : ∀ i, i < 4 → uniT T i = rdiv (T i * 1073741824) R2 ∧ divH (T i) R2 30 = false := fun i hi => by
    unfold uniT
    rw [b4]
    exact divV_q _ _ (wide_of (q i hi)) ⟨g0, g2⟩ (wide_of (g i hi))
  refine ⟨fun i hi => by rw [(e i hi).1]; exact g i hi, ⟨fun i hi => by rw [(e i hi).1]; exact wide_16 (g i hi), ?_, ?_⟩, ?_⟩
  · rw [(e 0 (by decide)).1, (e 1 (by decide)).1, (e 2 (by decide)).1, (e 3 (by decide)).1]; exact tS1
  · rw [(e 0 (by decide)).1, (e 1 (by decide)).1, (e 2 (by decide)).1, (e 3 (by decide)).1]; exact tS2
  · have hs : ∀ i, i < 4 → satH (T i) = false := fun i hi => satH_no (wide_of (q i hi)).1 (wide_of (q i hi)).2
    unfold uniTH hypH
    rw [b4, hR2]
    simp only [orB, hs 0 (by decide), hs 1 (by decide), hs 2 (by decide), hs 3 (by decide), (e 0 (by decide)).2, (e 1 (by decide)).2, (e 2 (by decide)).2, (e 3 (by decide)).2, Bool.or_false, Bool.false_or]
    exact satH_no (by clear b2 b3 b4 t0 t1 t2 t3 tS1 tS2 hT; omega) g2
/-- Both turns. -/
theorem uni_both (B : Nat → Int) (hB : ∀ i, i < 4 → -1152921504606846976 ≤ B i ∧ B i ≤ 1152921504606846976) (hz : ¬ (B 0 = 0 ∧ B 1 = 0 ∧ B 2 = 0 ∧ B 3 = 0)) :
    UnitQ (uniT (uniT B)) ∧ (uniTH B = decide (1152921504606846976 < ((rootV (dotS B B 4).toNat : Nat) : Int))) ∧ uniTH (uniT B) = false := by
  obtain ⟨q, hT, h1⟩ := uni_one B hB hz
  obtain ⟨_, u, h2⟩ := uni_two (uniT B) q hT
  exact ⟨u, h1, h2⟩
theorem unit_oneQ : UnitQ oneQ := by
  refine ⟨fun i _ => ?_, by decide, by decide⟩
  unfold oneQ; split <;> omega
/-- Unit's answer is good, whatever is given. -/
theorem unit_good (A : Nat → Int) : UnitQ (uniV A) := by
  unfold uniV
  by_cases h : zer4 (satA A) = true
  · rw [if_pos h]; exact unit_oneQ
  · rw [if_neg h]
    exact (uni_both (satA A) (fun i _ => satV_bd _) (zer4_no h)).1
/-- Of numbers up to 2^59 Unit raises no flag. -/
theorem unit_calm (A : Nat → Int) (hA : ∀ i, i < 4 → -576460752303423488 ≤ A i ∧ A i ≤ 576460752303423488) : uniH A = false := by
  have hs : ∀ i, i < 4 → satH (A i) = false := fun i hi => satH_no (by have := hA i hi; omega) (by have := hA i hi; omega)
  have hv : ∀ i, i < 4 → satA A i = A i := fun i hi => satV_id (by have := hA i hi; omega) (by have := hA i hi; omega)
  unfold uniH
  simp only [orB, hs 0 (by decide), hs 1 (by decide), hs 2 (by decide), hs 3 (by decide), Bool.or_false, Bool.false_or]
  by_cases h : zer4 (satA A) = true
  · rw [if_pos h]
  · rw [if_neg h]
    obtain ⟨_, h4, h5⟩ := uni_both (satA A) (fun i _ => satV_bd _) (zer4_no h)
    rw [h4, h5]
    obtain ⟨R, hR⟩ : ∃ R : Int, ((rootV (dotS (satA A) (satA A) 4).toNat : Nat) : Int) = R := ⟨_, rfl⟩
    obtain ⟨a1, a2, a3, _⟩ := hyp_root (satA A) (fun i _ => satV_bd _) R hR
    rw [hR]
    rw [hv 0 (by decide), hv 1 (by decide), hv 2 (by decide), hv 3 (by decide)] at a2
    have w : ∀ i, i < 4 → A i * A i ≤ 576460752303423488 * 576460752303423488 := fun i hi => sq_le (by decide) (hA i hi).1 (hA i hi).2
    have w0 := w 0 (by decide)
    have w1 := w 1 (by decide)
    have w2 := w 2 (by decide)
    have w3 := w 3 (by decide)
    have : ¬ 1152921504606846976 < R := by
      intro hc
      have h2 : 1152921504606846977 * R ≤ R * R := Int.mul_le_mul_of_nonneg_right (by omega) a1
      omega
    simp; omega
end Go.Proofs.Ytcbklolfibdffaa
