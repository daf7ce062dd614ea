/- Contracts of the program's functions and plain laws, part 6: they hold for all arguments. -/
import Derived.Test.YtpoiobgpggiebaaQ05
import Derived.Test.YtpoiobgpggiebaaQ04
import Derived.ChangeKeysEq
import Derived.Laws.StructEq
import Derived.Deep.Cut
import Derived.Deep.CutRange
/- Plain numbers: Unit's answer has the length One, whatever is given; and when it raises no flag. No program. -/
namespace Go.Proofs.Ytpoiobgpggiebaa
theorem dot4 (A : Nat → Int) : dotS A A 4 = satV (A 0) * satV (A 0) + satV (A 1) * satV (A 1) + satV (A 2) * satV (A 2) + satV (A 3) * satV (A 3) := by
  simp [dotS]
/-- The root of a sum of squares, as a whole number. -/
theorem root_int (S : Int) (h0 : 0 ≤ S) (h1 : S < 340282366920938463463374607431768211456) (R : Int) (hR : ((rootV S.toNat : Nat) : Int) = R) :
    0 ≤ R ∧ (R = 0 ∨ R * R < S + R) ∧ S ≤ R * R + R := by
  obtain ⟨n, rfl⟩ := Int.eq_ofNat_of_zero_le h0
  have e : (2 : Nat) ^ 128 = 340282366920938463463374607431768211456 := by decide
  obtain ⟨a, b⟩ := rootV_spec n (by omega)
  rw [Int.toNat_natCast] at hR
  generalize rootV n = r at *
  subst hR
  refine ⟨Int.natCast_nonneg _, ?_, ?_⟩
  · rcases a with a | a
    · exact .inl (by exact_mod_cast a)
    · exact .inr (by exact_mod_cast a)
  · exact_mod_cast b
theorem sq_le {a B : Int} (hB : 0 ≤ B) (h1 : -B ≤ a) (h2 : a ≤ B) : a * a ≤ B * B := by
  have k1 : 0 ≤ (B - a) * (B + a) := Int.mul_nonneg (by omega) (by omega)
  have e1 : (B - a) * (B + a) = B * B - a * a := by grind
  omega
/-- The first turn: from numbers within Max. -/
theorem uni_first {a0 a1 a2 a3 q0 q1 q2 q3 n R : Int} (hR0 : 0 ≤ R)
    (m0 : -1152921504606846976 ≤ a0 ∧ a0 ≤ 1152921504606846976) (m1 : -1152921504606846976 ≤ a1 ∧ a1 ≤ 1152921504606846976) (m2 : -1152921504606846976 ≤ a2 ∧ a2 ≤ 1152921504606846976) (m3 : -1152921504606846976 ≤ a3 ∧ a3 ≤ 1152921504606846976)
    (hz : ¬ (a0 = 0 ∧ a1 = 0 ∧ a2 = 0 ∧ a3 = 0))
    (r1 : R = 0 ∨ R * R < a0 * a0 + a1 * a1 + a2 * a2 + a3 * a3 + R) (r2 : a0 * a0 + a1 * a1 + a2 * a2 + a3 * a3 ≤ R * R + R)
    (hn : n = if 1152921504606846976 < R then 1152921504606846976 else R) 
    (d0 : q0 = rdiv (a0 * 1073741824) n) (d1 : q1 = rdiv (a1 * 1073741824) n) (d2 : q2 = rdiv (a2 * 1073741824) n) (d3 : q3 = rdiv (a3 * 1073741824) n) :
    0 < n ∧ (-1073741824 ≤ q0 ∧ q0 ≤ 1073741824) ∧ (-1073741824 ≤ q1 ∧ q1 ≤ 1073741824) ∧ (-1073741824 ≤ q2 ∧ q2 ≤ 1073741824) ∧ (-1073741824 ≤ q3 ∧ q3 ≤ 1073741824) ∧
    576460752303423488 ≤ q0 * q0 + q1 * q1 + q2 * q2 + q3 * q3 := by
  have s0 := sq_nonneg a0
  have s1 := sq_nonneg a1
  have s2 := sq_nonneg a2
  have s3 := sq_nonneg a3
  have hR : 1 ≤ R := by
    rcases int_lt_or_ge 0 R with h | h
    · omega
    · exfalso
      obtain rfl : R = 0 := by omega
      have p : ∀ x : Int, x * x = 0 → x = 0 := fun x h => by rcases Int.mul_eq_zero.1 h with h | h <;> exact h
      exact hz ⟨p a0 (by omega), p a1 (by omega), p a2 (by omega), p a3 (by omega)⟩
  have k0 : n ≤ R := by rw [hn]; split <;> omega
  have hn0 : 0 < n := by rw [hn]; split <;> omega
  have le : ∀ a : Int, -1152921504606846976 ≤ a → a ≤ 1152921504606846976 → a * a ≤ R * R + R → -n ≤ a ∧ a ≤ n := fun a h1 h2 h3 => by
    have := abs_le_of_sq hR0 h3
    rw [hn]; split <;> omega
  have l0 := le a0 m0.1 m0.2 (by omega)
  have l1 := le a1 m1.1 m1.2 (by omega)
  have l2 := le a2 m2.1 m2.2 (by omega)
  have l3 := le a3 m3.1 m3.2 (by omega)
  have v0 := rdivU_le (a := a0 * 1073741824) (B := 1073741824) hn0 (by omega) (by omega)
  have v1 := rdivU_le (a := a1 * 1073741824) (B := 1073741824) hn0 (by omega) (by omega)
  have v2 := rdivU_le (a := a2 * 1073741824) (B := 1073741824) hn0 (by omega) (by omega)
  have v3 := rdivU_le (a := a3 * 1073741824) (B := 1073741824) hn0 (by omega) (by omega)
  have u0 := rdivU_err (a0 * 1073741824) n hn0
  have u1 := rdivU_err (a1 * 1073741824) n hn0
  have u2 := rdivU_err (a2 * 1073741824) n hn0
  have u3 := rdivU_err (a3 * 1073741824) n hn0
  rw [← d0] at u0 v0
  rw [← d1] at u1 v1
  rw [← d2] at u2 v2
  rw [← d3] at u3 v3
  refine ⟨hn0, v0, v1, v2, v3, ?_⟩
  have st := (uni_step hn0 hR0 u0 u1 u2 u3 r2).1
  clear u0 u1 u2 u3 d0 d1 d2 d3 v0 v1 v2 v3 l0 l1 l2 l3 le m0 m1 m2 m3 hz s0 s1 s2 s3
  generalize q0 * q0 + q1 * q1 + q2 * q2 + q3 * q3 = T at *
  generalize a0 * a0 + a1 * a1 + a2 * a2 + a3 * a3 = S at *
  rcases int_lt_or_ge T 576460752303423488 with h | h
  · exfalso
    have h1 : T * (n * n) ≤ 576460752303423487 * (n * n) := Int.mul_le_mul_of_nonneg_right (by omega) (sq_nonneg n)
    by_cases hc : 1152921504606846976 < R
    · rw [if_pos hc] at hn
      subst hn
      have h2 : 1152921504606846977 * R ≤ R * R := Int.mul_le_mul_of_nonneg_right (by omega) hR0
      omega
    · rw [if_neg hc] at hn
      obtain rfl : R = n := hn.symm
      have h2 : 0 ≤ (R - 2) * (R - 2) := sq_nonneg _
      have e2 : (R - 2) * (R - 2) = R * R - 4 * R + 4 := by grind
      have h3 : 1 * 1 ≤ R * R := Int.mul_le_mul hR hR (by omega) hR0
      omega
  · exact h
/-- The second turn. -/
theorem uni_second {q0 q1 q2 q3 t0 t1 t2 t3 R : Int} (hR0 : 0 ≤ R)
    (m0 : -1073741824 ≤ q0 ∧ q0 ≤ 1073741824) (m1 : -1073741824 ≤ q1 ∧ q1 ≤ 1073741824) (m2 : -1073741824 ≤ q2 ∧ q2 ≤ 1073741824) (m3 : -1073741824 ≤ q3 ∧ q3 ≤ 1073741824)
    (hT : 576460752303423488 ≤ q0 * q0 + q1 * q1 + q2 * q2 + q3 * q3)
    (r1 : R = 0 ∨ R * R < q0 * q0 + q1 * q1 + q2 * q2 + q3 * q3 + R) (r2 : q0 * q0 + q1 * q1 + q2 * q2 + q3 * q3 ≤ R * R + R)
    (d0 : t0 = rdiv (q0 * 1073741824) R) (d1 : t1 = rdiv (q1 * 1073741824) R) (d2 : t2 = rdiv (q2 * 1073741824) R) (d3 : t3 = rdiv (q3 * 1073741824) R) :
    (0 < R ∧ R ≤ 2147483648) ∧ (-1073741824 ≤ t0 ∧ t0 ≤ 1073741824) ∧ (-1073741824 ≤ t1 ∧ t1 ≤ 1073741824) ∧ (-1073741824 ≤ t2 ∧ t2 ≤ 1073741824) ∧ (-1073741824 ≤ t3 ∧ t3 ≤ 1073741824) ∧
    -4294967296 ≤ t0 * t0 + t1 * t1 + t2 * t2 + t3 * t3 - 1152921504606846976 ∧ t0 * t0 + t1 * t1 + t2 * t2 + t3 * t3 - 1152921504606846976 ≤ 4294967296 := by
  have s0 := sq_nonneg q0
  have s1 := sq_nonneg q1
  have s2 := sq_nonneg q2
  have s3 := sq_nonneg q3
  have w0 := sq_le (by decide) m0.1 m0.2
  have w1 := sq_le (by decide) m1.1 m1.2
  have w2 := sq_le (by decide) m2.1 m2.2
  have w3 := sq_le (by decide) m3.1 m3.2
  have lo : 759250124 < R := by
    rcases int_lt_or_ge 759250124 R with h | h
    · exact h
    · exfalso
      have := sq_le (a := R) (B := 759250124) (by decide) (by omega) h
      omega
  have hi : R ≤ 2147483648 := by
    rcases int_lt_or_ge 2147483648 R with h | h
    · exfalso
      have h2 : 2147483649 * R ≤ R * R := Int.mul_le_mul_of_nonneg_right (by omega) hR0
      omega
    · exact h
  have hn0 : 0 < R := by omega
  have l0 := abs_le_of_sq (a := q0) hR0 (by omega)
  have l1 := abs_le_of_sq (a := q1) hR0 (by omega)
  have l2 := abs_le_of_sq (a := q2) hR0 (by omega)
  have l3 := abs_le_of_sq (a := q3) hR0 (by omega)
  have v0 := rdivU_le (a := q0 * 1073741824) (B := 1073741824) hn0 (by omega) (by omega)
  have v1 := rdivU_le (a := q1 * 1073741824) (B := 1073741824) hn0 (by omega) (by omega)
  have v2 := rdivU_le (a := q2 * 1073741824) (B := 1073741824) hn0 (by omega) (by omega)
  have v3 := rdivU_le (a := q3 * 1073741824) (B := 1073741824) hn0 (by omega) (by omega)
  have u0 := rdivU_err (q0 * 1073741824) R hn0
  have u1 := rdivU_err (q1 * 1073741824) R hn0
  have u2 := rdivU_err (q2 * 1073741824) R hn0
  have u3 := rdivU_err (q3 * 1073741824) R hn0
  rw [← d0] at u0 v0
  rw [← d1] at u1 v1
  rw [← d2] at u2 v2
  rw [← d3] at u3 v3
  refine ⟨⟨hn0, hi⟩, v0, v1, v2, v3, ?_⟩
  obtain ⟨st1, st2⟩ := uni_step hn0 hR0 u0 u1 u2 u3 r2
  clear u0 u1 u2 u3 d0 d1 d2 d3 v0 v1 v2 v3 l0 l1 l2 l3 m0 m1 m2 m3 s0 s1 s2 s3 w0 w1 w2 w3
  generalize t0 * t0 + t1 * t1 + t2 * t2 + t3 * t3 = X at *
  generalize q0 * q0 + q1 * q1 + q2 * q2 + q3 * q3 = T at *
  have hl : 759250125 * R ≤ R * R := Int.mul_le_mul_of_nonneg_right (by omega) hR0
  have r1' : R * R < T + R := by omega
  constructor
  · rcases int_lt_or_ge (X - 1152921504606846976) (-4294967296) with h | h
    · exfalso
      have h1 : X * (R * R) ≤ (1152921504606846976 - 4294967297) * (R * R) := Int.mul_le_mul_of_nonneg_right (by omega) (sq_nonneg R)
      omega
    · exact h
  · rcases int_lt_or_ge 4294967296 (X - 1152921504606846976) with h | h
    · exfalso
      have h1 : (1152921504606846976 + 4294967297) * (R * R) ≤ X * (R * R) := Int.mul_le_mul_of_nonneg_right (by omega) (sq_nonneg R)
      omega
    · exact h
/-- One turn as numbers, where no clamp comes up. -/
theorem hyp_root (A : Nat → Int) (hA : ∀ i, i < 4 → -1152921504606846976 ≤ A i ∧ A i ≤ 1152921504606846976) (R : Int) (hR : ((rootV (dotS A A 4).toNat : Nat) : Int) = R) :
    0 ≤ R ∧ (R = 0 ∨ R * R < A 0 * A 0 + A 1 * A 1 + A 2 * A 2 + A 3 * A 3 + R) ∧ A 0 * A 0 + A 1 * A 1 + A 2 * A 2 + A 3 * A 3 ≤ R * R + R ∧ hypV A 4 = if 1152921504606846976 < R then 1152921504606846976 else R := by
  have e : ∀ i, i < 4 → satV (A i) = A i := fun i hi => satV_id (hA i hi).1 (hA i hi).2
  have hd : dotS A A 4 = A 0 * A 0 + A 1 * A 1 + A 2 * A 2 + A 3 * A 3 := by
    rw [dot4, e 0 (by decide), e 1 (by decide), e 2 (by decide), e 3 (by decide)]
  have w : ∀ i, i < 4 → 0 ≤ A i * A i ∧ A i * A i ≤ 1152921504606846976 * 1152921504606846976 := fun i hi => ⟨sq_nonneg _, sq_le (by decide) (hA i hi).1 (hA i hi).2⟩
  have w0 := w 0 (by decide)
  have w1 := w 1 (by decide)
  have w2 := w 2 (by decide)
  have w3 := w 3 (by decide)
  obtain ⟨a, b, c⟩ := root_int (dotS A A 4) (by rw [hd]; omega) (by rw [hd]; omega) R hR
  rw [hd] at b c
  refine ⟨a, b, c, ?_⟩
  unfold hypV
  rw [hR]
  unfold satV clampV
  rw [if_neg (by decide), if_neg (by omega)]
theorem divV_q (a n : Int) (ha : -1152921504606846976 ≤ a ∧ a ≤ 1152921504606846976) (hn : 0 < n ∧ n ≤ 1152921504606846976) (h : -1152921504606846976 ≤ rdiv (a * 1073741824) n ∧ rdiv (a * 1073741824) n ≤ 1152921504606846976) :
    divV a n 30 = rdiv (a * 1073741824) n ∧ divH a n 30 = false := by
  unfold divV divH byV byH
  rw [satV_id ha.1 ha.2, satV_id (a := n) (by omega) hn.2]
  rw [show ((2 : Int) ^ (30 : Int).toNat) = 1073741824 from rfl]
  rw [if_neg (by decide), if_neg (by omega)]
  refine ⟨satV_id h.1 h.2, ?_⟩
  rw [satH_no ha.1 ha.2, satH_no (a := n) (by omega) hn.2, satH_no h.1 h.2]
  simp; omega
theorem zer4_no {A : Nat → Int} (h : ¬ zer4 A = true) : ¬ (A 0 = 0 ∧ A 1 = 0 ∧ A 2 = 0 ∧ A 3 = 0) := by
  rintro ⟨a, b, c, d⟩
  exact h (by simp [zer4, a, b, c, d])
theorem wide_of {x : Int} (h : -1073741824 ≤ x ∧ x ≤ 1073741824) : -1152921504606846976 ≤ x ∧ x ≤ 1152921504606846976 := by omega
theorem wide_16 {x : Int} (h : -1073741824 ≤ x ∧ x ≤ 1073741824) : -1073741840 ≤ x ∧ x ≤ 1073741840 := by omega
/-- The first turn, once more. -/
theorem uni_one (B : Nat → Int) (hB : ∀ i, i < 4 → -1152921504606846976 ≤ B i ∧ B i ≤ 1152921504606846976) (hz : ¬ (B 0 = 0 ∧ B 1 = 0 ∧ B 2 = 0 ∧ B 3 = 0)) :
    (∀ i, i < 4 → -1073741824 ≤ uniT B i ∧ uniT B i ≤ 1073741824) ∧ 576460752303423488 ≤ uniT B 0 * uniT B 0 + uniT B 1 * uniT B 1 + uniT B 2 * uniT B 2 + uniT B 3 * uniT B 3 ∧
    (uniTH B = decide (1152921504606846976 < ((rootV (dotS B B 4).toNat : Nat) : Int))) := by
  obtain ⟨R, hR⟩ : ∃ R : Int, ((rootV (dotS B B 4).toNat : Nat) : Int) = R := ⟨_, rfl⟩
  obtain ⟨a1, a2, a3, a4⟩ := hyp_root B hB R hR
  obtain ⟨n, hn⟩ : ∃ n, hypV B 4 = n := ⟨_, rfl⟩
  rw [hn] at a4
  obtain ⟨n0, f0, f1, f2, f3, fT⟩ := uni_first a1 (hB 0 (by decide)) (hB 1 (by decide)) (hB 2 (by decide)) (hB 3 (by decide)) hz a2 a3 a4 rfl rfl rfl rfl
  have n1 : n ≤ 1152921504606846976 := by rw [a4]; clear a2 a3 f0 f1 f2 f3 fT; split <;> omega
  have f : ∀ i, i < 4 → -1073741824 ≤ rdiv (B i * 1073741824) n ∧ rdiv (B i * 1073741824) n ≤ 1073741824 := fun i hi => by
    obtain rfl | rfl | rfl | rfl : i = 0 ∨ i = 1 ∨ i = 2 ∨ i = 3 := by clear a2 a3 a4 f0 f1 f2 f3 fT; omega
    · exact f0
    · exact f1
    · exact f2
    · exact f3
  have e : ∀ i, i < 4 → uniT B i = rdiv (B i * 1073741824) n ∧ divH (B i) n 30 = false := fun i hi => by
    unfold uniT
    rw [hn]
    exact divV_q _ _ (hB i hi) ⟨n0, n1⟩ (wide_of (f i hi))
  refine ⟨fun i hi => by rw [(e i hi).1]; exact f i hi, ?_, ?_⟩
  · rw [(e 0 (by decide)).1, (e 1 (by decide)).1, (e 2 (by decide)).1, (e 3 (by decide)).1]; exact fT
  · have hs : ∀ i, i < 4 → satH (B i) = false := fun i hi => satH_no (hB i hi).1 (hB i hi).2
    unfold uniTH hypH
    rw [hn, hR]
    simp only [orB, hs 0 (by decide), hs 1 (by decide), hs 2 (by decide), hs 3 (by decide), (e 0 (by decide)).2, (e 1 (by decide)).2, (e 2 (by decide)).2, (e 3 (by decide)).2, Bool.or_false, Bool.false_or]
    clear a2 a3 a4 f0 f1 f2 f3 fT e f hs hB hz
    unfold satH clampH
    rw [Bool.eq_iff_iff]; simp; omega
/-- The second turn, once more. -/
theorem uni_two (T : Nat → Int) (q : ∀ i, i < 4 → -1073741824 ≤ T i ∧ T i ≤ 1073741824) (hT : 576460752303423488 ≤ T 0 * T 0 + T 1 * T 1 + T 2 * T 2 + T 3 * T 3) :
    (∀ i, i < 4 → -1073741824 ≤ uniT T i ∧ uniT T i ≤ 1073741824) ∧ UnitQ (uniT T) ∧ uniTH T = false := by
  obtain ⟨R2, hR2⟩ : ∃ R : Int, ((rootV (dotS T T 4).toNat : Nat) : Int) = R := ⟨_, rfl⟩
  obtain ⟨b1, b2, b3, b4⟩ := hyp_root T (fun i hi => wide_of (q i hi)) R2 hR2
  obtain ⟨⟨g0, g1⟩, t0, t1, t2, t3, tS1, tS2⟩ := uni_second b1 (q 0 (by decide)) (q 1 (by decide)) (q 2 (by decide)) (q 3 (by decide)) hT b2 b3 rfl rfl rfl rfl
  have g2 : R2 ≤ 1152921504606846976 := by clear b2 b3 b4 t0 t1 t2 t3 tS1 tS2 hT; omega
  have g3 : ¬ 1152921504606846976 < R2 := by clear b2 b3 b4 t0 t1 t2 t3 tS1 tS2 hT; omega
  rw [if_neg g3] at b4
  have g : ∀ i, i < 4 → -1073741824 ≤ rdiv (T i * 1073741824) R2 ∧ rdiv (T i * 1073741824) R2 ≤ 1073741824 := fun i hi => by
    obtain rfl | rfl | rfl | rfl : i = 0 ∨ i = 1 ∨ i = 2 ∨ i = 3 := by clear b2 b3 b4 t0 t1 t2 t3 tS1 tS2 hT; omega
    · exact t0
    · exact t1
    · exact t2
    · exact t3
  have e : ∀ i, i < 4 → uniT T i = rdiv (T i * 1073741824) R2 ∧ divH (T i) R2 30 = false := fun i hi => by
    unfold uniT
    rw [b4]
    exact divV_q _ _ (wide_of (q i hi)) ⟨g0, g2⟩ (wide_of (g i hi))
  refine ⟨fun i hi => by rw [(e i hi).1]; exact g i hi, ⟨fun i hi => by rw [(e i hi).1]; exact wide_16 (g i hi), ?_, ?_⟩, ?_⟩
  · rw [(e 0 (by decide)).1, (e 1 (by decide)).1, (e 2 (by decide)).1, (e 3 (by decide)).1]; exact tS1
  · rw [(e 0 (by decide)).1, (e 1 (by decide)).1, (e 2 (by decide)).1, (e 3 (by decide)).1]; exact tS2
  · have hs : ∀ i, i < 4 → satH (T i) = false := fun i hi => satH_no (wide_of (q i hi)).1 (wide_of (q i hi)).2
    unfold uniTH hypH
    rw [b4, hR2]
    simp only [orB, hs 0 (by decide), hs 1 (by decide), hs 2 (by decide), hs 3 (by decide), (e 0 (by decide)).2, (e 1 (by decide)).2, (e 2 (by decide)).2, (e 3 (by decide)).2, Bool.or_false, Bool.false_or]
    exact satH_no (by clear b2 b3 b4 t0 t1 t2 t3 tS1 tS2 hT; omega) g2
/-- Both turns. -/
theorem uni_both (B : Nat → Int) (hB : ∀ i, i < 4 → -1152921504606846976 ≤ B i ∧ B i ≤ 1152921504606846976) (hz : ¬ (B 0 = 0 ∧ B 1 = 0 ∧ B 2 = 0 ∧ B 3 = 0)) :
    UnitQ (uniT (uniT B)) ∧ (uniTH B = decide (1152921504606846976 < ((rootV (dotS B B 4).toNat : Nat) : Int))) ∧ uniTH (uniT B) = false := by
  obtain ⟨q, hT, h1⟩ := uni_one B hB hz
  obtain ⟨_, u, h2⟩ := uni_two (uniT B) q hT
  exact ⟨u, h1, h2⟩
theorem unit_oneQ : UnitQ oneQ := by
  refine ⟨fun i _ => ?_, by decide, by decide⟩
  unfold oneQ; split <;> omega
/-- Unit's answer is good, whatever is given. -/
theorem unit_good (A : Nat → Int) : UnitQ (uniV A) := by
  unfold uniV
  by_cases h : zer4 (satA A) = true
  · rw [if_pos h]; exact unit_oneQ
  · rw [if_neg h]
    exact (uni_both (satA A) (fun i _ => satV_bd _) (zer4_no h)).1
end Go.Proofs.Ytpoiobgpggiebaa
/- Contracts of package root: end, Hypot. -/
namespace Go.Proofs.Ytpoiobgpggiebaa
open Go.RowKit
set_option maxRecDepth 100000
theorem rootV_63 (A : Int) (a0 : 0 ≤ A) (a1 : A ≤ 85070591730234615865843651857942052864) : 0 ≤ ((rootV A.toNat : Nat) : Int) ∧ ((rootV A.toNat : Nat) : Int) ≤ 9223372036854775808 := by
  obtain ⟨R, hR⟩ : ∃ R : Int, ((rootV A.toNat : Nat) : Int) = R := ⟨_, rfl⟩
  obtain ⟨b1, b2, b3⟩ := root_int A a0 (by omega) R hR
  rw [hR]
  refine ⟨b1, ?_⟩
  rcases int_lt_or_ge 9223372036854775808 R with h | h
  · exfalso
    have h2 : 9223372036854775809 * R ≤ R * R := Int.mul_le_mul_of_nonneg_right (by omega) b1
    omega
  · exact h
theorem rend_ok (c : Addr) (h : Bool) (A v : Int) (w : World) (hc : w.cell? c = some (.bool h)) (hf : w.frozen? c = false)
    (hr : ∀ w, Calls Try.prog 84 #[.agg #[.int .i64 (hi64 A), .int .u64 (lo64 A)]] w fun e w' => e = .returned (.tuple #[.int .i64 v, .bool true]) ∧ Below w.heap.size w w') :
    Calls Try.prog 66 #[.pointer (some c), .agg #[.int .i64 (hi64 A), .int .u64 (lo64 A)]] w fun e w' => e = .returned (.int .i64 (satV v)) ∧ Upd c (h || satH v) w w' := by
  have hcb := World.block_lt_of_cell? w c hc
  have HR := Lib.hid hr
  clear hr
  go_enter Try.func66, Try.ntmps66
  go_wp2_with fail
  refine (HR.out _).mono ?_; rintro e w1 ⟨rfl, hb1⟩
  have k1 : w1.cell? c = some (.bool h) := (hb1.cell (by simp; omega)).trans (by simp [World.cell?_alloc_lt, hcb, hc])
  have k2 : w1.frozen? c = false := (hb1.frozen (by simp; omega)).trans (by rw [frozen?_alloc_cells]; exact hf)
  go_wp2_with fail
  refine (sat_any c h v w1 k1 k2).mono ?_; rintro e w2 ⟨rfl, rfl⟩
  go_wp2_with fail
  go_ret
  refine ⟨rfl, ?_⟩
  have hb : Below w.heap.size w w1 := by (repeat (first | with_reducible exact Below.refl _ _ | with_reducible assumption | with_reducible apply Below.drew | (with_reducible refine below_drewN ?_ _) | (with_reducible refine Below.alloc ?_ (by (try simp) <;> omega) _) | (with_reducible refine Below.setCell ?_ (by (try simp) <;> omega) _) | (with_reducible refine Below.trans ?_ (Below.mono (by assumption) (by (try simp) <;> omega)))))
  exact Upd.after hb (Upd.set c _ w1)
theorem rend_no (c : Addr) (h : Bool) (A v : Int) (w : World) (hc : w.cell? c = some (.bool h)) (hf : w.frozen? c = false)
    (hr : ∀ w, Calls Try.prog 84 #[.agg #[.int .i64 (hi64 A), .int .u64 (lo64 A)]] w fun e w' => e = .returned (.tuple #[.int .i64 v, .bool false]) ∧ Below w.heap.size w w') :
    Calls Try.prog 66 #[.pointer (some c), .agg #[.int .i64 (hi64 A), .int .u64 (lo64 A)]] w fun e w' => e = .returned (.int .i64 1152921504606846976) ∧ Upd c true w w' := by
  have hcb := World.block_lt_of_cell? w c hc
  have HR := Lib.hid hr
  clear hr
  have e1 : satV 1152921504606846977 = 1152921504606846976 := by decide
  have e2 : (h || satH 1152921504606846977) = true := by rw [show satH 1152921504606846977 = true by decide, Bool.or_true]
  go_enter Try.func66, Try.ntmps66
  go_wp2_with fail
  refine (HR.out _).mono ?_; rintro e w1 ⟨rfl, hb1⟩
  have k1 : w1.cell? c = some (.bool h) := (hb1.cell (by simp; omega)).trans (by simp [World.cell?_alloc_lt, hcb, hc])
  have k2 : w1.frozen? c = false := (hb1.frozen (by simp; omega)).trans (by rw [frozen?_alloc_cells]; exact hf)
  go_wp2_with fail
  refine (sat_any c h 1152921504606846977 w1 k1 k2).mono ?_; rintro e w2 ⟨rfl, rfl⟩
  rw [e1, e2]
  go_wp2_with fail
  go_ret
  refine ⟨rfl, ?_⟩
  have hb : Below w.heap.size w w1 := by (repeat (first | with_reducible exact Below.refl _ _ | with_reducible assumption | with_reducible apply Below.drew | (with_reducible refine below_drewN ?_ _) | (with_reducible refine Below.alloc ?_ (by (try simp) <;> omega) _) | (with_reducible refine Below.setCell ?_ (by (try simp) <;> omega) _) | (with_reducible refine Below.trans ?_ (Below.mono (by assumption) (by (try simp) <;> omega)))))
  exact Upd.after hb (Upd.set c _ w1)
theorem rend_any (c : Addr) (h : Bool) (A : Int) (w : World) (hc : w.cell? c = some (.bool h)) (hf : w.frozen? c = false) (a0 : 0 ≤ A) (a1 : A ≤ 85070591730234615865843651857942052864) :
    Calls Try.prog 66 #[.pointer (some c), .agg #[.int .i64 (hi64 A), .int .u64 (lo64 A)]] w fun e w' =>
      e = .returned (.int .i64 (satV (rootV A.toNat : Nat))) ∧ Upd c (h || satH (rootV A.toNat : Nat)) w w' := by
  obtain ⟨r0, r1⟩ := rootV_63 A a0 a1
  have hr := fun w => wroot_any A w a0 (by omega)
  generalize ((rootV A.toNat : Nat) : Int) = R at *
  by_cases hF : r64F R = true
  · have hV : r64V R = R := by simp [r64V, hF]
    rw [hF, hV] at hr
    exact rend_ok c h A R w hc hf hr
  · have h2 : r64F R = false := by simpa using hF
    rw [h2] at hr
    have h3 : R = 9223372036854775808 := by simp [r64F] at h2; omega
    subst h3
    rw [show satV 9223372036854775808 = 1152921504606846976 by decide, show satH 9223372036854775808 = true by decide, Bool.or_true]
    exact rend_no c h A _ w hc hf hr
structure HypR (c : Addr) (h : Bool) (A : Nat → Int) (w : World) (k : Nat) (wr : World) : Prop where
  upd : Upd c (h || orB (fun i => satH (A i)) k) w wr
  c0 : wr.cell? ⟨w.heap.size, 0, none⟩ = some (.int .i64 (hi64 (dotS A A k)))
  c1 : wr.cell? ⟨w.heap.size, 1, none⟩ = some (.int .u64 (lo64 (dotS A A k)))
  f0 : wr.frozen? ⟨w.heap.size, 0, none⟩ = false
  f1 : wr.frozen? ⟨w.heap.size, 1, none⟩ = false
  sz : w.heap.size < wr.heap.size
theorem sqS_nonneg (A : Nat → Int) (n : Nat) : 0 ≤ dotS A A n := by
  induction n with
  | zero => simp [dotS]
  | succ n ih => have := sq_nonneg (satV (A n)); simp only [dotS]; omega
set_option maxHeartbeats 2000000 in
theorem hypot_any (c : Addr) (h : Bool) (A : Nat → Int) (pa oa ca n : Nat) (w : World) (hc : w.cell? c = some (.bool h)) (hf : w.frozen? c = false) (hn : n ≤ 64)
    (hcap : n ≤ ca) (hA : ∀ i, i < n → w.cell? ⟨pa, oa + i, none⟩ = some (.int .i64 (A i))) :
    Calls Try.prog 52 #[.pointer (some c), .slice (some ⟨pa, oa, none⟩) n ca] w fun e w' =>
      e = .returned (.int .i64 (hypV A n)) ∧ Upd c (h || hypH A n) w w' := by
  have hcb := World.block_lt_of_cell? w c hc
  have HA := Lib.hid hA
  have HC := Lib.hid hc
  have HF := Lib.hid hf
  clear hA hc hf
  have m64 : ((min n 64 : Nat) : Int) = n := by omega
  have m65 : min (n : Int) 64 = n := by omega
  go_enter Try.func52, Try.ntmps52
  go_wp2_with fail
  clear m64 m65
  go_loopw [14] (fun i wr => ∃ k : Nat, k ≤ n ∧ i = .int .i64 k ∧ Hid (HypR c h A w k wr)) (fun i _ => n - (intOf i).toNat)
  case atStart =>
    refine ⟨0, Nat.zero_le _, rfl, ⟨?_, by simp [dotS, hi64], by simp [dotS, lo64], by simp, by simp, by simp⟩⟩
    rw [show (h || orB (fun i => satH (A i)) 0) = h from by simp [orB]]
    exact Upd.then (Upd.refl HC.out) (by (repeat (first | with_reducible exact Below.refl _ _ | with_reducible apply Below.drew | (with_reducible refine below_drewN ?_ _) | (with_reducible refine Below.alloc ?_ (by (try simp) <;> omega) _) | (with_reducible refine Below.setCell ?_ (by (try simp) <;> omega) _))))
  case round =>
    obtain ⟨k, hk, rfl, R⟩ := hrel
    by_cases hlt : k < n
    · have a0 := HA.out k hlt
      have hsb := dotS_bd A A k
      have hpb := prod_bd (A k) (A k)
      have u := R.out.upd
      have ra : wr.cell? ⟨pa, oa + k, none⟩ = some (.int .i64 (A k)) := (u.cell (World.block_lt_of_cell? w _ a0) (ne_of_cells HC.out a0)).trans a0
      have rc : wr.cell? c = some (.bool (h || orB (fun i => satH (A i)) k)) := u.cellc HC.out
      have rf : wr.frozen? c = false := (u.frozen hcb).trans HF.out
      have s0 := R.out.c0
      have s1 := R.out.c1
      have t0 := R.out.f0
      have t1 := R.out.f1
      have n0 := ne_of_cells rc s0
      have sA := satV_bd (A k)
      have hcS : ∀ o, c ≠ ⟨w.heap.size, o, none⟩ := fun o e => by rw [e] at hcb; simp at hcb
      have U2 : Upd c (h || orB (fun i => satH (A i)) k || satH (A k)) wr (wr.setCell c (.bool (h || orB (fun i => satH (A i)) k || satH (A k)))) := Upd.set c _ wr
      have kp := keep2 U2 s0 s1 n0 (hcS 1)
      obtain ⟨x0, x1⟩ := kp
      have H2 := Lib.hid U2
      have RSZ := R.out.sz
      have HU := Lib.hid u
      have HSB := Lib.hid hsb
      have HPB := Lib.hid hpb
      have SA := Lib.hid sA
      have SC := Lib.hid (sat_any c (h || orB (fun i => satH (A i)) k) (A k) wr rc rf)
      clear U2 u hsb hpb sA
      go_upto_region 5 with fail
      go_wp2_with fail
      refine SC.out.mono ?_; rintro e w' ⟨rfl, rfl⟩
      have cc : (wr.setCell c (.bool (h || orB (fun i => satH (A i)) k || satH (A k)))).cell? c = some (.bool (h || orB (fun i => satH (A i)) k || satH (A k))) := World.cell?_setCell_same _ _ _ rc
      have CC := Lib.hid cc
      clear SC cc s0 s1 rc rf
      go_upto_region 6 with fail
      obtain ⟨W2, hW2⟩ : ∃ W2, wr.setCell c (.bool (h || orB (fun i => satH (A i)) k || satH (A k))) = W2 := ⟨_, rfl⟩
      rw [hW2] at H2 x0 x1 CC ⊢
      have n2 := ne_of_cells CC.out x0
      clear hW2
      refine wp_region_M (fun w' => w'.cell? ⟨w.heap.size, 0, none⟩ = some (.int .i64 (hi64 (dotS A A k))) ∧ w'.cell? ⟨w.heap.size, 1, none⟩ = some (.int .u64 (lo64 (dotS A A k)))) 9 (by kernel_rfl) ?_ (fun hHeld => ?_)
      · exact ⟨x0, x1⟩
      refine wpAnyM_take 0 (v := ?_) rfl (by kernel_rfl) (fun _ _ _ h => h) (Or.inl ⟨by rfl, ?_⟩) (by assumption) ?_
      rotate_left
      · (intro wx hSw; (try dsimp only at hSw); go_simp; (try with_reducible rfl))
      (try simp only [Act.put, nA, nB, nC])
      refine wpAnyM_take 1 (v := ?_) rfl (by kernel_rfl) (fun _ _ _ h => h) (Or.inl ⟨by rfl, ?_⟩) (by assumption) ?_
      rotate_left
      · (intro wx hSw; (try dsimp only at hSw); go_simp; (try with_reducible rfl))
      (try simp only [Act.put, nA, nB, nC])
      refine wpAnyM_take 2 (v := ?_) rfl (by kernel_rfl) (fun _ _ _ h => h) (Or.inl ⟨by rfl, ?_⟩) (by assumption) ?_
      rotate_left
      · (intro wx hSw; (try dsimp only at hSw); go_simp; (try with_reducible rfl))
      (try simp only [Act.put, nA, nB, nC])
      refine wpAnyM_oneS 3 rfl (by kernel_rfl) (fun K hK => ?_)
      go_simp
      (refine (mul_any _ _ _ _ (by have := SA.out; omega) (by have := SA.out; omega) (by have := SA.out; omega) (by have := SA.out; omega) rfl (by have := HPB.out; omega) (by have := HPB.out; omega)).mono ?_); rintro e w3 ⟨rfl, hb3⟩; have U3 : Upd c (h || orB (fun i => satH (A i)) k || satH (A k)) wr w3 := Upd.then (Upd.drew H2.out) hb3; have kp : w3.cell? ⟨w.heap.size, 0, none⟩ = some (.int .i64 (hi64 (dotS A A k))) ∧ w3.cell? ⟨w.heap.size, 1, none⟩ = some (.int .u64 (lo64 (dotS A A k))) := ⟨(hb3.cell (World.block_lt_of_cell? _ _ x0)).trans x0, (hb3.cell (World.block_lt_of_cell? _ _ x1)).trans x1⟩; have HU3 := Lib.hid U3; clear U3; have hz3 : w.heap.size < w3.heap.size := by have := HU3.out.size; omega
      (try dsimp only)
      (try simp only [Act.put, nA, nB, nC])
      clear hHeld
      refine hK.out _ _ ?_ (fun hHeld => ?_)
      · exact kp
      clear hK K
      (try simp only [Act.put, nA, nB, nC])
      refine wpAnyM_oneS 4 rfl (by kernel_rfl) (fun K hK => ?_)
      go_simp
      clear hHeld
      refine hK.out _ _ ?_ (fun hHeld => ?_)
      · obtain ⟨e1, e2⟩ := kp; simp [World.cell?_alloc_some, e1, e2]
      clear hK K
      (try simp only [Act.put, nA, nB, nC])
      refine wpAnyM_oneS 5 rfl (by kernel_rfl) (fun K hK => ?_)
      go_simp
      (refine (wadd2_any (dotS A A k) (satV (A k) * satV (A k)) (dotS A A (k + 1)) w3.heap.size 2 _ (by have := HSB.out; omega) (by have := HSB.out; omega) (by have := HPB.out; omega) (by have := HPB.out; omega) rfl (by have := HSB.out; have := HPB.out; simp only [dotS]; omega) (by have := HSB.out; have := HPB.out; simp only [dotS]; omega) (by simp) (by simp) (by simp) (by simp)).mono ?_); rintro e w4 ⟨rfl, hb4⟩; have U4 : Upd c (h || orB (fun i => satH (A i)) k || satH (A k)) wr w4 := Upd.then (Upd.alloc HU3.out _) hb4; have kp2 : w4.cell? ⟨w.heap.size, 0, none⟩ = some (.int .i64 (hi64 (dotS A A k))) ∧ w4.cell? ⟨w.heap.size, 1, none⟩ = some (.int .u64 (lo64 (dotS A A k))) := (by obtain ⟨e1, e2⟩ := kp; exact ⟨(hb4.cell (by simp; omega)).trans (by simp [World.cell?_alloc_some, e1]), (hb4.cell (by simp; omega)).trans (by simp [World.cell?_alloc_some, e2])⟩); have fz0 : w4.frozen? ⟨w.heap.size, 0, none⟩ = false := (U4.frozen RSZ).trans t0; have fz1 : w4.frozen? ⟨w.heap.size, 1, none⟩ = false := (U4.frozen RSZ).trans t1; have HU4 := Lib.hid U4; clear U4; obtain ⟨y0, y1⟩ := kp2
      (try dsimp only)
      (try simp only [Act.put, nA, nB, nC])
      clear hHeld
      refine hK.out _ _ ?_ (fun hHeld => ?_)
      · exact ⟨y0, y1⟩
      clear hK K
      (try simp only [Act.put, nA, nB, nC])
      refine wpAnyM_take 6 (v := ?_) rfl (by kernel_rfl) (fun _ _ _ h => h) (Or.inl ⟨by rfl, ?_⟩) (by assumption) ?_
      rotate_left
      · (intro wx hSw; (try dsimp only at hSw); go_simp; (try with_reducible rfl))
      (try simp only [Act.put, nA, nB, nC])
      refine wpAnyM_take 7 (v := ?_) rfl (by kernel_rfl) (fun _ _ _ h => h) (Or.inl ⟨by rfl, ?_⟩) (by assumption) ?_
      rotate_left
      · (intro wx hSw; (try dsimp only at hSw); go_simp; (try with_reducible rfl))
      (try simp only [Act.put, nA, nB, nC])
      refine wpAnyM_takeW 8 (v := ?_) rfl (by kernel_rfl) (fun _ _ _ h => h) (Or.inl ⟨by rfl, ?_⟩) (.inr (by assumption)) ?_
      rotate_left
      · (intro wx hSw; (try dsimp only at hSw); go_simp; (try with_reducible rfl))
      (try simp only [Act.put, nA, nB, nC])
      refine wpAnyM_one 9 rfl (by kernel_rfl) (fun K hK => ?_)
      go_simp
      refine hK.out _ _ (.inl (by kernel_rfl)) (fun _ => ?_)
      clear hK K
      (try simp only [Act.put, nA, nB, nC])
      refine wpAnyM_done (by kernel_rfl) ?_ _
      go_wp2_with fail
      go_roundw
      case rel =>
        refine ⟨k + 1, by omega, by go_num, ?_⟩
        have U := HU.out.trans HU4.out
        have tc := two_cells y0 y1 (.int .i64 (hi64 (dotS A A (k + 1)))) (.int .u64 (lo64 (dotS A A (k + 1))))
        refine ⟨?_, tc.1, tc.2, by rw [World.frozen?_setCell, World.frozen?_setCell]; exact fz0, by rw [World.frozen?_setCell, World.frozen?_setCell]; exact fz1, ?_⟩
        · rw [show (h || orB (fun i => satH (A i)) (k + 1)) = (h || orB (fun i => satH (A i)) k || satH (A k)) from by simp [orB, Bool.or_assoc]]
          exact (U.setCell (Nat.le_refl _) _).setCell (Nat.le_refl _) _
        · have := HU4.out.size; simp [World.setCell]; omega
      case measure => simp [intOf]; omega
    · have hkn : k = n := by omega
      subst hkn
      have u := R.out.upd
      have sb := dotS_bd A A k
      have sn := sqS_nonneg A k
      have rc : wr.cell? c = some (.bool (h || orB (fun i => satH (A i)) k)) := u.cellc HC.out
      have rf : wr.frozen? c = false := (u.frozen hcb).trans HF.out
      have s0 := R.out.c0
      have s1 := R.out.c1
      have EN := Lib.hid (rend_any c _ (dotS A A k) wr rc rf sn (by omega))
      have HU := Lib.hid u
      clear u sb sn rc rf
      go_wp2_with fail
      refine EN.out.mono ?_; rintro e w5 ⟨rfl, hu5⟩
      go_wp2_with fail
      go_ret
      refine ⟨rfl, ?_⟩
      have := HU.out.trans hu5
      rwa [show (h || hypH A k) = (h || orB (fun i => satH (A i)) k || satH (rootV (dotS A A k).toNat : Nat)) from by simp [hypH, Bool.or_assoc]]
end Go.Proofs.Ytpoiobgpggiebaa
/- The equality of two arrays of int64, as numbers. -/
namespace Go.Proofs.Ytpoiobgpggiebaa
open Go
set_option maxRecDepth 100000
theorem plain_int {P : Program} {e : TypeId} (h : P.underlying e = some (.int .i64)) : P.plainKey e = true := by simp [Program.plainKey, h]
theorem run_eqItems_int {P : Program} {w : World} (d : Nat) {e : TypeId} (h : P.underlying e = some (.int .i64)) (n : Nat) (f g : Nat → Int) : ∀ (is : List Nat), (∀ i ∈ is, i < n) →
    (Op.eqItems (d + 1) e 1 (arrv n f) (arrv n g) is).run P w = .ok (is.all fun i => f i == g i) w
  | [], _ => by simp [Op.eqItems]
  | i :: is, hi => by
    have hin := hi i (by simp)
    simp only [Op.eqItems, Sem.run_bind, Nat.mul_one, run_part_plain w (plain_int h) (arrv_get (f := f) hin), run_part_plain w (plain_int h) (arrv_get (f := g) hin), Result.andThen_ok, run_equalIn_int w d e .i64 .i64 _ _ h]
    by_cases e1 : f i = g i
    · simp only [e1, beq_self_eq_true, Bool.not_true, Bool.false_eq_true, if_false, List.all_cons, Bool.true_and]
      exact run_eqItems_int d h n f g is fun j hj => hi j (by simp [hj])
    · have : (f i == g i) = false := by simpa using e1
      simp [this]
def eqB (n : Nat) (f g : Nat → Int) : Bool := (List.range n).all fun i => f i == g i
theorem eqB_iff {n : Nat} {f g : Nat → Int} : eqB n f g = true ↔ ∀ i, i < n → f i = g i := by simp [eqB]
theorem run_equalIn_vec {P : Program} {w : World} (d : Nat) {t e : TypeId} {n : Nat} (hu : P.underlying t = some (.array n e)) (h : P.underlying e = some (.int .i64)) (hi : P.cellsOf e = 1) {i : TypeInfo} (hi2 : P.info? e = some i) (f g : Nat → Int) :
    (Op.equalIn (d + 2) t (.agg (arrv n f)) (.agg (arrv n g))).run P w = .ok (eqB n f g) w := by
  rw [show d + 2 = (d + 1) + 1 from rfl, run_equalIn_array w (d + 1) _ _ hu hi2, hi]
  exact run_eqItems_int d h n f g _ fun i hi => by simpa using hi
theorem arrv_extract (n a b : Nat) (f : Nat → Int) (h : a + b ≤ n) : (arrv n f).extract a (a + b) = arrv b fun i => f (a + i) := by
  apply Array.ext_getElem?
  intro i
  by_cases hi : i < b
  · rw [arrv_get hi, Array.getElem?_extract, if_pos (by rw [arrv_size]; omega), arrv_get (by omega)]
  · rw [Array.getElem?_eq_none (xs := arrv b _) (by rw [arrv_size]; omega), Array.getElem?_eq_none (by simp [arrv_size]; omega)]
open Go in
/-- '==' of two arrays of int64, at the operation. -/
theorem run_op_eqlVec {n : Nat} {T : TypeId} (hT : Try.prog.underlying T = some (.array n 2)) (hG : Try.prog.eqGuardType Try.prog.depth T = false) {o : Oper} {ev : Operand → Value} {w : World} (x y : Operand) (ho : o.op = .binOp .eql T x y T) {f g : Nat → Int} (hx : ev x = .agg (arrv n f)) (hy : ev y = .agg (arrv n g)) {b : Bool} (hb : eqB n f g = b) :
    (execOp ev o).run Try.prog w = .ok (.value (.bool b)) w := by
  have h : (Try.prog.info? 2).map (·.size) = some 1 := by kernel_rfl
  obtain ⟨i, h2, s2⟩ : ∃ i, Try.prog.info? 2 = some i ∧ i.size = 1 := by
    cases e : Try.prog.info? 2 with
    | none => rw [e] at h; cases h
    | some i => rw [e] at h; exact ⟨i, rfl, by simpa using h⟩
  have e : (Op.equal T (.agg (arrv n f)) (.agg (arrv n g))).run Try.prog w = .ok (eqB n f g) w :=
    run_equalIn_vec (w := w) 9998 hT Try.underlying2 (by simp [Program.cellsOf, h2, s2]) h2 _ _
  unfold execOp
  simp only [ho, hx, hy, eqGuard, binOp, Sem.run_bind, Sem.run_pure, Result.andThen_ok]
  simp [hG, e, hb, go_sem]
end Go.Proofs.Ytpoiobgpggiebaa
/- Part of a block of numbers, loaded or stored as a whole. -/
namespace Go.Proofs.Ytpoiobgpggiebaa
open Go.RowKit
open Go in
theorem run_loadVar_sub {P : Program} {w : World} {g T N : Nat} {f : Nat → Int} (h : Blk w g T N f) (o n : Nat) (hon : o + n ≤ N) (ty : TypeId) (d : TypeDesc)
    (hu : P.underlying ty = some d) (hd : (match d with | .struct _ | .array _ _ => true | _ => false) = true) (hi : (P.info? ty).map (·.size) = some n) :
    (loadVar ty ⟨g, o, none⟩).run P w = .ok (.agg (arrv n (fun i => f (o + i)))) w := by
  have hl : (loadCells ⟨g, o, none⟩ (arrv n (fun i => f (o + i))).toList.length).run P w = .ok (arrv n (fun i => f (o + i))).toList.toArray w :=
    run_loadCells_list (P := P) w ⟨g, o, none⟩ (arrv n (fun i => f (o + i))).toList (fun j v hv => by
      have hadd : (⟨g, o, none⟩ : Addr).add j = ⟨g, o + j, none⟩ := by unfold Addr.add; split <;> simp_all
      have hv' : (arrv n (fun i => f (o + i)))[j]? = some v := by simpa using hv
      have hj : j < n := by
        rcases Nat.lt_or_ge j n with h' | h'
        · exact h'
        · rw [Array.getElem?_eq_none (by rw [arrv_size]; omega)] at hv'; cases hv'
      rw [arrv_get hj] at hv'
      rw [hadd, h.cell (by omega)]; exact hv')
  cases hq : P.info? ty with
  | none => simp [hq] at hi
  | some i =>
    have hs : i.size = n := by simpa [hq] using hi
    have hagg : (isAgg ty).run P w = .ok true w := by
      unfold isAgg
      rw [Sem.run_bind, run_underlying hu w]
      cases d <;> simp_all
    simp only [Array.length_toList, Array.toArray_toList, arrv_size] at hl
    simp [loadVar, Sem.run_bind, hagg, sizeOf, typeInfo, hq, hs, hl]
open Go in
theorem wp_load_sub {P : Program} {o' : Oper} {a : Act} {w : World} {K : Act → World → Prop} {Q : Exit → Act → World → Prop} (ty : TypeId) (x : Operand) (ho : o'.op = .load ty x)
    (g o n : Nat) (hx : a.eval x = .pointer (some ⟨g, o, none⟩)) {T N : Nat} {f : Nat → Int} (h : Blk w g T N f) (hon : o + n ≤ N) (d : TypeDesc)
    (hu : P.underlying ty = some d) (hd : (match d with | .struct _ | .array _ _ => true | _ => false) = true) (hi : (P.info? ty).map (·.size) = some n)
    (hK : K (a.put o'.dst (.agg (arrv n (fun i => f (o + i))))) w) : o'.wp P a w K Q := by
  unfold Oper.wp execOp
  simp only [ho, hx, Instr.loadAt, Instr.sureAddr, Sem.run_bind, Sem.run_pure, Result.andThen_ok, run_loadVar_sub h o n hon ty d hu hd hi]
  exact hK
open Go in
theorem wpList_load_sub {P : Program} {ops : Array Oper} {rest : List Oper} {o' : Oper} {a : Act} {w : World} {Q : Exit → Act → World → Prop} (hgd : o'.guard = none) (ty : TypeId) (x : Operand) (ho : o'.op = .load ty x)
    (g o n : Nat) (hx : a.eval x = .pointer (some ⟨g, o, none⟩)) {T N : Nat} {f : Nat → Int} (h : Blk w g T N f) (hon : o + n ≤ N) (d : TypeDesc)
    (hu : P.underlying ty = some d) (hd : (match d with | .struct _ | .array _ _ => true | _ => false) = true) (hi : (P.info? ty).map (·.size) = some n)
    (hK : wpList P ops Q rest (a.put o'.dst (.agg (arrv n (fun i => f (o + i))))) w) : wpList P ops Q (o' :: rest) a w :=
  wpList_plain hgd fun _ hk => wp_load_sub ty x ho g o n hx h hon d hu hd hi (hk _ _ hK)
/-- The same inside a region that draws its order. -/
theorem run_load_sub {P : Program} {o' : Oper} {ev : Operand → Value} {w : World} (ty : TypeId) (x : Operand) (ho : o'.op = .load ty x)
    (g o n : Nat) (hx : ev x = .pointer (some ⟨g, o, none⟩)) {T N : Nat} {f : Nat → Int} (h : Blk w g T N f) (hon : o + n ≤ N) (d : TypeDesc)
    (hu : P.underlying ty = some d) (hd : (match d with | .struct _ | .array _ _ => true | _ => false) = true) (hi : (P.info? ty).map (·.size) = some n) :
    (execOp ev o').run P w = .ok (.value (.agg (arrv n (fun i => f (o + i))))) w := by
  unfold execOp
  simp [ho, hx, Instr.loadAt, Instr.sureAddr, Sem.run_bind, run_loadVar_sub h o n hon ty d hu hd hi]
end Go.Proofs.Ytpoiobgpggiebaa
/- Contracts of package quat: sat, One, Unit. -/
namespace Go.Proofs.Ytpoiobgpggiebaa
open Go.RowKit
set_option maxRecDepth 100000
theorem iqt : (Try.prog.info? 42).map (·.size) = some 4 := by kernel_rfl
theorem zq4 : (#[.int .i64 0, .int .i64 0, .int .i64 0, .int .i64 0] : Array Value) = arrv 4 (fun _ => 0) := by kernel_rfl
theorem oq4 : (#[.int .i64 1073741824, .int .i64 0, .int .i64 0, .int .i64 0] : Array Value) = arrv 4 oneQ := by kernel_rfl
theorem qone_any (w : World) : Calls Try.prog 16 #[] w fun e w' => e = .returned (.agg (arrv 4 oneQ)) ∧ Below w.heap.size w w' := by
  go_enter Try.func16, Try.ntmps16
  go_wp2_with fail
  refine bodyPost_ret (v := .agg #[.int .i64 1073741824, .int .i64 0, .int .i64 0, .int .i64 0]) (by simp [results, Try.results16, go_sem]) rfl ⟨by rw [oq4], ?_⟩
  (repeat (first | with_reducible exact Below.refl _ _ | with_reducible apply Below.drew | (with_reducible refine below_drewN ?_ _) | (with_reducible refine Below.alloc ?_ (by (try simp) <;> omega) _) | (with_reducible refine Below.setCell ?_ (by (try simp) <;> omega) _)))
/-- The first k are clamped. -/
def satK (A : Nat → Int) (k : Nat) : Nat → Int := fun i => if i < k then satV (A i) else A i
structure QsR (c : Addr) (h : Bool) (g : Nat → Int) (w wr : World) : Prop where
  upd : Upd c h w wr
  blk : Blk wr w.heap.size 42 4 g
  res : Blk wr (w.heap.size + 1) 42 4 (fun _ => 0)
theorem qsat_any (c : Addr) (h : Bool) (A : Nat → Int) (w : World) (hc : w.cell? c = some (.bool h)) (hf : w.frozen? c = false) :
    Calls Try.prog 49 #[.pointer (some c), .agg (arrv 4 A)] w fun e w' => e = .returned (.agg (arrv 4 (satA A))) ∧ Upd c (h || orB (fun i => satH (A i)) 4) w w' := by
  have hcb := World.block_lt_of_cell? w c hc
  have HC := Lib.hid hc
  have HF := Lib.hid hf
  clear hc hf
  go_enter Try.func49, Try.ntmps49
  go_wp2_with fail
  go_loopw [6] (fun i wr => ∃ k : Nat, k ≤ 4 ∧ i = .int .i64 k ∧ Hid (QsR c (h || orB (fun i => satH (A i)) k) (satK A k) w wr)) (fun i _ => 4 - (intOf i).toNat)
  case atStart =>
    refine ⟨0, by omega, rfl, ⟨?_, ?_, ?_⟩⟩
    · rw [show (h || orB (fun i => satH (A i)) 0) = h from by simp [orB]]
      exact Upd.then (Upd.refl HC.out) (by (repeat (first | with_reducible exact Below.refl _ _ | with_reducible apply Below.drew | (with_reducible refine below_drewN ?_ _) | (with_reducible refine Below.alloc ?_ (by (try simp) <;> omega) _) | (with_reducible refine Below.setCell ?_ (by (try simp) <;> omega) _))))
    · exact (Blk.alloc (Blk.new w _ 4 A) _).congr fun i hi => by simp [satK]
    · rw [zq4]; exact Blk.new1 w _ _ 4 _
  case round =>
    obtain ⟨k, hk, rfl, R⟩ := hrel
    by_cases hlt : k < 4
    · have rc := R.out.upd.cellc HC.out
      have rf := (R.out.upd.frozen hcb).trans HF.out
      have b0 := R.out.blk.cell (i := k) (by omega)
      have b1 := R.out.blk.free k
      have n0 := ne_of_cells rc b0
      have hv : satK A k k = A k := by simp [satK]
      rw [hv] at b0
      clear hv
      go_wp2_with (go_at_call 44; refine (sat_any c _ _ _ rc rf).mono ?_; rintro e w' ⟨rfl, rfl⟩)
      go_roundw
      case rel =>
        refine ⟨k + 1, by omega, by go_num, ⟨?_, ?_, ?_⟩⟩
        · rw [show (h || orB (fun i => satH (A i)) (k + 1)) = (h || orB (fun i => satH (A i)) k || satH (A k)) from by simp [orB, Bool.or_assoc]]
          exact (R.out.upd.trans (Upd.set c _ _)).setCell (Nat.le_refl _) _
        · refine ((R.out.blk.other (R.out.blk.flag rc) _).set _ _).congr fun i hi => ?_
          simp only [Go.Proofs.Ytpoiobgpggiebaa.upd, satK]
          by_cases h1 : i = k
          · subst h1; simp
          · rw [if_neg h1]; split <;> split <;> first | rfl | omega
        · exact (R.out.res.other (R.out.res.flag rc) _).other (by simp) _
      case measure => simp [intOf]; omega
    · have hk4 : k = 4 := by omega
      subst hk4
      have B0 := R.out.blk
      have B1 := R.out.res
      have U := Lib.hid R.out.upd
      clear R hlt hk
      rw [show ((4 : Nat) : Int) = 4 from rfl]
      go_wp2_with (first | (refine wpList_load_row rfl 42 _ rfl (w.heap.size) rfl 42 _ (0, 0) _ (B0) Try.underlying42 rfl (iqt.trans (by rw [arrv_size])) ?_) | (refine wpList_store_row rfl 42 _ _ rfl (w.heap.size + 1) _ rfl rfl 42 _ (B1) (iqt.trans (by rw [arrv_size])) (by rw [arrv_size, arrv_size]) (oneCell_arrv _ _) ?_))
      refine bodyPost_ret (results_cell_row Try.results49 _ _ (w.heap.size + 1) 42 (arrv 4 (satK A 4)) (0, 0) _ rfl (setRow_heap _ _ _ _ _ _ B1) Try.underlying42 rfl (iqt.trans (by rw [arrv_size]))) rfl ⟨?_, ?_⟩
      · rw [arrv_congr (g := satA A) fun i hi => by simp only [satK, satA]; rw [if_pos hi]]
      · exact U.out.then' (below_row (Below.refl _ _) (by omega) _)
end Go.Proofs.Ytpoiobgpggiebaa
/- Contract of quat.Unit. -/
namespace Go.Proofs.Ytpoiobgpggiebaa
open Go.RowKit
set_option maxRecDepth 100000
theorem zer4_eq (A : Nat → Int) : eqB 4 A (fun _ => 0) = zer4 A := by
  rw [Bool.eq_iff_iff, eqB_iff]
  simp only [zer4, Bool.and_eq_true, decide_eq_true_eq]
  constructor
  · intro h
    exact ⟨⟨⟨h 0 (by decide), h 1 (by decide)⟩, h 2 (by decide)⟩, h 3 (by decide)⟩
  · rintro ⟨⟨⟨a, b⟩, d⟩, e⟩ i hi
    obtain rfl | rfl | rfl | rfl : i = 0 ∨ i = 1 ∨ i = 2 ∨ i = 3 := by omega
    · exact a
    · exact b
    · exact d
    · exact e
theorem divV_ok (c : Addr) (h : Bool) (a b : Int) (w : World) (hc : w.cell? c = some (.bool h)) (hf : w.frozen? c = false) :
    Calls Try.prog 53 #[.pointer (some c), .int .i64 a, .int .i64 b, .int .i64 30] w fun e w' => e = .returned (.int .i64 (divV a b 30)) ∧ Upd c (h || divH a b 30) w w' := fdiv_any c h a b 30 w hc hf
/-- n turns of Unit's loop. -/
def turN (A : Nat → Int) : Nat → Nat → Int | 0 => A | n + 1 => uniT (turN A n)
def turH (A : Nat → Int) : Nat → Bool | 0 => false | n + 1 => turH A n || uniTH (turN A n)
/-- Of a turn the first k. -/
def turK (A : Nat → Int) (m : Int) (k : Nat) : Nat → Int := fun i => if i < k then divV (A i) m 30 else A i
structure QuR (c : Addr) (h : Bool) (g : Nat → Int) (w wr : World) : Prop where
  upd : Upd c h w wr
  blk : Blk wr w.heap.size 42 4 g
  res : Blk wr (w.heap.size + 1) 42 4 (fun _ => 0)
theorem QuR.upd' {c : Addr} {h h' : Bool} {g : Nat → Int} {w wr w' : World} (s : QuR c h g w wr) (hc : c.block < w.heap.size) (u : Upd c h' wr w') : QuR c h' g w w' :=
  ⟨s.upd.trans u, s.blk.upd u (by omega), s.res.upd u (by omega)⟩
set_option maxHeartbeats 2000000 in
theorem qunit_any (c : Addr) (h : Bool) (A : Nat → Int) (w : World) (hc : w.cell? c = some (.bool h)) (hf : w.frozen? c = false) :
    Calls Try.prog 31 #[.pointer (some c), .agg (arrv 4 A)] w fun e w' => e = .returned (.agg (arrv 4 (uniV A))) ∧ Upd c (h || uniH A) w w' := by
  have hcb := World.block_lt_of_cell? w c hc
  have S0 : QuR c h A w ((w.alloc (.cells (arrv 4 A) 42)).alloc (.cells #[.int .i64 0, .int .i64 0, .int .i64 0, .int .i64 0] 42)) :=
    ⟨Upd.then (Upd.refl hc) (by (repeat (first | with_reducible exact Below.refl _ _ | with_reducible apply Below.drew | (with_reducible refine below_drewN ?_ _) | (with_reducible refine Below.alloc ?_ (by (try simp) <;> omega) _) | (with_reducible refine Below.setCell ?_ (by (try simp) <;> omega) _)))), Blk.alloc (Blk.new w _ 4 A) _, by rw [zq4]; exact Blk.new1 w _ _ 4 _⟩
  have HC := Lib.hid hc
  have HF := Lib.hid hf
  clear hc hf
  go_enter Try.func31, Try.ntmps31
  go_upto_region 1 with fail
  generalize (w.alloc (.cells (arrv 4 A) 42)).alloc (.cells #[.int .i64 0, .int .i64 0, .int .i64 0, .int .i64 0] 42) = W0 at *
  have P0 := S0.blk
  have H0 := Lib.hid S0
  have SC := Lib.hid (qsat_any c h A W0 (S0.upd.cellc HC.out) ((S0.upd.frozen hcb).trans HF.out))
  clear S0
  go_upto_region 2 with (first | (refine wpList_load_row rfl 42 _ rfl (w.heap.size) rfl 42 _ (0, 0) _ (P0) Try.underlying42 rfl (iqt.trans (by rw [arrv_size])) ?_) | (go_at_call 49; (refine SC.out.mono ?_); rintro e w1 ⟨rfl, hu1⟩; have P1 := P0.upd hu1 (by omega)) | (refine wpList_store_row rfl 42 _ _ rfl (w.heap.size) _ rfl rfl 42 _ (P1) (iqt.trans (by rw [arrv_size])) (by rw [arrv_size, arrv_size]) (oneCell_arrv _ _) ?_))
  have S1 := H0.out.upd' hcb hu1
  have S2 : QuR c (h || orB (fun i => satH (A i)) 4) (satA A) w (w1.setRow w.heap.size (arrv 4 (satA A))) :=
    ⟨S1.upd.then' (below_row (Below.refl _ _) (Nat.le_refl _) _), S1.blk.setRow _, S1.res.setRow_other _ (by omega)⟩
  clear S1 SC P0 P1 H0 hu1
  generalize w1.setRow w.heap.size (arrv 4 (satA A)) = W1 at *
  have P2 := S2.blk
  have H2 := Lib.hid S2
  have EZ := zer4_eq (satA A)
  by_cases hz : zer4 (satA A) = true
  · rw [hz] at EZ
    have e1 : uniV A = oneQ := by unfold uniV; rw [if_pos hz]
    have e2 : (h || uniH A) = (h || orB (fun i => satH (A i)) 4) := by unfold uniH; rw [if_pos hz, Bool.or_false]
    have EZ := Lib.hid EZ
    have E1 := Lib.hid (And.intro e1 e2)
    clear hz e1 e2 S2
    refine wp_region_lit ?_
    refine wpList_val (v := ?_) rfl ?_ ?_
    rotate_left
    · refine Eq.trans (run_load_row 42 (.tmp 3) (by rfl) (w.heap.size) (by rfl) _ _ _ _ (P2) Try.underlying42 rfl (iqt.trans (by rw [arrv_size]))) ?_; with_reducible rfl
    (try simp only [Act.put, nA, nB, nC])
    refine wpList_val (v := ?_) rfl ?_ ?_
    rotate_left
    · (go_simp; (try (first | with_reducible rfl | (constructor <;> with_reducible rfl))))
    (try simp only [Act.put, nA, nB, nC])
    refine wpList_val (v := ?_) rfl ?_ ?_
    rotate_left
    · refine Eq.trans (run_op_eqlVec Try.underlying42 (by kernel_rfl) (.tmp 10) (.tmp 11) (by rfl) (by rfl) (g := fun _ => 0) (by rw [← zq4]; rfl) EZ.out) ?_; with_reducible rfl
    (try simp only [Act.put, nA, nB, nC])
    refine wpList_nil ?_
    have B1 := H2.out.res
    go_wp2_with fail
    refine (qone_any _).mono ?_; rintro e w3 ⟨rfl, hb3⟩
    have R3 := B1.below hb3
    go_wp2_with (refine wpList_store_row rfl 42 _ _ rfl (w.heap.size + 1) _ rfl rfl 42 _ (R3) (iqt.trans (by rw [arrv_size])) (by rw [arrv_size, arrv_size]) (oneCell_arrv _ _) ?_)
    refine bodyPost_ret (results_cell_row Try.results31 _ _ (w.heap.size + 1) 42 (arrv 4 oneQ) (0, 0) _ rfl (setRow_heap _ _ _ _ _ _ R3) Try.underlying42 rfl (iqt.trans (by rw [arrv_size]))) rfl ⟨by rw [E1.out.1], ?_⟩
    rw [E1.out.2]
    exact (H2.out.upd.then hb3).then' (below_row (Below.refl _ _) (by omega) _)
  · have hz2 : zer4 (satA A) = false := by simpa using hz
    rw [hz2] at EZ
    have e1 : uniV A = uniT (uniT (satA A)) := by unfold uniV; rw [if_neg hz]
    have e2 : (h || uniH A) = (h || orB (fun i => satH (A i)) 4 || turH (satA A) 2) := by unfold uniH; rw [if_neg hz, ← Bool.or_assoc]; simp [turH, turN]
    have EZ := Lib.hid EZ
    have E1 := Lib.hid (And.intro e1 e2)
    clear hz e1 e2 S2 hz2
    refine wp_region_lit ?_
    refine wpList_val (v := ?_) rfl ?_ ?_
    rotate_left
    · refine Eq.trans (run_load_row 42 (.tmp 3) (by rfl) (w.heap.size) (by rfl) _ _ _ _ (P2) Try.underlying42 rfl (iqt.trans (by rw [arrv_size]))) ?_; with_reducible rfl
    (try simp only [Act.put, nA, nB, nC])
    refine wpList_val (v := ?_) rfl ?_ ?_
    rotate_left
    · (go_simp; (try (first | with_reducible rfl | (constructor <;> with_reducible rfl))))
    (try simp only [Act.put, nA, nB, nC])
    refine wpList_val (v := ?_) rfl ?_ ?_
    rotate_left
    · refine Eq.trans (run_op_eqlVec Try.underlying42 (by kernel_rfl) (.tmp 10) (.tmp 11) (by rfl) (by rfl) (g := fun _ => 0) (by rw [← zq4]; rfl) EZ.out) ?_; with_reducible rfl
    (try simp only [Act.put, nA, nB, nC])
    refine wpList_nil ?_
    obtain ⟨H1, hH1⟩ : ∃ H1, (h || orB (fun i => satH (A i)) 4) = H1 := ⟨_, rfl⟩
    obtain ⟨B, hB⟩ : ∃ B, satA A = B := ⟨_, rfl⟩
    rw [hH1, hB] at H2
    have E2 : Hid (uniV A = turN B 2 ∧ (h || uniH A) = (H1 || turH B 2)) := by rw [← hB, ← hH1]; exact E1
    clear hH1 hB EZ P2
    go_wp2_with fail
    go_loopw [14] (fun i wr => ∃ n : Nat, n ≤ 2 ∧ i = .int .i64 n ∧ Hid (QuR c (H1 || turH B n) (turN B n) w wr)) (fun i _ => 2 - (intOf i).toNat)
    case atStart => exact ⟨0, by omega, rfl, by rw [show (H1 || turH B 0) = H1 from by simp [turH]]; exact H2.out⟩
    case round =>
      obtain ⟨n, hn, rfl, R⟩ := hrel
      by_cases hlt : n < 2
      · have d1 : decide ((n : Int) < 2) = true := by simp; omega
        obtain ⟨G, hG⟩ : ∃ G, turN B n = G := ⟨_, rfl⟩
        obtain ⟨H3, hH3⟩ : ∃ H3, (H1 || turH B n) = H3 := ⟨_, rfl⟩
        have hstep : turN B (n + 1) = uniT G ∧ (H1 || turH B (n + 1)) = (H3 || uniTH G) := by rw [← hG, ← hH3]; exact ⟨rfl, by simp [turH, Bool.or_assoc]⟩
        have HST := Lib.hid hstep
        rw [hG, hH3] at R
        clear hG hH3 hstep H2
        have rc := R.out.upd.cellc HC.out
        have rf := (R.out.upd.frozen hcb).trans HF.out
        have HY := Lib.hid (hypot_any c H3 G w.heap.size 0 4 4 wr rc rf (by decide) (by decide) (fun i hi => by rw [Nat.zero_add]; exact R.out.blk.cell hi))
        go_wp2_with fail
        refine HY.out.mono ?_; rintro e w2 ⟨rfl, hu2⟩
        have R2 := Lib.hid (R.out.upd' hcb hu2)
        obtain ⟨M, hM⟩ : ∃ M, hypV G 4 = M := ⟨_, rfl⟩
        obtain ⟨H4, hH4⟩ : ∃ H4, (H3 || hypH G 4) = H4 := ⟨_, rfl⟩
        rw [hM]
        rw [hH4] at R2
        have HM := Lib.hid (And.intro hM hH4)
        clear hM hH4 hu2 HY R rc rf
        go_wp2_with fail
        go_loopw [19] (fun i wr => ∃ k : Nat, k ≤ 4 ∧ i = .int .i64 k ∧ Hid (QuR c (H4 || orB (fun i => divH (G i) M 30) k) (turK G M k) w wr)) (fun i _ => 4 - (intOf i).toNat)
        case atStart =>
          refine ⟨0, by omega, rfl, ?_⟩
          rw [show (H4 || orB (fun i => divH (G i) M 30) 0) = H4 from by simp [orB]]
          exact ⟨R2.out.upd, R2.out.blk.congr fun i hi => by simp [turK], R2.out.res⟩
        case round =>
          obtain ⟨k, hk, rfl, R⟩ := hrel
          by_cases hlt4 : k < 4
          · have rc := R.out.upd.cellc HC.out
            have rf := (R.out.upd.frozen hcb).trans HF.out
            have b0 := R.out.blk.cell (i := k) (by omega)
            have hv : turK G M k k = G k := by simp [turK]
            rw [hv] at b0
            have DV := Lib.hid (divV_ok c _ (G k) M _ rc rf)
            clear hv rc rf
            go_wp2_with fail
            refine DV.out.mono ?_; rintro e w3 ⟨rfl, hu3⟩
            have R3 := Lib.hid (R.out.upd' hcb hu3)
            have b1 := R3.out.blk.cell (i := k) (by omega)
            have b2 := R3.out.blk.free k
            clear hu3 DV R
            go_wp2_with fail
            go_roundw
            case rel =>
              refine ⟨k + 1, by omega, by go_num, ⟨?_, ?_, ?_⟩⟩
              · rw [show (H4 || orB (fun i => divH (G i) M 30) (k + 1)) = (H4 || orB (fun i => divH (G i) M 30) k || divH (G k) M 30) from by simp [orB, Bool.or_assoc]]
                exact R3.out.upd.setCell (Nat.le_refl _) _
              · refine (R3.out.blk.set _ _).congr fun i hi => ?_
                simp only [Go.Proofs.Ytpoiobgpggiebaa.upd, turK]
                by_cases h1 : i = k
                · subst h1; simp
                · rw [if_neg h1]; split <;> split <;> first | rfl | omega
              · exact R3.out.res.other (by simp) _
            case measure => simp [intOf]; omega
          · have hk4 : k = 4 := by omega
            subst hk4
            rw [show ((4 : Nat) : Int) = 4 from rfl]
            clear hlt4 hk
            go_wp2_with fail
            go_roundw
            case rel =>
              refine ⟨n + 1, by omega, by go_num, ?_⟩
              rw [HST.out.1, HST.out.2]
              have e3 : (H3 || uniTH G) = (H4 || orB (fun i => divH (G i) M 30) 4) := by rw [← HM.out.2, ← HM.out.1]; simp [uniTH, Bool.or_assoc]
              rw [e3]
              exact ⟨R.out.upd, R.out.blk.congr fun i hi => by simp only [turK, uniT, HM.out.1]; rw [if_pos hi], R.out.res⟩
            case measure => simp [intOf]; omega
      · have hn2 : n = 2 := by omega
        subst hn2
        rw [show ((2 : Nat) : Int) = 2 from rfl]
        have B0 := R.out.blk
        have B1 := R.out.res
        have U := Lib.hid R.out.upd
        clear R hlt hn H2
        go_wp2_with (first | (refine wpList_load_row rfl 42 _ rfl (w.heap.size) rfl 42 _ (0, 0) _ (B0) Try.underlying42 rfl (iqt.trans (by rw [arrv_size])) ?_) | (refine wpList_store_row rfl 42 _ _ rfl (w.heap.size + 1) _ rfl rfl 42 _ (B1) (iqt.trans (by rw [arrv_size])) (by rw [arrv_size, arrv_size]) (oneCell_arrv _ _) ?_))
        refine bodyPost_ret (results_cell_row Try.results31 _ _ (w.heap.size + 1) 42 (arrv 4 (turN B 2)) (0, 0) _ rfl (setRow_heap _ _ _ _ _ _ B1) Try.underlying42 rfl (iqt.trans (by rw [arrv_size]))) rfl ⟨by rw [E2.out.1], ?_⟩
        rw [E2.out.2]
        exact U.out.then' (below_row (Below.refl _ _) (by omega) _)
end Go.Proofs.Ytpoiobgpggiebaa
