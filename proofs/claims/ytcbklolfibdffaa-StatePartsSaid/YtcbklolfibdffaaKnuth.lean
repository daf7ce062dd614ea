/- Plain: division of 128 bits by 64, as math/bits does it (Knuth's algorithm D). No program here. -/
namespace Go.Proofs.Ytcbklolfibdffaa

theorem kn_mulY (q a b Y : Int) (hY : Y = a * 4294967296 + b) : q * Y = q * a * 4294967296 + q * b := by
  rw [hY, Int.mul_add, Int.mul_assoc]
/-- What holds at a round's head: q is no smaller than the true digit. -/
structure KInv (u v Y a b q r : Int) : Prop where
  sum : q * a + r = u
  ge : (u * 4294967296 + v) / Y ≤ q
  r0 : 0 ≤ r
  r1 : r < 4294967296
  q1 : q ≤ 4294967297
/-- What is known of the divisor's halves and the number's. -/
structure KNum (u v Y a b : Int) : Prop where
  hY : Y = a * 4294967296 + b
  a0 : 2147483648 ≤ a
  a1 : a < 4294967296
  b0 : 0 ≤ b
  b1 : b < 4294967296
  u0 : 0 ≤ u
  u1 : u < Y
  v0 : 0 ≤ v
  v1 : v < 4294967296
theorem KNum.Y0 {u v Y a b : Int} (n : KNum u v Y a b) : 0 < Y := by have := n.hY; have := n.a0; have := n.b0; omega
theorem KNum.Q0 {u v Y a b : Int} (n : KNum u v Y a b) : 0 ≤ (u * 4294967296 + v) / Y := Int.ediv_nonneg (by have := n.u0; have := n.v0; omega) (Int.le_of_lt n.Y0)
theorem KNum.Q1 {u v Y a b : Int} (n : KNum u v Y a b) : (u * 4294967296 + v) / Y < 4294967296 :=
  Int.ediv_lt_of_lt_mul n.Y0 (by have := n.u1; have := n.v1; omega)
theorem KInv.start {u v Y a b : Int} (n : KNum u v Y a b) : KInv u v Y a b (u / a) (u - u / a * a) := by
  have ha : 0 < a := by have := n.a0; omega
  have hm := Int.emod_nonneg u (Int.ne_of_gt ha)
  have hm2 := Int.emod_lt_of_pos u ha
  have hd := Int.mul_ediv_add_emod u a
  rw [Int.mul_comm] at hd
  have hr : u - u / a * a = u % a := by omega
  refine ⟨by omega, ?_, by omega, by have := n.a1; omega, ?_⟩
  · apply Int.le_of_lt_add_one
    apply Int.ediv_lt_of_lt_mul n.Y0
    rw [kn_mulY (u / a + 1) a b Y n.hY]
    have h1 : (u / a + 1) * a = u / a * a + a := by rw [Int.add_mul, Int.one_mul]
    have h2 : 0 ≤ (u / a + 1) * b := Int.mul_nonneg (by have := Int.ediv_nonneg n.u0 (Int.le_of_lt ha); omega) n.b0
    rw [h1]
    have := n.v1
    omega
  · apply Int.le_of_lt_add_one
    apply Int.ediv_lt_of_lt_mul ha
    have := n.u1; have := n.hY; have := n.b1; have := n.a0
    omega
theorem kn_key {u v Y a b q r : Int} (n : KNum u v Y a b) (s : q * a + r = u) : u * 4294967296 + v - q * Y = 4294967296 * r + v - q * b := by
  rw [kn_mulY q a b Y n.hY, ← s]
  omega
/-- The test says: too great. -/
theorem KInv.less {u v Y a b q r : Int} (n : KNum u v Y a b) (i : KInv u v Y a b q r) (h : 4294967296 ≤ q ∨ 4294967296 * r + v < q * b) :
    (u * 4294967296 + v) / Y ≤ q - 1 ∧ 1 ≤ q := by
  have hq : (u * 4294967296 + v) / Y ≤ q - 1 := by
    rcases h with h | h
    · have := n.Q1; omega
    · have := kn_key n i.sum
      have h2 : (u * 4294967296 + v) / Y < q := Int.ediv_lt_of_lt_mul n.Y0 (by omega)
      omega
  have := n.Q0
  exact ⟨hq, by omega⟩
theorem KInv.next {u v Y a b q r : Int} (n : KNum u v Y a b) (i : KInv u v Y a b q r) (h : 4294967296 ≤ q ∨ 4294967296 * r + v < q * b) (hr : r + a < 4294967296) :
    KInv u v Y a b (q - 1) (r + a) := by
  obtain ⟨h1, _⟩ := i.less n h
  refine ⟨?_, h1, by have := i.r0; have := n.a0; omega, hr, by have := i.q1; omega⟩
  have := i.sum
  rw [Int.sub_mul, Int.one_mul]; omega
theorem KInv.broke {u v Y a b q r : Int} (n : KNum u v Y a b) (i : KInv u v Y a b q r) (h : 4294967296 ≤ q ∨ 4294967296 * r + v < q * b) (hr : 4294967296 ≤ r + a) :
    q - 1 = (u * 4294967296 + v) / Y := by
  obtain ⟨h1, h2⟩ := i.less n h
  have s : (q - 1) * a + (r + a) = u := by have := i.sum; rw [Int.sub_mul, Int.one_mul]; omega
  have k := kn_key n s
  have hb : (q - 1) * b ≤ 4294967296 * b := Int.mul_le_mul_of_nonneg_right (by have := i.q1; omega) n.b0
  have : q - 1 ≤ (u * 4294967296 + v) / Y := Int.le_ediv_of_mul_le n.Y0 (by have := n.b1; have := n.v0; omega)
  omega
theorem KInv.done {u v Y a b q r : Int} (n : KNum u v Y a b) (i : KInv u v Y a b q r) (h : ¬ 4294967296 * r + v < q * b) : q = (u * 4294967296 + v) / Y := by
  have k := kn_key n i.sum
  have : q ≤ (u * 4294967296 + v) / Y := Int.le_ediv_of_mul_le n.Y0 (by omega)
  have := i.ge
  omega
theorem KInv.q0 {u v Y a b q r : Int} (n : KNum u v Y a b) (i : KInv u v Y a b q r) : 0 ≤ q := by have := n.Q0; have := i.ge; omega
theorem KInv.qb {u v Y a b q r : Int} (n : KNum u v Y a b) (i : KInv u v Y a b q r) (h : ¬ 4294967296 ≤ q) : 0 ≤ q * b ∧ q * b < 18446744073709551616 := by
  have := i.q0 n
  refine ⟨Int.mul_nonneg this n.b0, ?_⟩
  have h1 : q * b ≤ 4294967295 * b := Int.mul_le_mul_of_nonneg_right (by omega) n.b0
  have := n.b1
  omega
end Go.Proofs.Ytcbklolfibdffaa
