/- Contract of math/bits.Div64: the whole. -/
import Derived.Test.YtcbklolfibdffaaDiv
import Derived.Lib.BitFns
import Derived.Lib.ItoaNum
namespace Go.Proofs.Ytcbklolfibdffaa
open Go.RowKit
set_option maxRecDepth 100000
theorem lz_facts (d : Int) (d0 : 0 < d) (d1 : d < 18446744073709551616) :
    ∃ s : Nat, s < 64 ∧ (64 - (Lib.bitLen d.toNat : Int)) = s ∧ 9223372036854775808 ≤ d * 2 ^ s ∧ d * 2 ^ s < 18446744073709551616 := by
  obtain ⟨n, rfl⟩ := Int.eq_ofNat_of_zero_le (Int.le_of_lt d0)
  have hb := Lib.bitLenAux_bounds 64 n (by omega) (by omega)
  rw [Int.toNat_natCast]
  have hle := Lib.bitLen_le n 64 (by omega) (by omega)
  unfold Lib.bitLen at *
  generalize Lib.bitLenAux 64 n = k at *
  obtain ⟨h1, h2, h3⟩ := hb
  refine ⟨64 - k, by omega, by omega, ?_, ?_⟩
  · have : 2 ^ (k - 1) * 2 ^ (64 - k) ≤ n * 2 ^ (64 - k) := Nat.mul_le_mul_right _ h2
    rw [← Nat.pow_add, show k - 1 + (64 - k) = 63 from by omega] at this
    have e : ((n : Int) * 2 ^ (64 - k)) = ((n * 2 ^ (64 - k) : Nat) : Int) := by simp
    rw [e]; omega
  · have : n * 2 ^ (64 - k) < 2 ^ k * 2 ^ (64 - k) := Nat.mul_lt_mul_of_pos_right h3 (Nat.two_pow_pos _)
    rw [← Nat.pow_add, show k + (64 - k) = 64 from by omega] at this
    have e : ((n : Int) * 2 ^ (64 - k)) = ((n * 2 ^ (64 - k) : Nat) : Int) := by simp
    rw [e]; omega
theorem mask32 (x : Int) (h0 : 0 ≤ x) (h1 : x < 18446744073709551616) : bits .and .u64 x 4294967295 = x % 4294967296 := by
  obtain ⟨a, rfl⟩ := Int.eq_ofNat_of_zero_le h0
  have h := bits_and_u64_nat a 4294967295 (by omega) (by omega)
  have e : a &&& 4294967295 = a % 4294967296 := Nat.and_two_pow_sub_one_eq_mod a 32
  rw [e] at h
  exact h.trans (by omega)
/-- The dividend, shifted: its two halves. -/
theorem shifted_halves (x y : Int) (s : Nat) (x0 : 0 ≤ x) (x1 : x < 18446744073709551616) (y0 : 0 ≤ y) (y1 : y < 18446744073709551616) (hs : s < 64) (hx : x * 2 ^ s < 18446744073709551616) :
    ∃ u v : Int, bits .or .u64 (IntKind.u64.wrap (x * 2 ^ s)) (y / 2 ^ (64 - s)) = u ∧ IntKind.u64.wrap (y * 2 ^ s) = v ∧ 0 ≤ u ∧ 0 ≤ v ∧ v < 18446744073709551616 ∧
      u * 18446744073709551616 + v = (x * 18446744073709551616 + y) * 2 ^ s ∧ u < x * 2 ^ s + 2 ^ s := by
  obtain ⟨x, rfl⟩ := Int.eq_ofNat_of_zero_le x0
  obtain ⟨y, rfl⟩ := Int.eq_ofNat_of_zero_le y0
  have ex : ((x : Int) * 2 ^ s) = ((x * 2 ^ s : Nat) : Int) := by simp
  have ey : ((y : Int) * 2 ^ s) = ((y * 2 ^ s : Nat) : Int) := by simp
  have ed : ((y : Int) / 2 ^ (64 - s)) = ((y / 2 ^ (64 - s) : Nat) : Int) := by simp
  have ep : ((2 : Int) ^ s) = ((2 ^ s : Nat) : Int) := by simp
  rw [ex] at hx
  have e := pow_split s hs
  have hp : 0 < 2 ^ s := Nat.two_pow_pos s
  have hq : 0 < 2 ^ (64 - s) := Nat.two_pow_pos _
  have hy : y / 2 ^ (64 - s) < 2 ^ s := by
    rw [Nat.div_lt_iff_lt_mul hq, e]; omega
  have hwx : IntKind.u64.wrap ((x * 2 ^ s : Nat) : Int) = ((x * 2 ^ s : Nat) : Int) := by rw [IntKind.wrap_u64]; omega
  have hor : (x * 2 ^ s) ||| (y / 2 ^ (64 - s)) = x * 2 ^ s + y / 2 ^ (64 - s) := by
    rw [Nat.mul_comm x, Nat.two_pow_add_eq_or_of_lt hy]
  have hps : 2 ^ s ≤ 18446744073709551616 := by rw [← e]; exact Nat.le_mul_of_pos_right _ hq
  refine ⟨_, _, rfl, rfl, ?_⟩
  rw [ex, ey, ed, hwx, bits_or_u64_nat _ _ (by omega) (by omega), hor, IntKind.wrap_u64, ep]
  have hm := Nat.div_add_mod (y * 2 ^ s) 18446744073709551616
  have hdd : y * 2 ^ s / 18446744073709551616 = y / 2 ^ (64 - s) := by
    rw [← e, Nat.mul_comm y]; exact Nat.mul_div_mul_left _ _ hp
  have hmul : (((x : Int) * 18446744073709551616 + y) * ((2 ^ s : Nat) : Int)) = ((x * 2 ^ s : Nat) : Int) * 18446744073709551616 + ((y * 2 ^ s : Nat) : Int) := by
    rw [Int.add_mul, Int.mul_assoc, Int.mul_comm 18446744073709551616, ← Int.mul_assoc, Int.natCast_mul, Int.natCast_mul]
  rw [hmul]
  generalize x * 2 ^ s = X at *
  generalize y * 2 ^ s = W at *
  generalize y / 2 ^ (64 - s) = Z at *
  generalize 2 ^ s = p at *
  omega
theorem div_scale (T d p : Int) (hp : 0 < p) : T * p / (d * p) = T / d ∧ T * p % (d * p) = T % d * p := by
  refine ⟨Int.mul_ediv_mul_of_pos_left T d hp, ?_⟩
  rw [Int.mul_comm T, Int.mul_comm d, Int.mul_emod_mul_of_pos _ _ hp, Int.mul_comm]
/-- Two digits of 32 bits. -/
theorem two_digits (u v1 v0 Y : Int) (hY : 0 < Y) :
    (u * 4294967296 * 4294967296 + v1 * 4294967296 + v0) / Y = (u * 4294967296 + v1) / Y * 4294967296 + ((u * 4294967296 + v1) % Y * 4294967296 + v0) / Y ∧
    (u * 4294967296 * 4294967296 + v1 * 4294967296 + v0) % Y = ((u * 4294967296 + v1) % Y * 4294967296 + v0) % Y := by
  have h := Int.mul_ediv_add_emod (u * 4294967296 + v1) Y
  have e : u * 4294967296 * 4294967296 + v1 * 4294967296 + v0 = ((u * 4294967296 + v1) % Y * 4294967296 + v0) + Y * ((u * 4294967296 + v1) / Y * 4294967296) := by
    rw [← Int.mul_assoc]; omega
  rw [e, Int.add_mul_ediv_left _ _ (Int.ne_of_gt hY), Int.add_mul_emod_self_left]
  exact ⟨by omega, rfl⟩

/-- bits.Div64, the dividend's upper half not nought. -/
theorem div64_hi (x y d : Int) (w : World) (x0 : 0 < x) (x1 : x < d) (y0 : 0 ≤ y) (y1 : y < 18446744073709551616) (d1 : d < 18446744073709551616) :
    Calls Try.prog 51 #[.int .u64 x, .int .u64 y, .int .u64 d] w fun e w' =>
      e = .returned (.tuple #[.int .u64 ((x * 18446744073709551616 + y) / d), .int .u64 ((x * 18446744073709551616 + y) % d)]) ∧ w = w' := by
  obtain ⟨s, hs, hlz, hn0, hn1⟩ := lz_facts d (by omega) d1
  have lz : ∀ w, Calls Try.prog 53 #[.int .u64 d] w fun e w' => e = .returned (.int .i64 (s : Int)) ∧ w = w' := fun w =>
    (bits_LeadingZeros64 d w (by omega) (by omega)).mono fun e w' h => ⟨h.1.trans (by rw [hlz]), h.2.symm⟩
  have hp : (0 : Int) < 2 ^ s := Int.pow_pos (by decide)
  have hxs : (x + 1) * 2 ^ s ≤ d * 2 ^ s := Int.mul_le_mul_of_nonneg_right (by omega) (Int.le_of_lt hp)
  rw [Int.add_mul, Int.one_mul] at hxs
  obtain ⟨u, v, e4, e5, u0, v0', v1', huv, hu⟩ := shifted_halves x y s (by omega) (by omega) y0 y1 hs (by omega)
  obtain ⟨Y, hY⟩ : ∃ Y : Int, d * 2 ^ s = Y := ⟨_, rfl⟩
  have hdiv := div_scale (x * 18446744073709551616 + y) d (2 ^ s) hp
  rw [← huv] at hdiv
  rw [hY] at hdiv hxs hn0 hn1
  have w1 : IntKind.u64.wrap (d * 2 ^ s) = Y := by rw [hY, IntKind.wrap_u64]; omega
  have ha := Int.emod_nonneg Y (show (4294967296 : Int) ≠ 0 by decide)
  have hY0 : 0 < Y := by omega
  have n1 : KNum u (v / 4294967296) Y (Y / 4294967296) (Y % 4294967296) := ⟨by omega, by omega, by omega, by omega, by omega, u0, by omega, by omega, by omega⟩
  have i1 := KInv.start n1
  have td := two_digits u (v / 4294967296) (v % 4294967296) Y hY0
  have huv2 : u * 4294967296 * 4294967296 + v / 4294967296 * 4294967296 + v % 4294967296 = u * 18446744073709551616 + v := by omega
  rw [huv2, hdiv.1, hdiv.2] at td
  obtain ⟨Q1, hQ1⟩ : ∃ Q1 : Int, (u * 4294967296 + v / 4294967296) / Y = Q1 := ⟨_, rfl⟩
  obtain ⟨u2, hu2⟩ : ∃ u2 : Int, (u * 4294967296 + v / 4294967296) % Y = u2 := ⟨_, rfl⟩
  have hu2a : 0 ≤ u2 := by rw [← hu2]; exact Int.emod_nonneg _ (Int.ne_of_gt hY0)
  have hu2b : u2 < Y := by rw [← hu2]; exact Int.emod_lt_of_pos _ hY0
  have hm1 := Int.mul_ediv_add_emod (u * 4294967296 + v / 4294967296) Y
  rw [hQ1, hu2, Int.mul_comm] at hm1
  have n2 : KNum u2 (v % 4294967296) Y (Y / 4294967296) (Y % 4294967296) := ⟨by omega, by omega, by omega, by omega, by omega, hu2a, hu2b, by omega, by omega⟩
  have i2 := KInv.start n2
  have q1a := n1.Q0
  have q1b := n1.Q1
  have q2a := n2.Q0
  have q2b := n2.Q1
  obtain ⟨Q2, hQ2⟩ : ∃ Q2 : Int, (u2 * 4294967296 + v % 4294967296) / Y = Q2 := ⟨_, rfl⟩
  obtain ⟨R2, hR2⟩ : ∃ R2 : Int, (u2 * 4294967296 + v % 4294967296) % Y = R2 := ⟨_, rfl⟩
  have hm2 := Int.mul_ediv_add_emod (u2 * 4294967296 + v % 4294967296) Y
  rw [hQ2, hR2, Int.mul_comm] at hm2
  have hR2a : 0 ≤ R2 := by rw [← hR2]; exact Int.emod_nonneg _ (Int.ne_of_gt hY0)
  have hR2b : R2 < Y := by rw [← hR2]; exact Int.emod_lt_of_pos _ hY0
  rw [hQ1] at q1a q1b
  rw [hQ2] at q2a q2b
  rw [hu2, hQ1, hQ2, hR2] at td
  have iq := i1.q0 n1
  have iq2 := i1.q1
  have ir := i1.r0
  have ir2 := i1.r1
  have is1 := i1.sum
  have jq := i2.q0 n2
  have jq2 := i2.q1
  have jr := i2.r0
  have jr2 := i2.r1
  have js1 := i2.sum
  have ht : ∀ z a : Int, 0 ≤ z → 0 ≤ a → z.tdiv a = z / a := fun z a h _ => Int.tdiv_eq_ediv_of_nonneg h
  have hfin : R2 / 2 ^ (s : Int).toNat = (x * 18446744073709551616 + y) % d := by
    rw [Int.toNat_natCast, ← td.2, Int.mul_ediv_cancel _ (Int.ne_of_gt hp)]
  have main := div64_big x y d s Y (Y / 4294967296) (Y % 4294967296) u v (v / 4294967296) (v % 4294967296) (u / (Y / 4294967296)) (u - u / (Y / 4294967296) * (Y / 4294967296))
    u2 (u2 / (Y / 4294967296)) (u2 - u2 / (Y / 4294967296) * (Y / 4294967296)) Q1 Q2 (IntKind.u64.wrap (IntKind.u64.wrap (u * 4294967296) + v / 4294967296)) (IntKind.u64.wrap (Q1 * Y)) (Q1 * 4294967296 + Q2)
    (IntKind.u64.wrap (IntKind.u64.wrap (u2 * 4294967296) + v % 4294967296)) R2 ((x * 18446744073709551616 + y) % d) w x0 x1 (by omega) (by omega) lz
    (by rw [Int.toNat_natCast]; exact w1) rfl (by omega) (mask32 Y (by omega) hn1) (by rw [Int.toNat_natCast, show (64 - (s : Int)).toNat = 64 - s from by omega]; exact e4) (by rw [Int.toNat_natCast]; exact e5)
    rfl (mask32 v v0' v1')
    (by rw [ht _ _ u0 (by omega), IntKind.wrap_u64]; omega)
    (by simp only [IntKind.wrap_u64]; omega) n1 i1 hQ1 rfl rfl
    (by simp only [IntKind.wrap_u64]; omega)
    (by rw [ht _ _ hu2a (by omega), IntKind.wrap_u64]; omega)
    (by simp only [IntKind.wrap_u64]; omega) n2 i2 hQ2
    (by simp only [IntKind.wrap_u64]; omega) rfl
    (by simp only [IntKind.wrap_u64]; omega)
    hfin
  rw [td.1]
  exact main

/-- bits.Div64. -/
theorem div64_any (x y d : Int) (w : World) (x0 : 0 ≤ x) (x1 : x < d) (y0 : 0 ≤ y) (y1 : y < 18446744073709551616) (d1 : d < 18446744073709551616) :
    Calls Try.prog 51 #[.int .u64 x, .int .u64 y, .int .u64 d] w fun e w' =>
      e = .returned (.tuple #[.int .u64 ((x * 18446744073709551616 + y) / d), .int .u64 ((x * 18446744073709551616 + y) % d)]) ∧ Below w.heap.size w w' := by
  by_cases h : x = 0
  · subst h
    have c1 : ¬ d ≤ 0 := by omega
    have c2 : (d == 0) = false := by simp; omega
    have c4 : ¬ d = 0 := by omega
    have H := Lib.hid y1
    have H2 := Lib.hid d1
    have e1 : IntKind.u64.wrap (y.tdiv d) = y / d := by
      rw [IntKind.wrap_u64, Int.tdiv_eq_ediv_of_nonneg y0]
      have := Int.ediv_nonneg y0 (show 0 ≤ d by omega)
      have : y / d ≤ y := Int.ediv_le_self _ y0
      omega
    have e2 : IntKind.u64.wrap (y.tmod d) = y % d := by
      rw [IntKind.wrap_u64, Int.tmod_eq_emod_of_nonneg y0]
      have := Int.emod_nonneg y c4
      have := Int.emod_lt_of_pos y (show 0 < d by omega)
      omega
    have e3 : y.tmod d = y % d := Int.tmod_eq_emod_of_nonneg y0
    clear y1 d1
    rw [Int.zero_mul, Int.zero_add]
    go_enter Try.func51, Try.ntmps51
    go_wp2_with fail
    go_quiet (fail)
    go_wp2
    go_ret2
    exact ⟨rfl, by (repeat (first | with_reducible exact Below.refl _ _ | with_reducible apply Below.drew | (with_reducible refine below_drewN ?_ _) | (with_reducible refine Below.alloc ?_ (by (try simp) <;> omega) _) | (with_reducible refine Below.setCell ?_ (by (try simp) <;> omega) _)))⟩
  · exact (div64_hi x y d w (by omega) x1 y0 y1 d1).mono fun e w' ⟨h1, h2⟩ => ⟨h1, h2 ▸ Below.refl _ _⟩
end Go.Proofs.Ytcbklolfibdffaa
