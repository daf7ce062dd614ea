/- Contracts of the program's functions and plain laws, part 2: they hold for all arguments. -/
import Derived.Test.YtgfklheepkgedaaGreatQ01
import Derived.Lib.BitFns
import Derived.Lib.ItoaNum
import Derived.IntWalk
import Derived.Deep.LoopGhost
/- Contract of math/bits.Div64: the whole. -/
namespace Go.Proofs.YtgfklheepkgedaaGreat
open Go.RowKit
set_option maxRecDepth 100000
theorem lz_facts (d : Int) (d0 : 0 < d) (d1 : d < 18446744073709551616) :
  ∃ s : Nat, s < 64 ∧ (64 - (Lib.bitLen d.toNat : Int)) = s ∧ 9223372036854775808 ≤ d * 2 ^ s ∧ d * 2 ^ s < 18446744073709551616 := by
 obtain ⟨n, rfl⟩ := Int.eq_ofNat_of_zero_le (Int.le_of_lt d0)
 have hb := Lib.bitLenAux_bounds 64 n (by omega) (by omega)
 rw [Int.toNat_natCast]
 have hle := Lib.bitLen_le n 64 (by omega) (by omega)
 unfold Lib.bitLen at *
 generalize Lib.bitLenAux 64 n = k at *
 obtain ⟨h1, h2, h3⟩ := hb
 refine ⟨64 - k, by omega, by omega, ?_, ?_⟩
 ·have : 2 ^ (k - 1) * 2 ^ (64 - k) ≤ n * 2 ^ (64 - k) := Nat.mul_le_mul_right _ h2
  rw [← Nat.pow_add, show k - 1 + (64 - k) = 63 from by omega] at this
  have e : ((n : Int) * 2 ^ (64 - k)) = ((n * 2 ^ (64 - k) : Nat) : Int) := by simp
  rw [e]; omega
 ·have : n * 2 ^ (64 - k) < 2 ^ k * 2 ^ (64 - k) := Nat.mul_lt_mul_of_pos_right h3 (Nat.two_pow_pos _)
  rw [← Nat.pow_add, show k + (64 - k) = 64 from by omega] at this
  have e : ((n : Int) * 2 ^ (64 - k)) = ((n * 2 ^ (64 - k) : Nat) : Int) := by simp
  rw [e]; omega
theorem mask32 (x : Int) (h0 : 0 ≤ x) (h1 : x < 18446744073709551616) : bits .and .u64 x 4294967295 = x % 4294967296 := by
 obtain ⟨a, rfl⟩ := Int.eq_ofNat_of_zero_le h0
 have h := bits_and_u64_nat a 4294967295 (by omega) (by omega)
 have e : a &&& 4294967295 = a % 4294967296 := Nat.and_two_pow_sub_one_eq_mod a 32
 rw [e] at h
 exact h.trans (by omega)
/-- The dividend, shifted: its two halves. -/
theorem shifted_halves (x y : Int) (s : Nat) (x0 : 0 ≤ x) (x1 : x < 18446744073709551616) (y0 : 0 ≤ y) (y1 : y < 18446744073709551616) (hs : s < 64) (hx : x * 2 ^ s < 18446744073709551616) :
  ∃ u v : Int, bits .or .u64 (IntKind.u64.wrap (x * 2 ^ s)) (y / 2 ^ (64 - s)) = u ∧ IntKind.u64.wrap (y * 2 ^ s) = v ∧ 0 ≤ u ∧ 0 ≤ v ∧ v < 18446744073709551616 ∧
   u * 18446744073709551616 + v = (x * 18446744073709551616 + y) * 2 ^ s ∧ u < x * 2 ^ s + 2 ^ s := by
 obtain ⟨x, rfl⟩ := Int.eq_ofNat_of_zero_le x0
 obtain ⟨y, rfl⟩ := Int.eq_ofNat_of_zero_le y0
 have ex : ((x : Int) * 2 ^ s) = ((x * 2 ^ s : Nat) : Int) := by simp
 have ey : ((y : Int) * 2 ^ s) = ((y * 2 ^ s : Nat) : Int) := by simp
 have ed : ((y : Int) / 2 ^ (64 - s)) = ((y / 2 ^ (64 - s) : Nat) : Int) := by simp
 have ep : ((2 : Int) ^ s) = ((2 ^ s : Nat) : Int) := by simp
 rw [ex] at hx
 have e := pow_split s hs
 have hp : 0 < 2 ^ s := Nat.two_pow_pos s
 have hq : 0 < 2 ^ (64 - s) := Nat.two_pow_pos _
 have hy : y / 2 ^ (64 - s) < 2 ^ s := by
  rw [Nat.div_lt_iff_lt_mul hq, e]; omega
 have hwx : IntKind.u64.wrap ((x * 2 ^ s : Nat) : Int) = ((x * 2 ^ s : Nat) : Int) := by rw [IntKind.wrap_u64]; omega
 have hor : (x * 2 ^ s) ||| (y / 2 ^ (64 - s)) = x * 2 ^ s + y / 2 ^ (64 - s) := by
  rw [Nat.mul_comm x, Nat.two_pow_add_eq_or_of_lt hy]
 have hps : 2 ^ s ≤ 18446744073709551616 := by rw [← e]; exact Nat.le_mul_of_pos_right _ hq
 refine ⟨_, _, rfl, rfl, ?_⟩
 rw [ex, ey, ed, hwx, bits_or_u64_nat _ _ (by omega) (by omega), hor, IntKind.wrap_u64, ep]
 have hm := Nat.div_add_mod (y * 2 ^ s) 18446744073709551616
 have hdd : y * 2 ^ s / 18446744073709551616 = y / 2 ^ (64 - s) := by
  rw [← e, Nat.mul_comm y]; exact Nat.mul_div_mul_left _ _ hp
 have hmul : (((x : Int) * 18446744073709551616 + y) * ((2 ^ s : Nat) : Int)) = ((x * 2 ^ s : Nat) : Int) * 18446744073709551616 + ((y * 2 ^ s : Nat) : Int) := by
  rw [Int.add_mul, Int.mul_assoc, Int.mul_comm 18446744073709551616, ← Int.mul_assoc, Int.natCast_mul, Int.natCast_mul]
 rw [hmul]
 generalize x * 2 ^ s = X at *
 generalize y * 2 ^ s = W at *
 generalize y / 2 ^ (64 - s) = Z at *
 generalize 2 ^ s = p at *
 omega
theorem div_scale (T d p : Int) (hp : 0 < p) : T * p / (d * p) = T / d ∧ T * p % (d * p) = T % d * p := by
 refine ⟨Int.mul_ediv_mul_of_pos_left T d hp, ?_⟩
 rw [Int.mul_comm T, Int.mul_comm d, Int.mul_emod_mul_of_pos _ _ hp, Int.mul_comm]
/-- Two digits of 32 bits. -/
theorem two_digits (u v1 v0 Y : Int) (hY : 0 < Y) :
  (u * 4294967296 * 4294967296 + v1 * 4294967296 + v0) / Y = (u * 4294967296 + v1) / Y * 4294967296 + ((u * 4294967296 + v1) % Y * 4294967296 + v0) / Y ∧
  (u * 4294967296 * 4294967296 + v1 * 4294967296 + v0) % Y = ((u * 4294967296 + v1) % Y * 4294967296 + v0) % Y := by
 have h := Int.mul_ediv_add_emod (u * 4294967296 + v1) Y
 have e : u * 4294967296 * 4294967296 + v1 * 4294967296 + v0 = ((u * 4294967296 + v1) % Y * 4294967296 + v0) + Y * ((u * 4294967296 + v1) / Y * 4294967296) := by
  rw [← Int.mul_assoc]; omega
 rw [e, Int.add_mul_ediv_left _ _ (Int.ne_of_gt hY), Int.add_mul_emod_self_left]
 exact ⟨by omega, rfl⟩

/-- bits.Div64, the dividend's upper half not nought. -/
theorem div64_hi (x y d : Int) (w : World) (x0 : 0 < x) (x1 : x < d) (y0 : 0 ≤ y) (y1 : y < 18446744073709551616) (d1 : d < 18446744073709551616) :
  Calls Tryz.prog 126 #[.int .u64 x, .int .u64 y, .int .u64 d] w fun e w' =>
   e = .returned (.tuple #[.int .u64 ((x * 18446744073709551616 + y) / d), .int .u64 ((x * 18446744073709551616 + y) % d)]) ∧ w = w' := by
 obtain ⟨s, hs, hlz, hn0, hn1⟩ := lz_facts d (by omega) d1
 have lz : ∀ w, Calls Tryz.prog 128 #[.int .u64 d] w fun e w' => e = .returned (.int .i64 (s : Int)) ∧ w = w' := fun w =>
  (bits_LeadingZeros64 d w (by omega) (by omega)).mono fun e w' h => ⟨h.1.trans (by rw [hlz]), h.2.symm⟩
 have hp : (0 : Int) < 2 ^ s := Int.pow_pos (by decide)
 have hxs : (x + 1) * 2 ^ s ≤ d * 2 ^ s := Int.mul_le_mul_of_nonneg_right (by omega) (Int.le_of_lt hp)
 rw [Int.add_mul, Int.one_mul] at hxs
 obtain ⟨u, v, e4, e5, u0, v0', v1', huv, hu⟩ := shifted_halves x y s (by omega) (by omega) y0 y1 hs (by omega)
 obtain ⟨Y, hY⟩ : ∃ Y : Int, d * 2 ^ s = Y := ⟨_, rfl⟩
 have hdiv := div_scale (x * 18446744073709551616 + y) d (2 ^ s) hp
 rw [← huv] at hdiv
 rw [hY] at hdiv hxs hn0 hn1
 have w1 : IntKind.u64.wrap (d * 2 ^ s) = Y := by rw [hY, IntKind.wrap_u64]; omega
 have ha := Int.emod_nonneg Y (show (4294967296 : Int) ≠ 0 by decide)
 have hY0 : 0 < Y := by omega
 have n1 : KNum u (v / 4294967296) Y (Y / 4294967296) (Y % 4294967296) := ⟨by omega, by omega, by omega, by omega, by omega, u0, by omega, by omega, by omega⟩
 have i1 := KInv.start n1
 have td := two_digits u (v / 4294967296) (v % 4294967296) Y hY0
 have huv2 : u * 4294967296 * 4294967296 + v / 4294967296 * 4294967296 + v % 4294967296 = u * 18446744073709551616 + v := by omega
 rw [huv2, hdiv.1, hdiv.2] at td
 obtain ⟨Q1, hQ1⟩ : ∃ Q1 : Int, (u * 4294967296 + v / 4294967296) / Y = Q1 := ⟨_, rfl⟩
 obtain ⟨u2, hu2⟩ : ∃ u2 : Int, (u * 4294967296 + v / 4294967296) % Y = u2 := ⟨_, rfl⟩
 have hu2a : 0 ≤ u2 := by rw [← hu2]; exact Int.emod_nonneg _ (Int.ne_of_gt hY0)
 have hu2b : u2 < Y := by rw [← hu2]; exact Int.emod_lt_of_pos _ hY0
 have hm1 := Int.mul_ediv_add_emod (u * 4294967296 + v / 4294967296) Y
 rw [hQ1, hu2, Int.mul_comm] at hm1
 have n2 : KNum u2 (v % 4294967296) Y (Y / 4294967296) (Y % 4294967296) := ⟨by omega, by omega, by omega, by omega, by omega, hu2a, hu2b, by omega, by omega⟩
 have i2 := KInv.start n2
 have q1a := n1.Q0
 have q1b := n1.Q1
 have q2a := n2.Q0
 have q2b := n2.Q1
 obtain ⟨Q2, hQ2⟩ : ∃ Q2 : Int, (u2 * 4294967296 + v % 4294967296) / Y = Q2 := ⟨_, rfl⟩
 obtain ⟨R2, hR2⟩ : ∃ R2 : Int, (u2 * 4294967296 + v % 4294967296) % Y = R2 := ⟨_, rfl⟩
 have hm2 := Int.mul_ediv_add_emod (u2 * 4294967296 + v % 4294967296) Y
 rw [hQ2, hR2, Int.mul_comm] at hm2
 have hR2a : 0 ≤ R2 := by rw [← hR2]; exact Int.emod_nonneg _ (Int.ne_of_gt hY0)
 have hR2b : R2 < Y := by rw [← hR2]; exact Int.emod_lt_of_pos _ hY0
 rw [hQ1] at q1a q1b
 rw [hQ2] at q2a q2b
 rw [hu2, hQ1, hQ2, hR2] at td
 have iq := i1.q0 n1
 have iq2 := i1.q1
 have ir := i1.r0
 have ir2 := i1.r1
 have is1 := i1.sum
 have jq := i2.q0 n2
 have jq2 := i2.q1
 have jr := i2.r0
 have jr2 := i2.r1
 have js1 := i2.sum
 have ht : ∀ z a : Int, 0 ≤ z → 0 ≤ a → z.tdiv a = z / a := fun z a h _ => Int.tdiv_eq_ediv_of_nonneg h
 have hfin : R2 / 2 ^ (s : Int).toNat = (x * 18446744073709551616 + y) % d := by
  rw [Int.toNat_natCast, ← td.2, Int.mul_ediv_cancel _ (Int.ne_of_gt hp)]
 have main := div64_big x y d s Y (Y / 4294967296) (Y % 4294967296) u v (v / 4294967296) (v % 4294967296) (u / (Y / 4294967296)) (u - u / (Y / 4294967296) * (Y / 4294967296))
  u2 (u2 / (Y / 4294967296)) (u2 - u2 / (Y / 4294967296) * (Y / 4294967296)) Q1 Q2 (IntKind.u64.wrap (IntKind.u64.wrap (u * 4294967296) + v / 4294967296)) (IntKind.u64.wrap (Q1 * Y)) (Q1 * 4294967296 + Q2)
  (IntKind.u64.wrap (IntKind.u64.wrap (u2 * 4294967296) + v % 4294967296)) R2 ((x * 18446744073709551616 + y) % d) w x0 x1 (by omega) (by omega) lz
  (by rw [Int.toNat_natCast]; exact w1) rfl (by omega) (mask32 Y (by omega) hn1) (by rw [Int.toNat_natCast, show (64 - (s : Int)).toNat = 64 - s from by omega]; exact e4) (by rw [Int.toNat_natCast]; exact e5)
  rfl (mask32 v v0' v1')
  (by rw [ht _ _ u0 (by omega), IntKind.wrap_u64]; omega)
  (by simp only [IntKind.wrap_u64]; omega) n1 i1 hQ1 rfl rfl
  (by simp only [IntKind.wrap_u64]; omega)
  (by rw [ht _ _ hu2a (by omega), IntKind.wrap_u64]; omega)
  (by simp only [IntKind.wrap_u64]; omega) n2 i2 hQ2
  (by simp only [IntKind.wrap_u64]; omega) rfl
  (by simp only [IntKind.wrap_u64]; omega)
  hfin
 rw [td.1]
 exact main

/-- bits.Div64. -/
theorem div64_any (x y d : Int) (w : World) (x0 : 0 ≤ x) (x1 : x < d) (y0 : 0 ≤ y) (y1 : y < 18446744073709551616) (d1 : d < 18446744073709551616) :
  Calls Tryz.prog 126 #[.int .u64 x, .int .u64 y, .int .u64 d] w fun e w' =>
   e = .returned (.tuple #[.int .u64 ((x * 18446744073709551616 + y) / d), .int .u64 ((x * 18446744073709551616 + y) % d)]) ∧ Below w.heap.size w w' := by
 by_cases h : x = 0
 ·subst h
  have c1 : ¬ d ≤ 0 := by omega
  have c2 : (d == 0) = false := by simp; omega
  have c4 : ¬ d = 0 := by omega
  have H := Lib.hid y1
  have H2 := Lib.hid d1
  have e1 : IntKind.u64.wrap (y.tdiv d) = y / d := by
   rw [IntKind.wrap_u64, Int.tdiv_eq_ediv_of_nonneg y0]
   have := Int.ediv_nonneg y0 (show 0 ≤ d by omega)
   have : y / d ≤ y := Int.ediv_le_self _ y0
   omega
  have e2 : IntKind.u64.wrap (y.tmod d) = y % d := by
   rw [IntKind.wrap_u64, Int.tmod_eq_emod_of_nonneg y0]
   have := Int.emod_nonneg y c4
   have := Int.emod_lt_of_pos y (show 0 < d by omega)
   omega
  have e3 : y.tmod d = y % d := Int.tmod_eq_emod_of_nonneg y0
  clear y1 d1
  rw [Int.zero_mul, Int.zero_add]
  go_enter Tryz.func126, Tryz.ntmps126
  go_wp2_with fail
  go_quiet (fail)
  go_wp2
  go_ret2
  exact ⟨rfl, by (repeat (first | with_reducible exact Below.refl _ _ | with_reducible apply Below.drew | (with_reducible refine below_drewN ?_ _) | (with_reducible refine Below.alloc ?_ (by (try simp) <;> omega) _) | (with_reducible refine Below.setCell ?_ (by (try simp) <;> omega) _)))⟩
 ·exact (div64_hi x y d w (by omega) x1 y0 y1 d1).mono fun e w' ⟨h1, h2⟩ => ⟨h1, h2 ▸ Below.refl _ _⟩
end Go.Proofs.YtgfklheepkgedaaGreat
/- Contracts of package wide (5): products and sums. -/
namespace Go.Proofs.YtgfklheepkgedaaGreat
open Go.RowKit
set_option maxRecDepth 100000

theorem mul64_any (x y : Nat) (M : Int) (w : World) (hx : x < 18446744073709551616) (hy : y < 18446744073709551616) (hM : ((x * y : Nat) : Int) = M) :
  Calls Tryz.prog 105 #[.int .u64 x, .int .u64 y] w fun e w' => e = .returned (.tuple #[.int .u64 (hi64 M), .int .u64 (lo64 M)]) ∧ w = w' :=
 (bits_Mul64 x y hx hy w).mono fun e w' h => ⟨h.1.trans (by subst hM; rfl), h.2.symm⟩

theorem mul_walk (a b M : Int) (neg : Bool) (x y : Int) (w : World) (a1 : -9223372036854775808 ≤ a) (a2 : a < 9223372036854775808) (b1 : -9223372036854775808 ≤ b) (b2 : b < 9223372036854775808)
  (hs : (!decide (a < 0) == decide (b < 0)) = neg) (hM : ((a.natAbs * b.natAbs : Nat) : Int) = M)
  (hsg : ∀ w, Calls Tryz.prog 107 #[.agg #[.int .u64 (hi64 M), .int .u64 (lo64 M)], .bool neg] w fun e w' =>
   e = .returned (.tuple #[.agg #[.int .i64 x, .int .u64 y], .bool true]) ∧ Below w.heap.size w w') :
  Calls Tryz.prog 78 #[.int .i64 a, .int .i64 b] w fun e w' => e = .returned (.agg #[.int .i64 x, .int .u64 y]) ∧ Below w.heap.size w w' := by
 have HM := Lib.hid hM
 have A1 := Lib.hid a1
 have A2 := Lib.hid a2
 have B1 := Lib.hid b1
 have B2 := Lib.hid b2
 clear a1 a2 b1 b2 hM
 go_enter Tryz.func78, Tryz.ntmps78
 go_wp2_with fail
 refine (abs64_any _ _ A1.out A2.out).mono ?_; rintro e w' ⟨rfl, rfl⟩
 go_wp2_with fail
 refine (abs64_any _ _ B1.out B2.out).mono ?_; rintro e w' ⟨rfl, rfl⟩
 go_wp2_with fail
 refine (mul64_any _ _ M _ (by have := A1.out; have := A2.out; omega) (by have := B1.out; have := B2.out; omega) HM.out).mono ?_; rintro e w' ⟨rfl, rfl⟩
 go_wp2_with fail
 refine (hsg _).mono ?_; rintro e w1 ⟨rfl, hb1⟩
 obtain ⟨hc, hf⟩ := bcell hb1
 have hz : w.heap.size < w1.heap.size := by have := hb1.size; simp at this; omega
 go_wp2_with fail
 simp [bodyPost, results, Tryz.results78, go_sem, hc, hz]
 have hb2 : Below w.heap.size w w1 := Below.trans (by (repeat (first | with_reducible exact Below.refl _ _ | with_reducible apply Below.drew | (with_reducible refine below_drewN ?_ _) | (with_reducible refine Below.alloc ?_ (by (try simp) <;> omega) _) | (with_reducible refine Below.setCell ?_ (by (try simp) <;> omega) _)))) (hb1.mono (by simp))
 (repeat (first | exact hb2 | (refine Below.alloc ?_ (by (try simp) <;> omega) _) | (refine Below.setCell ?_ (by (try simp) <;> omega) _)))
/-- wide.Mul. -/
theorem mul_any (a b T : Int) (w : World) (a1 : -9223372036854775808 ≤ a) (a2 : a < 9223372036854775808) (b1 : -9223372036854775808 ≤ b) (b2 : b < 9223372036854775808)
  (hT : a * b = T) (t1 : -170141183460469231731687303715884105728 < T) (t2 : T < 170141183460469231731687303715884105728) :
  Calls Tryz.prog 78 #[.int .i64 a, .int .i64 b] w fun e w' => e = .returned (.agg #[.int .i64 (hi64 T), .int .u64 (lo64 T)]) ∧ Below w.heap.size w w' := by
 by_cases ha : a < 0 <;> by_cases hb : b < 0
 ·have hM : ((a.natAbs * b.natAbs : Nat) : Int) = T := by
   rw [Int.natCast_mul, show (a.natAbs : Int) = -a from by omega, show (b.natAbs : Int) = -b from by omega, Int.neg_mul_neg, hT]
  have h0 : 0 ≤ T := by omega
  exact mul_walk a b T false _ _ w a1 a2 b1 b2 (by simp [ha, hb]) hM (fun w => signed_pos _ _ w (by unfold hi64; omega) (by unfold hi64; omega))
 ·have hM : ((a.natAbs * b.natAbs : Nat) : Int) = -T := by
   rw [Int.natCast_mul, show (a.natAbs : Int) = -a from by omega, show (b.natAbs : Int) = b from by omega, Int.neg_mul, hT]
  have h0 : T ≤ 0 := by omega
  refine mul_walk a b (-T) true _ _ w a1 a2 b1 b2 (by simp [ha, hb]) hM (fun w => (signed_neg _ _ w (by unfold hi64; omega) (by unfold hi64; omega) (by unfold lo64; omega) (by unfold lo64; omega)).mono fun e w' h => ⟨h.1.trans ?_, h.2⟩)
  rw [show -(hi64 (-T) * B64 + lo64 (-T)) = T from by unfold hi64 lo64 B64; omega]
 ·have hM : ((a.natAbs * b.natAbs : Nat) : Int) = -T := by
   rw [Int.natCast_mul, show (a.natAbs : Int) = a from by omega, show (b.natAbs : Int) = -b from by omega, Int.mul_neg, hT]
  have h0 : T ≤ 0 := by omega
  refine mul_walk a b (-T) true _ _ w a1 a2 b1 b2 (by simp [ha, hb]) hM (fun w => (signed_neg _ _ w (by unfold hi64; omega) (by unfold hi64; omega) (by unfold lo64; omega) (by unfold lo64; omega)).mono fun e w' h => ⟨h.1.trans ?_, h.2⟩)
  rw [show -(hi64 (-T) * B64 + lo64 (-T)) = T from by unfold hi64 lo64 B64; omega]
 ·have hM : ((a.natAbs * b.natAbs : Nat) : Int) = T := by
   rw [Int.natCast_mul, show (a.natAbs : Int) = a from by omega, show (b.natAbs : Int) = b from by omega, hT]
  have h0 : 0 ≤ T := by omega
  exact mul_walk a b T false _ _ w a1 a2 b1 b2 (by simp [ha, hb]) hM (fun w => signed_pos _ _ w (by unfold hi64; omega) (by unfold hi64; omega))

/-- wide.add, the sum in range. -/
theorem add_walk (x y u v S : Int) (w : World) (x0 : -9223372036854775808 ≤ x) (x1 : x < 9223372036854775808) (u0 : -9223372036854775808 ≤ u) (u1 : u < 9223372036854775808)
  (y0 : 0 ≤ y) (y1 : y < 18446744073709551616) (v0 : 0 ≤ v) (v1 : v < 18446744073709551616)
  (hS : (x + u) * 18446744073709551616 + y + v = S) (s1 : -170141183460469231731687303715884105728 ≤ S) (s2 : S < 170141183460469231731687303715884105728) :
  Calls Tryz.prog 108 #[.agg #[.int .i64 x, .int .u64 y], .agg #[.int .i64 u, .int .u64 v]] w fun e w' =>
   e = .returned (.tuple #[.agg #[.int .i64 (hi64 S), .int .u64 (lo64 S)], .bool true]) ∧ Below w.heap.size w w' := by
 have a1 := fun w => add64_0 y v y0 v0 w
 have c1 : 0 ≤ hi64 (y + v) ∧ hi64 (y + v) ≤ 1 := by unfold hi64; omega
 have a2 := fun w => add64 (IntKind.u64.wrap x) (IntKind.u64.wrap u) (hi64 (y + v)) (by rw [IntKind.wrap_u64]; omega) (by rw [IntKind.wrap_u64]; omega) c1.1 c1.2 w
 have r1 : wrap64 (lo64 (IntKind.u64.wrap x + IntKind.u64.wrap u + hi64 (y + v))) = hi64 S := by
  simp only [IntKind.wrap_u64, wrap64]; unfold hi64 lo64; omega
 have r2 : lo64 (y + v) = lo64 S := by unfold lo64; omega
 have sg : (x < 0 ∧ u < 0 → hi64 S < 0) ∧ (0 ≤ x ∧ 0 ≤ u → 0 ≤ hi64 S) := by unfold hi64; omega
 obtain ⟨g1, g2⟩ := sg
 have G1 := Lib.hid g1
 have G2 := Lib.hid g2
 clear g1 g2 c1 x0 x1 u0 u1 y0 y1 v0 v1 hS s1 s2
 by_cases hx : x < 0 <;> by_cases hu : u < 0
 ·have hs : hi64 S < 0 := G1.out ⟨hx, hu⟩
  have d1 : decide (x < 0) = true := by simpa using hx
  have d2 : decide (u < 0) = true := by simpa using hu
  have d3 : decide (hi64 S < 0) = true := by simpa using hs
  go_enter Tryz.func108, Tryz.ntmps108
  go_wp2_with fail
  go_region
  go_wp2
  simp [bodyPost, results, Tryz.results108, go_sem]
  (repeat (first | with_reducible exact Below.refl _ _ | with_reducible apply Below.drew | (with_reducible refine below_drewN ?_ _) | (with_reducible refine Below.alloc ?_ (by (try simp) <;> omega) _) | (with_reducible refine Below.setCell ?_ (by (try simp) <;> omega) _)))
 ·have d1 : decide (x < 0) = true := by simpa using hx
  have d2 : decide (u < 0) = false := by simpa using hu
  go_enter Tryz.func108, Tryz.ntmps108
  go_wp2_with fail
  go_region
  go_wp2
  simp [bodyPost, results, Tryz.results108, go_sem]
  (repeat (first | with_reducible exact Below.refl _ _ | with_reducible apply Below.drew | (with_reducible refine below_drewN ?_ _) | (with_reducible refine Below.alloc ?_ (by (try simp) <;> omega) _) | (with_reducible refine Below.setCell ?_ (by (try simp) <;> omega) _)))
 ·have d1 : decide (x < 0) = false := by simpa using hx
  have d2 : decide (u < 0) = true := by simpa using hu
  go_enter Tryz.func108, Tryz.ntmps108
  go_wp2_with fail
  go_region
  go_wp2
  simp [bodyPost, results, Tryz.results108, go_sem]
  (repeat (first | with_reducible exact Below.refl _ _ | with_reducible apply Below.drew | (with_reducible refine below_drewN ?_ _) | (with_reducible refine Below.alloc ?_ (by (try simp) <;> omega) _) | (with_reducible refine Below.setCell ?_ (by (try simp) <;> omega) _)))
 ·have hs : 0 ≤ hi64 S := G2.out (by omega)
  have d1 : decide (x < 0) = false := by simpa using hx
  have d2 : decide (u < 0) = false := by simpa using hu
  have d3 : decide (hi64 S < 0) = false := by simpa using hs
  go_enter Tryz.func108, Tryz.ntmps108
  go_wp2_with fail
  go_region
  go_wp2
  simp [bodyPost, results, Tryz.results108, go_sem]
  (repeat (first | with_reducible exact Below.refl _ _ | with_reducible apply Below.drew | (with_reducible refine below_drewN ?_ _) | (with_reducible refine Below.alloc ?_ (by (try simp) <;> omega) _) | (with_reducible refine Below.setCell ?_ (by (try simp) <;> omega) _)))
/-- wide.add. -/
theorem add_any (A B S : Int) (w : World) (a1 : -170141183460469231731687303715884105728 ≤ A) (a2 : A < 170141183460469231731687303715884105728)
  (b1 : -170141183460469231731687303715884105728 ≤ B) (b2 : B < 170141183460469231731687303715884105728)
  (hS : A + B = S) (s1 : -170141183460469231731687303715884105728 ≤ S) (s2 : S < 170141183460469231731687303715884105728) :
  Calls Tryz.prog 108 #[.agg #[.int .i64 (hi64 A), .int .u64 (lo64 A)], .agg #[.int .i64 (hi64 B), .int .u64 (lo64 B)]] w fun e w' =>
   e = .returned (.tuple #[.agg #[.int .i64 (hi64 S), .int .u64 (lo64 S)], .bool true]) ∧ Below w.heap.size w w' :=
 add_walk _ _ _ _ S w (by unfold hi64; omega) (by unfold hi64; omega) (by unfold hi64; omega) (by unfold hi64; omega) (by unfold lo64; omega) (by unfold lo64; omega) (by unfold lo64; omega) (by unfold lo64; omega)
  (by unfold hi64 lo64; omega) s1 s2
end Go.Proofs.YtgfklheepkgedaaGreat
/- Contracts of package wide (6): Round, Div, Shift. -/
/- Contracts of package wide (7): Round, Div, Shift, as numbers. -/
namespace Go.Proofs.YtgfklheepkgedaaGreat
open Go.RowKit
set_option maxRecDepth 100000
def r64F (x : Int) : Bool := decide (-9223372036854775808 ≤ x) && decide (x < 9223372036854775808)
def r64V (x : Int) : Int := if r64F x then x else 0
theorem s64_r64 (M : Int) (neg : Bool) (h0 : 0 ≤ M) (h1 : M < 340282366920938463463374607431768211456) :
  s64F (hi64 M) (lo64 M) neg = r64F (if neg then -M else M) ∧ s64V (hi64 M) (lo64 M) neg = r64V (if neg then -M else M) := by
 have hF : s64F (hi64 M) (lo64 M) neg = r64F (if neg then -M else M) := by
  unfold s64F r64F hi64 lo64
  cases neg <;> simp <;> rw [Bool.eq_iff_iff] <;> simp <;> omega
 refine ⟨hF, ?_⟩
 unfold s64V r64V
 rw [hF]
 by_cases h : r64F (if neg then -M else M) = true
 ·rw [if_pos h, if_pos h]
  cases neg <;> simp [r64F] at h ⊢ <;> unfold lo64 <;> omega
 ·rw [if_neg h, if_neg h]

theorem abs_any (A : Int) (w : World) (a1 : -170141183460469231731687303715884105728 ≤ A) (a2 : A < 170141183460469231731687303715884105728) :
  Calls Tryz.prog 109 #[.agg #[.int .i64 (hi64 A), .int .u64 (lo64 A)]] w fun e w' =>
   e = .returned (.tuple #[.agg #[.int .u64 (hi64 A.natAbs), .int .u64 (lo64 A.natAbs)], .bool (decide (A < 0))]) ∧ Below w.heap.size w w' := by
 by_cases h : A < 0
 ·refine (abs_neg (hi64 A) (lo64 A) w (by unfold hi64; omega) (by unfold hi64; omega) (by unfold lo64; omega) (by unfold lo64; omega)).mono fun e w' h1 => ⟨h1.1.trans ?_, h1.2⟩
  rw [show -(hi64 A * B64 + lo64 A) = (A.natAbs : Int) from by unfold hi64 lo64 B64; omega]
  simp [h]
 ·refine (abs_pos (hi64 A) (lo64 A) w (by unfold hi64; omega) (by unfold hi64; omega)).mono fun e w' h1 => ⟨h1.1.trans ?_, h1.2⟩
  rw [show (A.natAbs : Int) = A from by omega]
  simp [h]

theorem bits_hl {M : Int} (h0 : 0 ≤ M) (h1 : M < 340282366920938463463374607431768211456) : 0 ≤ hi64 M ∧ hi64 M < 18446744073709551616 ∧ 0 ≤ lo64 M ∧ lo64 M < 18446744073709551616 := by
 unfold hi64 lo64; omega

/-- wide.Round: the walk. -/
theorem round_walk (A s M H M2 R : Int) (neg : Bool) (w : World) (s0 : 0 < s) (s1 : s ≤ 126)
  (habs : ∀ w, Calls Tryz.prog 109 #[.agg #[.int .i64 (hi64 A), .int .u64 (lo64 A)]] w fun e w' =>
   e = .returned (.tuple #[.agg #[.int .u64 (hi64 M), .int .u64 (lo64 M)], .bool neg]) ∧ Below w.heap.size w w')
  (hshl : ∀ w, Calls Tryz.prog 111 #[.agg #[.int .u64 0, .int .u64 1], .int .i64 (s - 1)] w fun e w' =>
   e = .returned (.agg #[.int .u64 (hi64 H), .int .u64 (lo64 H)]) ∧ Below w.heap.size w w')
  (hplus : ∀ w, Calls Tryz.prog 110 #[.agg #[.int .u64 (hi64 M), .int .u64 (lo64 M)], .agg #[.int .u64 (hi64 H), .int .u64 (lo64 H)]] w fun e w' =>
   e = .returned (.agg #[.int .u64 (hi64 M2), .int .u64 (lo64 M2)]) ∧ Below w.heap.size w w')
  (hshr : ∀ w, Calls Tryz.prog 113 #[.agg #[.int .u64 (hi64 M2), .int .u64 (lo64 M2)], .int .i64 s] w fun e w' =>
   e = .returned (.agg #[.int .u64 (hi64 R), .int .u64 (lo64 R)]) ∧ Below w.heap.size w w')
  (hsg : ∀ w, Calls Tryz.prog 112 #[.agg #[.int .u64 (hi64 R), .int .u64 (lo64 R)], .bool neg] w fun e w' =>
   e = .returned (.tuple #[.int .i64 (s64V (hi64 R) (lo64 R) neg), .bool (s64F (hi64 R) (lo64 R) neg)]) ∧ Below w.heap.size w w') :
  Calls Tryz.prog 80 #[.agg #[.int .i64 (hi64 A), .int .u64 (lo64 A)], .int .i64 s] w fun e w' =>
   e = .returned (.tuple #[.int .i64 (s64V (hi64 R) (lo64 R) neg), .bool (s64F (hi64 R) (lo64 R) neg)]) ∧ Below w.heap.size w w' := by
 have c1 : ¬ s < 0 := by omega
 have c2 : ¬ 126 < s := by omega
 have hw : IntKind.i64.wrap (s - 1) = s - 1 := IntWalk.i64_in _ (by omega)
 have HA := Lib.hid habs
 have HL := Lib.hid hshl
 have HP := Lib.hid hplus
 have HR := Lib.hid hshr
 have HS := Lib.hid hsg
 clear habs hshl hplus hshr hsg
 go_enter Tryz.func80, Tryz.ntmps80
 go_wp2_with fail
 refine (HA.out _).mono ?_; rintro e w1 ⟨rfl, hb1⟩
 have hz : w.heap.size < w1.heap.size := by have := hb1.size; simp at this; omega
 have hb1' : Below w.heap.size w w1 := Below.trans (by (repeat (first | with_reducible exact Below.refl _ _ | with_reducible apply Below.drew | (with_reducible refine below_drewN ?_ _) | (with_reducible refine Below.alloc ?_ (by (try simp) <;> omega) _) | (with_reducible refine Below.setCell ?_ (by (try simp) <;> omega) _)))) (hb1.mono (by simp))
 clear hb1
 go_wp2_with fail
 go_region_with (first | (go_at_call 111; refine (HL.out _).mono ?_; rintro e w2 ⟨rfl, hb2⟩; (obtain ⟨hc2, hf2⟩ := bcell hb2); (have hz2 : w1.heap.size < w2.heap.size := by have := hb2.size; (try simp at this); omega)) | (go_at_call 110; refine (HP.out _).mono ?_; rintro e w3 ⟨rfl, hb3⟩; (obtain ⟨hc3, hf3⟩ := bcell hb3); (have hz3 : w1.heap.size < w3.heap.size := by have := hb3.size; (try simp at this); omega)))
 all_goals
  go_wp2_with fail
  refine (HR.out _).mono ?_; rintro e w4 ⟨rfl, hb4⟩
  have hz4 : w1.heap.size < w4.heap.size := by have := hb4.size; (try simp at this); omega
  go_wp2_with fail
  refine (HS.out _).mono ?_; rintro e w5 ⟨rfl, hb5⟩
  have hz5 : w1.heap.size < w5.heap.size := by have := hb5.size; (try simp at this); omega
  go_wp2_with fail
  go_ret2
  refine ⟨rfl, ?_⟩
  (repeat (first | with_reducible exact Below.refl _ _ | with_reducible assumption | with_reducible apply Below.drew | (with_reducible refine below_drewN ?_ _) | (with_reducible refine Below.alloc ?_ (by (try simp) <;> omega) _) | (with_reducible refine Below.setCell ?_ (by (try simp) <;> omega) _) | (with_reducible refine Below.trans ?_ (Below.mono (by assumption) (by (try simp) <;> omega)))))
end Go.Proofs.YtgfklheepkgedaaGreat
namespace Go.Proofs.YtgfklheepkgedaaGreat
open Go.RowKit
set_option maxRecDepth 100000
theorem round_zero (A M R : Int) (neg : Bool) (w : World)
  (habs : ∀ w, Calls Tryz.prog 109 #[.agg #[.int .i64 (hi64 A), .int .u64 (lo64 A)]] w fun e w' =>
   e = .returned (.tuple #[.agg #[.int .u64 (hi64 M), .int .u64 (lo64 M)], .bool neg]) ∧ Below w.heap.size w w')
  (hshr : ∀ w, Calls Tryz.prog 113 #[.agg #[.int .u64 (hi64 M), .int .u64 (lo64 M)], .int .i64 0] w fun e w' =>
   e = .returned (.agg #[.int .u64 (hi64 R), .int .u64 (lo64 R)]) ∧ Below w.heap.size w w')
  (hsg : ∀ w, Calls Tryz.prog 112 #[.agg #[.int .u64 (hi64 R), .int .u64 (lo64 R)], .bool neg] w fun e w' =>
   e = .returned (.tuple #[.int .i64 (s64V (hi64 R) (lo64 R) neg), .bool (s64F (hi64 R) (lo64 R) neg)]) ∧ Below w.heap.size w w') :
  Calls Tryz.prog 80 #[.agg #[.int .i64 (hi64 A), .int .u64 (lo64 A)], .int .i64 0] w fun e w' =>
   e = .returned (.tuple #[.int .i64 (s64V (hi64 R) (lo64 R) neg), .bool (s64F (hi64 R) (lo64 R) neg)]) ∧ Below w.heap.size w w' := by
 have HA := Lib.hid habs
 have HR := Lib.hid hshr
 have HS := Lib.hid hsg
 clear habs hshr hsg
 go_enter Tryz.func80, Tryz.ntmps80
 go_wp2_with fail
 refine (HA.out _).mono ?_; rintro e w1 ⟨rfl, hb1⟩
 have hz : w.heap.size < w1.heap.size := by have := hb1.size; simp at this; omega
 have hb1' : Below w.heap.size w w1 := Below.trans (by (repeat (first | with_reducible exact Below.refl _ _ | with_reducible apply Below.drew | (with_reducible refine below_drewN ?_ _) | (with_reducible refine Below.alloc ?_ (by (try simp) <;> omega) _) | (with_reducible refine Below.setCell ?_ (by (try simp) <;> omega) _)))) (hb1.mono (by simp))
 clear hb1
 go_wp2_with fail
 refine (HR.out _).mono ?_; rintro e w4 ⟨rfl, hb4⟩
 have hz4 : w1.heap.size < w4.heap.size := by have := hb4.size; (try simp at this); omega
 go_wp2_with fail
 refine (HS.out _).mono ?_; rintro e w5 ⟨rfl, hb5⟩
 have hz5 : w1.heap.size < w5.heap.size := by have := hb5.size; (try simp at this); omega
 go_wp2_with fail
 go_ret2
 refine ⟨rfl, ?_⟩
 (repeat (first | with_reducible exact Below.refl _ _ | with_reducible assumption | with_reducible apply Below.drew | (with_reducible refine below_drewN ?_ _) | (with_reducible refine Below.alloc ?_ (by (try simp) <;> omega) _) | (with_reducible refine Below.setCell ?_ (by (try simp) <;> omega) _) | (with_reducible refine Below.trans ?_ (Below.mono (by assumption) (by (try simp) <;> omega)))))

theorem rsh_pos (a : Int) (k : Nat) : rsh a (k + 1) = if a < 0 then -(((a.natAbs + 2 ^ k) / 2 ^ (k + 1) : Nat) : Int) else (((a.natAbs + 2 ^ k) / 2 ^ (k + 1) : Nat) : Int) := by
 unfold rsh rdiv
 have h2 : ((2 : Int) ^ (k + 1)).natAbs = 2 ^ (k + 1) := by rw [Int.natAbs_pow]; rfl
 have hp : (0 : Int) < 2 ^ (k + 1) := Int.pow_pos (by decide)
 have e : (2 * a.natAbs + 2 ^ (k + 1)) / (2 * 2 ^ (k + 1)) = (a.natAbs + 2 ^ k) / 2 ^ (k + 1) := by
  rw [show 2 * a.natAbs + 2 ^ (k + 1) = 2 * (a.natAbs + 2 ^ k) from by rw [Nat.pow_succ]; omega]
  exact Nat.mul_div_mul_left _ _ (by decide)
 rw [h2, e]
 simp only [hp, eq_iff_iff, iff_true]
 by_cases h : a < 0
 ·rw [if_pos h, if_neg (by omega)]
 ·rw [if_neg h, if_pos (by omega)]
theorem rsh_zero (a : Int) : rsh a 0 = a := by
 unfold rsh rdiv
 simp
 by_cases h : 0 ≤ a
 ·rw [if_pos h]; omega
 ·rw [if_neg h]; omega

/-- wide.Round. -/
theorem round_any (A s : Int) (w : World) (s0 : 0 ≤ s) (s1 : s ≤ 126) (a1 : -170141183460469231731687303715884105728 ≤ A) (a2 : A < 170141183460469231731687303715884105728) :
  Calls Tryz.prog 80 #[.agg #[.int .i64 (hi64 A), .int .u64 (lo64 A)], .int .i64 s] w fun e w' =>
   e = .returned (.tuple #[.int .i64 (r64V (rsh A s.toNat)), .bool (r64F (rsh A s.toNat))]) ∧ Below w.heap.size w w' := by
 obtain ⟨n, rfl⟩ := Int.eq_ofNat_of_zero_le s0
 rw [Int.toNat_natCast]
 have hM := bits_hl (M := (A.natAbs : Int)) (by omega) (by omega)
 cases n with
 | zero =>
  have hs := s64_r64 (A.natAbs : Int) (decide (A < 0)) (by omega) (by omega)
  have hv : (if decide (A < 0) = true then -(A.natAbs : Int) else (A.natAbs : Int)) = rsh A 0 := by
   rw [rsh_zero]; by_cases h : A < 0 <;> simp [h] <;> omega
  rw [hv] at hs
  refine (round_zero A A.natAbs A.natAbs (decide (A < 0)) w (fun w => abs_any A w a1 a2)
   (fun w => shr_any _ _ 0 (A.natAbs : Int) _ w hM.1 hM.2.1 hM.2.2.1 hM.2.2.2 (by decide) (by decide) (hilo _) (by simp))
   (fun w => signed64_any _ _ _ w hM.2.2.1 hM.2.2.2)).mono fun e w' h => ⟨h.1.trans (by rw [hs.1, hs.2]), h.2⟩
 | succ k =>
  have hk : k ≤ 125 := by omega
  have hp : (2 : Nat) ^ k ≤ 2 ^ 125 := Nat.pow_le_pow_right (by decide) hk
  have hc : ((2 ^ k : Nat) : Int) = 2 ^ k := by simp
  obtain ⟨H, hH⟩ : ∃ H : Int, ((2 ^ k : Nat) : Int) = H := ⟨_, rfl⟩
  have hH0 : 0 ≤ H := by rw [← hH]; exact Int.natCast_nonneg _
  have hH1 : H < 170141183460469231731687303715884105728 := by
   have : (2 : Nat) ^ 125 = 42535295865117307932921825928971026432 := by decide
   omega
  have hHb := bits_hl (M := H) (by omega) (by omega)
  have hM2 := bits_hl (M := (A.natAbs : Int) + H) (by omega) (by omega)
  obtain ⟨R, hR⟩ : ∃ R : Int, (((A.natAbs + 2 ^ k) / 2 ^ (k + 1) : Nat) : Int) = R := ⟨_, rfl⟩
  have hR0 : 0 ≤ R := by rw [← hR]; exact Int.natCast_nonneg _
  have hR2 : ((A.natAbs : Int) + H) / 2 ^ (k + 1) = R := by rw [← hR, ← hH]; simp
  have hR1 : R ≤ (A.natAbs : Int) + H := by rw [← hR, ← hH]; have := Nat.div_le_self (A.natAbs + 2 ^ k) (2 ^ (k + 1)); omega
  have hRb := bits_hl (M := R) (by omega) (by omega)
  have hs := s64_r64 R (decide (A < 0)) (by omega) (by omega)
  have hv : (if decide (A < 0) = true then -R else R) = rsh A (k + 1) := by
   rw [rsh_pos, hR]; by_cases h : A < 0 <;> simp [h]
  rw [hv] at hs
  refine (round_walk A ((k + 1 : Nat) : Int) A.natAbs H (A.natAbs + H) R (decide (A < 0)) w (by omega) (by omega) (fun w => abs_any A w a1 a2)
   (fun w => shl_any 1 _ H w (by decide) (by decide) (by omega) (by omega) (by rw [show (((k + 1 : Nat) : Int) - 1).toNat = k from by omega, Int.one_mul, ← hc, hH]) (by omega))
   (fun w => plus_any _ _ _ _ _ w hM.1 hM.2.2.1 hM.2.2.2 hHb.1 hHb.2.2.1 hHb.2.2.2 (by have := hilo (A.natAbs : Int); have := hilo H; omega) (by omega))
   (fun w => shr_any _ _ _ ((A.natAbs : Int) + H) _ w hM2.1 hM2.2.1 hM2.2.2.1 hM2.2.2.2 (by omega) (by omega) (hilo _) (by rw [Int.toNat_natCast]; exact hR2))
   (fun w => signed64_any _ _ _ w hRb.2.2.1 hRb.2.2.2)).mono fun e w' h => ⟨h.1.trans (by rw [hs.1, hs.2]), h.2⟩

/-- wide.Div: the walk. -/
theorem wdiv_walk (A d M D Q R q : Int) (neg : Bool) (sg : Bool) (w : World) (d0 : (d == 0) = false) (hx : 0 ≤ hi64 M) (D0 : 0 < D)
  (hsg2 : (!neg == decide (d < 0)) = sg)
  (habs : ∀ w, Calls Tryz.prog 109 #[.agg #[.int .i64 (hi64 A), .int .u64 (lo64 A)]] w fun e w' =>
   e = .returned (.tuple #[.agg #[.int .u64 (hi64 M), .int .u64 (lo64 M)], .bool neg]) ∧ Below w.heap.size w w')
  (hd : ∀ w, Calls Tryz.prog 106 #[.int .i64 d] w fun e w' => e = .returned (.int .u64 D) ∧ w = w')
  (hq1 : IntKind.u64.wrap ((hi64 M).tdiv D) = q) (_hq2 : IntKind.u64.wrap ((hi64 M).tmod D) = hi64 M % D)
  (hdv : ∀ w, Calls Tryz.prog 126 #[.int .u64 (hi64 M % D), .int .u64 (lo64 M), .int .u64 D] w fun e w' =>
   e = .returned (.tuple #[.int .u64 (lo64 Q), .int .u64 R]) ∧ Below w.heap.size w w')
  (hq3 : q = hi64 Q) (D1 : D < 9223372036854775809) (R0 : 0 ≤ R) (R1 : R < D)
  (hfin : ∀ w, Calls Tryz.prog 112 #[.agg #[.int .u64 (hi64 (if D ≤ 2 * R then Q + 1 else Q)), .int .u64 (lo64 (if D ≤ 2 * R then Q + 1 else Q))], .bool sg] w fun e w' =>
   e = .returned (.tuple #[.int .i64 (s64V (hi64 (if D ≤ 2 * R then Q + 1 else Q)) (lo64 (if D ≤ 2 * R then Q + 1 else Q)) sg), .bool (s64F (hi64 (if D ≤ 2 * R then Q + 1 else Q)) (lo64 (if D ≤ 2 * R then Q + 1 else Q)) sg)]) ∧ Below w.heap.size w w')
  (hplus : ∀ w, Calls Tryz.prog 110 #[.agg #[.int .u64 (hi64 Q), .int .u64 (lo64 Q)], .agg #[.int .u64 0, .int .u64 1]] w fun e w' =>
   e = .returned (.agg #[.int .u64 (hi64 (Q + 1)), .int .u64 (lo64 (Q + 1))]) ∧ Below w.heap.size w w') :
  Calls Tryz.prog 116 #[.agg #[.int .i64 (hi64 A), .int .u64 (lo64 A)], .int .i64 d] w fun e w' =>
   e = .returned (.tuple #[.int .i64 (s64V (hi64 (if D ≤ 2 * R then Q + 1 else Q)) (lo64 (if D ≤ 2 * R then Q + 1 else Q)) sg), .bool (s64F (hi64 (if D ≤ 2 * R then Q + 1 else Q)) (lo64 (if D ≤ 2 * R then Q + 1 else Q)) sg)]) ∧ Below w.heap.size w w' := by
 subst hq3
 have hw : IntKind.u64.wrap (D - R) = D - R := by rw [IntKind.wrap_u64]; omega
 have hD : ¬ D = 0 := by omega
 have e3 : (hi64 M).tmod D = hi64 M % D := Int.tmod_eq_emod_of_nonneg hx
 have HA := Lib.hid habs
 have HD := Lib.hid hd
 have HV := Lib.hid hdv
 have HP := Lib.hid hplus
 by_cases hc : D ≤ 2 * R
 ·simp only [if_pos hc] at hfin ⊢
  have HS := Lib.hid hfin
  have hc2 : D - R ≤ R := by omega
  clear habs hd hdv hplus hfin D1 hc
  go_enter Tryz.func116, Tryz.ntmps116
  go_wp2_with fail
  refine (HA.out _).mono ?_; rintro e w1 ⟨rfl, hb1⟩
  have hz : w.heap.size < w1.heap.size := by have := hb1.size; simp at this; omega
  have hb1' : Below w.heap.size w w1 := Below.trans (by (repeat (first | with_reducible exact Below.refl _ _ | with_reducible apply Below.drew | (with_reducible refine below_drewN ?_ _) | (with_reducible refine Below.alloc ?_ (by (try simp) <;> omega) _) | (with_reducible refine Below.setCell ?_ (by (try simp) <;> omega) _)))) (hb1.mono (by simp))
  clear hb1
  go_wp2_with fail
  refine (HD.out _).mono ?_; rintro e w2 ⟨rfl, rfl⟩
  go_wp2_with fail
  go_quiet (fail)
  go_wp2_with fail
  refine (HV.out _).mono ?_; rintro e w3 ⟨rfl, hb3⟩
  have hz3 : w1.heap.size < w3.heap.size := by have := hb3.size; (try simp at this); omega
  go_wp2_with fail
  refine (HP.out _).mono ?_; rintro e w4 ⟨rfl, hb4⟩
  have hz4 : w3.heap.size < w4.heap.size := by have := hb4.size; (try simp at this); omega
  obtain ⟨hc4, hf4⟩ := bcell hb4
  go_wp2_with fail
  refine (HS.out _).mono ?_; rintro e w5 ⟨rfl, hb5⟩
  go_wp2_with fail
  go_ret2
  refine ⟨rfl, ?_⟩
  have hz5 : w4.heap.size ≤ w5.heap.size := by have := hb5.size; (try simp at this); omega
  (repeat (first | with_reducible exact Below.refl _ _ | with_reducible assumption | with_reducible apply Below.drew | (with_reducible refine below_drewN ?_ _) | (with_reducible refine Below.alloc ?_ (by (try simp) <;> omega) _) | (with_reducible refine Below.setCell ?_ (by (try simp) <;> omega) _) | (with_reducible refine Below.trans ?_ (Below.mono (by assumption) (by (try simp) <;> omega)))))
 ·simp only [if_neg hc] at hfin ⊢
  have HS := Lib.hid hfin
  have hc2 : ¬ D - R ≤ R := by omega
  clear habs hd hdv hplus hfin D1 hc
  go_enter Tryz.func116, Tryz.ntmps116
  go_wp2_with fail
  refine (HA.out _).mono ?_; rintro e w1 ⟨rfl, hb1⟩
  have hz : w.heap.size < w1.heap.size := by have := hb1.size; simp at this; omega
  have hb1' : Below w.heap.size w w1 := Below.trans (by (repeat (first | with_reducible exact Below.refl _ _ | with_reducible apply Below.drew | (with_reducible refine below_drewN ?_ _) | (with_reducible refine Below.alloc ?_ (by (try simp) <;> omega) _) | (with_reducible refine Below.setCell ?_ (by (try simp) <;> omega) _)))) (hb1.mono (by simp))
  clear hb1
  go_wp2_with fail
  refine (HD.out _).mono ?_; rintro e w2 ⟨rfl, rfl⟩
  go_wp2_with fail
  go_quiet (fail)
  go_wp2_with fail
  refine (HV.out _).mono ?_; rintro e w3 ⟨rfl, hb3⟩
  have hz3 : w1.heap.size < w3.heap.size := by have := hb3.size; (try simp at this); omega
  go_wp2_with fail
  refine (HS.out _).mono ?_; rintro e w5 ⟨rfl, hb5⟩
  go_wp2_with fail
  go_ret2
  refine ⟨rfl, ?_⟩
  have hz5 : w3.heap.size ≤ w5.heap.size := by have := hb5.size; (try simp at this); omega
  (repeat (first | with_reducible exact Below.refl _ _ | with_reducible assumption | with_reducible apply Below.drew | (with_reducible refine below_drewN ?_ _) | (with_reducible refine Below.alloc ?_ (by (try simp) <;> omega) _) | (with_reducible refine Below.setCell ?_ (by (try simp) <;> omega) _) | (with_reducible refine Below.trans ?_ (Below.mono (by assumption) (by (try simp) <;> omega)))))
end Go.Proofs.YtgfklheepkgedaaGreat
/- Contracts of package wide (8): Div and Shift, as numbers. -/
namespace Go.Proofs.YtgfklheepkgedaaGreat
open Go.RowKit
set_option maxRecDepth 100000
theorem rdiv_nat (M D : Nat) (hD : 0 < D) : (2 * M + D) / (2 * D) = if D ≤ 2 * (M % D) then M / D + 1 else M / D := by
 have h := Nat.div_add_mod M D
 have hm := Nat.mod_lt M hD
 generalize M / D = q at *
 generalize M % D = r at *
 subst h
 have e : 2 * (D * q + r) + D = (2 * r + D) + 2 * D * q := by rw [Nat.mul_add, Nat.mul_assoc]; omega
 rw [e, Nat.add_mul_div_left _ _ (by omega)]
 by_cases hc : D ≤ 2 * r
 ·rw [if_pos hc]
  have : (2 * r + D) / (2 * D) = 1 := Nat.div_eq_of_lt_le (by omega) (by omega)
  omega
 ·rw [if_neg hc]
  have : (2 * r + D) / (2 * D) = 0 := Nat.div_eq_of_lt (by omega)
  omega
theorem div_hi (M D : Int) (_h : 0 ≤ M) (hD : 0 < D) : hi64 M / D = hi64 (M / D) := by
 unfold hi64
 rw [Int.ediv_ediv_of_nonneg (by decide), Int.ediv_ediv_of_nonneg (Int.le_of_lt hD), Int.mul_comm]
theorem div_lo (M D : Int) (hD : 0 < D) : (hi64 M % D * 18446744073709551616 + lo64 M) / D = lo64 (M / D) ∧ (hi64 M % D * 18446744073709551616 + lo64 M) % D = M % D := by
 have h := hilo M
 have hq := Int.mul_ediv_add_emod (hi64 M) D
 have hl := lo64_bd M
 have hr0 := Int.emod_nonneg (hi64 M) (Int.ne_of_gt hD)
 have hr1 := Int.emod_lt_of_pos (hi64 M) hD
 generalize hi64 M % D = r at *
 generalize hi64 M / D = q at *
 generalize hi64 M = x at *
 generalize lo64 M = y at *
 have e : M = (r * 18446744073709551616 + y) + D * (q * 18446744073709551616) := by
  rw [← h, ← hq, ← Int.mul_assoc]; omega
 have e1 : M / D = (r * 18446744073709551616 + y) / D + q * 18446744073709551616 := by
  rw [e, Int.add_mul_ediv_left _ _ (Int.ne_of_gt hD)]
 have e2 : M % D = (r * 18446744073709551616 + y) % D := by rw [e, Int.add_mul_emod_self_left]
 have b0 : 0 ≤ (r * 18446744073709551616 + y) / D := Int.ediv_nonneg (by omega) (Int.le_of_lt hD)
 have b1 : (r * 18446744073709551616 + y) / D < 18446744073709551616 := by
  apply Int.ediv_lt_of_lt_mul hD
  have : (r + 1) * 18446744073709551616 ≤ D * 18446744073709551616 := Int.mul_le_mul_of_nonneg_right (by omega) (by decide)
  rw [Int.mul_comm 18446744073709551616]
  omega
 rw [e1, e2]
 refine ⟨?_, rfl⟩
 unfold lo64
 omega

/-- wide.Div, the divisor not nought. -/
theorem wdiv_any (A d : Int) (w : World) (d0 : d ≠ 0) (d1 : -9223372036854775808 ≤ d) (d2 : d < 9223372036854775808) (a1 : -170141183460469231731687303715884105728 ≤ A) (a2 : A < 170141183460469231731687303715884105728) :
  Calls Tryz.prog 116 #[.agg #[.int .i64 (hi64 A), .int .u64 (lo64 A)], .int .i64 d] w fun e w' =>
   e = .returned (.tuple #[.int .i64 (r64V (rdiv A d)), .bool (r64F (rdiv A d))]) ∧ Below w.heap.size w w' := by
 obtain ⟨M, hM⟩ : ∃ M : Nat, A.natAbs = M := ⟨_, rfl⟩
 obtain ⟨D, hD⟩ : ∃ D : Nat, d.natAbs = D := ⟨_, rfl⟩
 have hD0 : 0 < D := by omega
 have hMb := bits_hl (M := (M : Int)) (by omega) (by omega)
 have hdl := div_lo (M : Int) (D : Int) (by omega)
 have hdh := div_hi (M : Int) (D : Int) (by omega) (by omega)
 have hmod0 := Int.emod_nonneg (hi64 (M : Int)) (show (D : Int) ≠ 0 by omega)
 have hmod1 := Int.emod_lt_of_pos (hi64 (M : Int)) (show (0 : Int) < D by omega)
 have hR0 := Int.emod_nonneg (M : Int) (show (D : Int) ≠ 0 by omega)
 have hR1 := Int.emod_lt_of_pos (M : Int) (show (0 : Int) < D by omega)
 have hq0 : (0 : Int) ≤ (M : Int) / D := Int.ediv_nonneg (by omega) (by omega)
 have hq1 : (M : Int) / D ≤ M := Int.ediv_le_self _ (by omega)
 have hQb := bits_hl (M := (M : Int) / D) (by omega) (by omega)
 have hfin : (if (D : Int) ≤ 2 * ((M : Int) % D) then (M : Int) / D + 1 else (M : Int) / D) = (((2 * M + D) / (2 * D) : Nat) : Int) := by
  rw [rdiv_nat M D hD0]
  have e1 : ((M : Int) % D) = ((M % D : Nat) : Int) := by simp
  have e2 : ((M : Int) / D) = ((M / D : Nat) : Int) := by simp
  rw [e1, e2]
  split <;> split <;> omega
 have hFb : (0 : Int) ≤ (((2 * M + D) / (2 * D) : Nat) : Int) ∧ (((2 * M + D) / (2 * D) : Nat) : Int) ≤ (M : Int) + 1 := by
  rw [← hfin]; split <;> omega
 have hFbb := bits_hl hFb.1 (by omega)
 have hs := s64_r64 (((2 * M + D) / (2 * D) : Nat) : Int) (!decide (A < 0) == decide (d < 0)) hFb.1 (by omega)
 have hv : (if (!decide (A < 0) == decide (d < 0)) = true then -(((2 * M + D) / (2 * D) : Nat) : Int) else (((2 * M + D) / (2 * D) : Nat) : Int)) = rdiv A d := by
  unfold rdiv
  rw [hM, hD]
  by_cases h1 : A < 0 <;> by_cases h2 : d < 0
  ·have e1 : (0 ≤ A) = False := by simp; omega
   have e2 : (0 < d) = False := by simp; omega
   simp [h1, h2, e1, e2]
  ·have e1 : (0 ≤ A) = False := by simp; omega
   have e2 : (0 < d) = True := by simp; omega
   simp [h1, h2, e1, e2]
  ·have e1 : (0 ≤ A) = True := by simp; omega
   have e2 : (0 < d) = False := by simp; omega
   simp [h1, h2, e1, e2]
  ·have e1 : (0 ≤ A) = True := by simp; omega
   have e2 : (0 < d) = True := by simp; omega
   simp [h1, h2, e1, e2]
 rw [hv] at hs
 have hdiv := hdh
 refine (wdiv_walk A d M D ((M : Int) / D) ((M : Int) % D) _ (decide (A < 0)) _ w (by simp; exact d0) hMb.1 (by omega) rfl
  (fun w => (abs_any A w a1 a2).mono fun e w' h => ⟨h.1.trans (by rw [hM]), h.2⟩)
  (fun w => (abs64_any d w d1 d2).mono fun e w' h => ⟨h.1.trans (by rw [hD]), h.2⟩)
  (by rw [Int.tdiv_eq_ediv_of_nonneg hMb.1, hdh, IntKind.wrap_u64]; exact Int.emod_eq_of_lt hQb.1 hQb.2.1)
  (by rw [Int.tmod_eq_emod_of_nonneg hMb.1, IntKind.wrap_u64]; omega)
  (fun w => (div64_any _ _ _ w hmod0 hmod1 hMb.2.2.1 hMb.2.2.2 (by omega)).mono fun e w' h => ⟨h.1.trans (by rw [hdl.1, hdl.2]), h.2⟩)
  rfl (by omega) hR0 hR1
  (fun w => by rw [hfin]; exact signed64_any _ _ _ w hFbb.2.2.1 hFbb.2.2.2)
  (fun w => plus_any _ _ _ _ _ w hQb.1 hQb.2.2.1 hQb.2.2.2 (by decide) (by decide) (by decide) (by have := hilo ((M : Int) / D); omega) (by omega))).mono fun e w' h => ⟨h.1.trans ?_, h.2⟩
 rw [hfin, hs.1, hs.2]

/-- wide.Shift, within range. -/
theorem shift_walk (a s M T : Int) (neg : Bool) (w : World) (s0 : 0 ≤ s) (s1 : s ≤ 66) (hn : decide (a < 0) = neg) (N : Int)
  (habs : ∀ w, Calls Tryz.prog 106 #[.int .i64 a] w fun e w' => e = .returned (.int .u64 N) ∧ w = w')
  (hshl : ∀ w, Calls Tryz.prog 111 #[.agg #[.int .u64 0, .int .u64 N], .int .i64 s] w fun e w' =>
   e = .returned (.agg #[.int .u64 (hi64 M), .int .u64 (lo64 M)]) ∧ Below w.heap.size w w')
  (hshr : ∀ w, Calls Tryz.prog 113 #[.agg #[.int .u64 (hi64 M), .int .u64 (lo64 M)], .int .i64 s] w fun e w' =>
   e = .returned (.agg #[.int .u64 0, .int .u64 N]) ∧ Below w.heap.size w w')
  (hsg : ∀ w, Calls Tryz.prog 107 #[.agg #[.int .u64 (hi64 M), .int .u64 (lo64 M)], .bool neg] w fun e w' =>
   e = .returned (.tuple #[.agg #[.int .i64 (hi64 T), .int .u64 (lo64 T)], .bool true]) ∧ Below w.heap.size w w') :
  Calls Tryz.prog 86 #[.int .i64 a, .int .i64 s] w fun e w' =>
   e = .returned (.tuple #[.agg #[.int .i64 (hi64 T), .int .u64 (lo64 T)], .bool true]) ∧ Below w.heap.size w w' := by
 have c1 : ¬ s < 0 := by omega
 have c2 : ¬ 127 < s := by omega
 have HA := Lib.hid habs
 have HL := Lib.hid hshl
 have HR := Lib.hid hshr
 have HS := Lib.hid hsg
 clear habs hshl hshr hsg
 go_enter Tryz.func86, Tryz.ntmps86
 go_wp2_with fail
 refine (HA.out _).mono ?_; rintro e w1 ⟨rfl, rfl⟩
 go_wp2_with fail
 refine (HL.out _).mono ?_; rintro e w2 ⟨rfl, hb2⟩
 have hb2z0 : w.heap.size < w2.heap.size := by have := hb2.size; (try simp at this); omega
 have hb2z1 : w.heap.size + 1 < w2.heap.size := by have := hb2.size; (try simp at this); omega
 have hb2c0_0 := hb2.cell (p := ⟨w.heap.size, 0, none⟩) (by (try simp); (try omega))
 have hb2f0_0 := hb2.frozen (p := ⟨w.heap.size, 0, none⟩) (by (try simp); (try omega))
 simp [go_sem, *] at hb2c0_0 hb2f0_0
 have hb2c0_1 := hb2.cell (p := ⟨w.heap.size, 1, none⟩) (by (try simp); (try omega))
 have hb2f0_1 := hb2.frozen (p := ⟨w.heap.size, 1, none⟩) (by (try simp); (try omega))
 simp [go_sem, *] at hb2c0_1 hb2f0_1
 have hb2c1_0 := hb2.cell (p := ⟨w.heap.size + 1, 0, none⟩) (by (try simp); (try omega))
 have hb2f1_0 := hb2.frozen (p := ⟨w.heap.size + 1, 0, none⟩) (by (try simp); (try omega))
 simp [go_sem, *] at hb2c1_0 hb2f1_0
 have hb2c1_1 := hb2.cell (p := ⟨w.heap.size + 1, 1, none⟩) (by (try simp); (try omega))
 have hb2f1_1 := hb2.frozen (p := ⟨w.heap.size + 1, 1, none⟩) (by (try simp); (try omega))
 simp [go_sem, *] at hb2c1_1 hb2f1_1
 go_wp2_with fail
 go_region_held3 (fun w' => w'.cell? ⟨w.heap.size + 1, 0, none⟩ = some (.int .u64 0) ∧ w'.cell? ⟨w.heap.size + 1, 1, none⟩ = some (.int .u64 N) ∧ w'.cell? ⟨w2.heap.size, 0, none⟩ = some (.int .u64 (hi64 M)) ∧ w'.cell? ⟨w2.heap.size, 1, none⟩ = some (.int .u64 (lo64 M))) (simp [go_sem, *]) (first | (go_at_call 113; refine (HR.out _).mono ?_; rintro e w3 ⟨rfl, hb3⟩; (have hb3c := (bcell hb3).1)))
 have hz3 : w2.heap.size < w3.heap.size := by have := hb3.size; (try simp at this); omega
 clear hb3c
 have hb3z0 : w.heap.size < w3.heap.size := by have := hb3.size; (try simp at this); omega
 have hb3z1 : w.heap.size + 1 < w3.heap.size := by have := hb3.size; (try simp at this); omega
 have hb3c0_0 := hb3.cell (p := ⟨w.heap.size, 0, none⟩) (by (try simp); (try omega))
 have hb3f0_0 := hb3.frozen (p := ⟨w.heap.size, 0, none⟩) (by (try simp); (try omega))
 simp [go_sem, *] at hb3c0_0 hb3f0_0
 have hb3c0_1 := hb3.cell (p := ⟨w.heap.size, 1, none⟩) (by (try simp); (try omega))
 have hb3f0_1 := hb3.frozen (p := ⟨w.heap.size, 1, none⟩) (by (try simp); (try omega))
 simp [go_sem, *] at hb3c0_1 hb3f0_1
 go_wp2_with fail
 refine (HS.out _).mono ?_; rintro e w4 ⟨rfl, hb4⟩
 have hb4z0 : w.heap.size < w4.heap.size := by have := hb4.size; (try simp at this); omega
 have hb4z1 : w.heap.size + 1 < w4.heap.size := by have := hb4.size; (try simp at this); omega
 have hb4c0_0 := hb4.cell (p := ⟨w.heap.size, 0, none⟩) (by (try simp); (try omega))
 have hb4f0_0 := hb4.frozen (p := ⟨w.heap.size, 0, none⟩) (by (try simp); (try omega))
 simp [go_sem, *] at hb4c0_0 hb4f0_0
 have hb4c0_1 := hb4.cell (p := ⟨w.heap.size, 1, none⟩) (by (try simp); (try omega))
 have hb4f0_1 := hb4.frozen (p := ⟨w.heap.size, 1, none⟩) (by (try simp); (try omega))
 simp [go_sem, *] at hb4c0_1 hb4f0_1
 go_wp2_with fail
 simp [bodyPost, results, Tryz.results86, go_sem, hb4c0_0, hb4c0_1, hb4z0]
 (repeat (first | with_reducible exact Below.refl _ _ | with_reducible assumption | with_reducible apply Below.drew | (with_reducible refine below_drewN ?_ _) | (with_reducible refine Below.alloc ?_ (by (try simp) <;> omega) _) | (with_reducible refine Below.setCell ?_ (by (try simp) <;> omega) _) | (with_reducible refine Below.trans ?_ (Below.mono (by assumption) (by (try simp) <;> omega)))))
theorem shift_any (a s T : Int) (w : World) (s0 : 0 ≤ s) (s1 : s ≤ 66) (a0 : -1152921504606846976 ≤ a) (a1 : a ≤ 1152921504606846976) (hT : a * 2 ^ s.toNat = T) :
  Calls Tryz.prog 86 #[.int .i64 a, .int .i64 s] w fun e w' =>
   e = .returned (.tuple #[.agg #[.int .i64 (hi64 T), .int .u64 (lo64 T)], .bool true]) ∧ Below w.heap.size w w' := by
 have hp : (0 : Int) < 2 ^ s.toNat := Int.pow_pos (by decide)
 have hp2 : (2 : Int) ^ s.toNat ≤ 73786976294838206464 := by
  have h : (2 : Nat) ^ s.toNat ≤ 2 ^ 66 := Nat.pow_le_pow_right (by decide) (by omega)
  have h2 : ((2 ^ s.toNat : Nat) : Int) = 2 ^ s.toNat := by simp
  have h3 : (2 : Nat) ^ 66 = 73786976294838206464 := by decide
  omega
 obtain ⟨N, hN⟩ : ∃ N : Nat, a.natAbs = N := ⟨_, rfl⟩
 obtain ⟨M, hM⟩ : ∃ M : Int, (N : Int) * 2 ^ s.toNat = M := ⟨_, rfl⟩
 have hM0 : 0 ≤ M := by rw [← hM]; exact Int.mul_nonneg (by omega) (Int.le_of_lt hp)
 have hM1 : M ≤ 1152921504606846976 * 73786976294838206464 := by
  rw [← hM]; exact Int.mul_le_mul (by omega) hp2 (Int.le_of_lt hp) (by decide)
 have hb := bits_hl (M := M) hM0 (by omega)
 have hdiv : M / 2 ^ s.toNat = (N : Int) := by rw [← hM]; exact Int.mul_ediv_cancel _ (Int.ne_of_gt hp)
 have hNh : hi64 (N : Int) = 0 ∧ lo64 (N : Int) = N := by unfold hi64 lo64; omega
 refine shift_walk a s M T _ w s0 s1 rfl N (fun w => (abs64_any a w (by omega) (by omega)).mono fun e w' h => ⟨h.1.trans (by rw [hN]), h.2⟩)
  (fun w => shl_any _ _ _ w (by omega) (by omega) (by omega) (by omega) hM (by omega))
  (fun w => (shr_any _ _ _ M N w hb.1 hb.2.1 hb.2.2.1 hb.2.2.2 (by omega) (by omega) (hilo M) hdiv).mono fun e w' h => ⟨h.1.trans (by rw [hNh.1, hNh.2]), h.2⟩) (fun w => ?_)
 by_cases h : a < 0
 ·have e : T = -M := by rw [← hT, ← hM, ← Int.neg_mul, show -(N : Int) = a from by omega]
  rw [show decide (a < 0) = true from by simpa using h]
  refine (signed_neg (hi64 M) (lo64 M) w hb.1 (by unfold hi64; omega) hb.2.2.1 hb.2.2.2).mono fun e w' h => ⟨h.1.trans ?_, h.2⟩
  rw [show -(hi64 M * B64 + lo64 M) = T from by rw [show hi64 M * B64 + lo64 M = M from hilo M]; omega]
 ·have e : T = M := by rw [← hT, ← hM, show (N : Int) = a from by omega]
  rw [show decide (a < 0) = false from by simpa using h, e]
  exact signed_pos (hi64 M) (lo64 M) w hb.1 (by unfold hi64; omega)

end Go.Proofs.YtgfklheepkgedaaGreat
/- Contract of wide.Add at lists of W. -/
namespace Go.Proofs.YtgfklheepkgedaaGreat
open Go.RowKit
set_option maxRecDepth 100000
/-- wide.Add at two. -/
theorem wadd2_any (A B S : Int) (p c : Nat) (w : World) (a1 : -170141183460469231731687303715884105728 ≤ A) (a2 : A < 170141183460469231731687303715884105728)
  (b1 : -170141183460469231731687303715884105728 ≤ B) (b2 : B < 170141183460469231731687303715884105728)
  (hS : A + B = S) (s1 : -170141183460469231731687303715884105728 ≤ S) (s2 : S < 170141183460469231731687303715884105728)
  (c0 : w.cell? ⟨p, 0, none⟩ = some (.int .i64 (hi64 A))) (c1 : w.cell? ⟨p, 1, none⟩ = some (.int .u64 (lo64 A)))
  (c2 : w.cell? ⟨p, 2, none⟩ = some (.int .i64 (hi64 B))) (c3 : w.cell? ⟨p, 3, none⟩ = some (.int .u64 (lo64 B))) :
  Calls Tryz.prog 79 #[.slice (some ⟨p, 0, none⟩) 2 c] w fun e w' =>
   e = .returned (.tuple #[.agg #[.int .i64 (hi64 S), .int .u64 (lo64 S)], .bool true]) ∧ Below w.heap.size w w' := by
 have hp : p < w.heap.size := World.block_lt_of_cell? w _ c0
 go_enter Tryz.func79, Tryz.ntmps79
 go_wp2_with fail
 refine wp_loop_rounds 3 ?_
 rw [rounds_succ]
 go_wp2_with fail
 refine (add_any 0 A A _ (by decide) (by decide) a1 a2 (by omega) a1 a2).mono ?_; rintro e w1 ⟨rfl, hb1⟩
 have hpz : p < w.heap.size + 1 := by omega
 have hb1z0 : w.heap.size < w1.heap.size := by have := hb1.size; (try simp at this); omega
 have hb1z1 : w.heap.size + 1 < w1.heap.size := by have := hb1.size; (try simp at this); omega
 have hb1z2 : w.heap.size + 1 + 1 < w1.heap.size := by have := hb1.size; (try simp at this); omega
 have hb1c0_0 := hb1.cell (p := ⟨w.heap.size, 0, none⟩) (by (try simp); (try omega))
 have hb1f0_0 := hb1.frozen (p := ⟨w.heap.size, 0, none⟩) (by (try simp); (try omega))
 simp [go_sem, *] at hb1c0_0 hb1f0_0
 have hb1c0_1 := hb1.cell (p := ⟨w.heap.size, 1, none⟩) (by (try simp); (try omega))
 have hb1f0_1 := hb1.frozen (p := ⟨w.heap.size, 1, none⟩) (by (try simp); (try omega))
 simp [go_sem, *] at hb1c0_1 hb1f0_1
 have hb1c1_0 := hb1.cell (p := ⟨w.heap.size + 1, 0, none⟩) (by (try simp); (try omega))
 have hb1f1_0 := hb1.frozen (p := ⟨w.heap.size + 1, 0, none⟩) (by (try simp); (try omega))
 simp [go_sem, *] at hb1c1_0 hb1f1_0
 have hb1c1_1 := hb1.cell (p := ⟨w.heap.size + 1, 1, none⟩) (by (try simp); (try omega))
 have hb1f1_1 := hb1.frozen (p := ⟨w.heap.size + 1, 1, none⟩) (by (try simp); (try omega))
 simp [go_sem, *] at hb1c1_1 hb1f1_1
 have hb1cp_0 := hb1.cell (p := ⟨p, 0, none⟩) (by (try simp); (try omega))
 have hb1fp_0 := hb1.frozen (p := ⟨p, 0, none⟩) (by (try simp); (try omega))
 simp [go_sem, *] at hb1cp_0 hb1fp_0
 have hb1cp_1 := hb1.cell (p := ⟨p, 1, none⟩) (by (try simp); (try omega))
 have hb1fp_1 := hb1.frozen (p := ⟨p, 1, none⟩) (by (try simp); (try omega))
 simp [go_sem, *] at hb1cp_1 hb1fp_1
 have hb1cp_2 := hb1.cell (p := ⟨p, 2, none⟩) (by (try simp); (try omega))
 have hb1fp_2 := hb1.frozen (p := ⟨p, 2, none⟩) (by (try simp); (try omega))
 simp [go_sem, *] at hb1cp_2 hb1fp_2
 have hb1cp_3 := hb1.cell (p := ⟨p, 3, none⟩) (by (try simp); (try omega))
 have hb1fp_3 := hb1.frozen (p := ⟨p, 3, none⟩) (by (try simp); (try omega))
 simp [go_sem, *] at hb1cp_3 hb1fp_3
 have hp1 : p < w1.heap.size := by omega
 go_wp2_with fail
 rw [rounds_succ]
 go_wp2_with fail
 refine (add_any A B S _ a1 a2 b1 b2 hS s1 s2).mono ?_; rintro e w2 ⟨rfl, hb2⟩
 have hb2z0 : w.heap.size < w2.heap.size := by have := hb2.size; (try simp at this); omega
 have hb2z1 : w.heap.size + 1 < w2.heap.size := by have := hb2.size; (try simp at this); omega
 have hb2z2 : w.heap.size + 1 + 1 < w2.heap.size := by have := hb2.size; (try simp at this); omega
 have hb2c0_0 := hb2.cell (p := ⟨w.heap.size, 0, none⟩) (by (try simp); (try omega))
 have hb2f0_0 := hb2.frozen (p := ⟨w.heap.size, 0, none⟩) (by (try simp); (try omega))
 simp [go_sem, *] at hb2c0_0 hb2f0_0
 have hb2c0_1 := hb2.cell (p := ⟨w.heap.size, 1, none⟩) (by (try simp); (try omega))
 have hb2f0_1 := hb2.frozen (p := ⟨w.heap.size, 1, none⟩) (by (try simp); (try omega))
 simp [go_sem, *] at hb2c0_1 hb2f0_1
 have hb2c1_0 := hb2.cell (p := ⟨w.heap.size + 1, 0, none⟩) (by (try simp); (try omega))
 have hb2f1_0 := hb2.frozen (p := ⟨w.heap.size + 1, 0, none⟩) (by (try simp); (try omega))
 simp [go_sem, *] at hb2c1_0 hb2f1_0
 have hb2c1_1 := hb2.cell (p := ⟨w.heap.size + 1, 1, none⟩) (by (try simp); (try omega))
 have hb2f1_1 := hb2.frozen (p := ⟨w.heap.size + 1, 1, none⟩) (by (try simp); (try omega))
 simp [go_sem, *] at hb2c1_1 hb2f1_1
 go_wp2_with fail
 rw [rounds_succ]
 go_wp2_with fail
 simp [bodyPost, results, Tryz.results79, go_sem, hb2c0_0, hb2c0_1, hb2z0]
 (repeat (first | with_reducible exact Below.refl _ _ | with_reducible assumption | with_reducible apply Below.drew | (with_reducible refine below_drewN ?_ _) | (with_reducible refine Below.alloc ?_ (by (try simp) <;> omega) _) | (with_reducible refine Below.setCell ?_ (by (try simp) <;> omega) _) | (with_reducible refine Below.trans ?_ (Below.mono (by assumption) (by (try simp) <;> omega)))))
end Go.Proofs.YtgfklheepkgedaaGreat
