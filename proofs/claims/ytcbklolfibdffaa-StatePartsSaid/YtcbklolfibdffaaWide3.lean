/- Contracts of package wide (4): shifts and sums of sizes. -/
import Derived.Test.YtcbklolfibdffaaWide2
namespace Go.Proofs.Ytcbklolfibdffaa
open Go.RowKit
set_option maxRecDepth 100000

theorem pow_split (s : Nat) (h : s < 64) : 2 ^ s * 2 ^ (64 - s) = 18446744073709551616 := by
  rw [← Nat.pow_add, show s + (64 - s) = 64 from by omega]
theorem shr_hi_eq (x y s : Nat) (_h : s < 64) (_hy : y < 18446744073709551616) : (x * 18446744073709551616 + y) / 2 ^ s / 18446744073709551616 = x / 2 ^ s := by
  rw [Nat.div_div_eq_div_mul, Nat.mul_comm (2 ^ s), ← Nat.div_div_eq_div_mul]
  rw [show (x * 18446744073709551616 + y) / 18446744073709551616 = x from by omega]
theorem shr_lo_eq (x y s : Nat) (h : s < 64) (hy : y < 18446744073709551616) :
    (x * 18446744073709551616 + y) / 2 ^ s % 18446744073709551616 = (x * 2 ^ (64 - s) % 18446744073709551616) ||| (y / 2 ^ s) := by
  have hp : 0 < 2 ^ s := Nat.two_pow_pos s
  have e := pow_split s h
  have e1 : (x * 18446744073709551616 + y) / 2 ^ s = x * 2 ^ (64 - s) + y / 2 ^ s := by
    rw [← e, show x * (2 ^ s * 2 ^ (64 - s)) + y = 2 ^ s * (x * 2 ^ (64 - s)) + y from by rw [Nat.mul_left_comm], Nat.mul_add_div hp]
  have e2 : x * 2 ^ (64 - s) % 18446744073709551616 = 2 ^ (64 - s) * (x % 2 ^ s) := by
    rw [← e, Nat.mul_mod_mul_right, Nat.mul_comm]
  have e3 : y / 2 ^ s < 2 ^ (64 - s) := by
    rw [Nat.div_lt_iff_lt_mul hp, Nat.mul_comm, e]; exact hy
  rw [e1, Nat.add_mod, e2, Nat.mod_eq_of_lt (a := y / 2 ^ s) (by have : 2 ^ (64 - s) ≤ 18446744073709551616 := by rw [← e]; exact Nat.le_mul_of_pos_left _ hp
                                                                 omega)]
  rw [Nat.two_pow_add_eq_or_of_lt e3]
  apply Nat.mod_eq_of_lt
  rw [← Nat.two_pow_add_eq_or_of_lt e3]
  have h1 : x % 2 ^ s + 1 ≤ 2 ^ s := Nat.mod_lt _ hp
  calc 2 ^ (64 - s) * (x % 2 ^ s) + y / 2 ^ s < 2 ^ (64 - s) * (x % 2 ^ s) + 2 ^ (64 - s) := by omega
    _ = 2 ^ (64 - s) * (x % 2 ^ s + 1) := by rw [Nat.mul_add, Nat.mul_one]
    _ ≤ 2 ^ (64 - s) * 2 ^ s := Nat.mul_le_mul_left _ h1
    _ = 18446744073709551616 := by rw [Nat.mul_comm]; exact e

theorem bits_or_u64 (a b : Int) (ha0 : 0 ≤ a) (ha : a < 18446744073709551616) (hb0 : 0 ≤ b) (hb : b < 18446744073709551616) :
    bits .or .u64 a b = ((a.toNat ||| b.toNat : Nat) : Int) := by
  obtain ⟨a, rfl⟩ := Int.eq_ofNat_of_zero_le ha0
  obtain ⟨b, rfl⟩ := Int.eq_ofNat_of_zero_le hb0
  exact bits_or_u64_nat a b (by omega) (by omega)
theorem toNat_div_pow (y : Int) (k : Nat) (h : 0 ≤ y) : (y / 2 ^ k).toNat = y.toNat / 2 ^ k := by
  obtain ⟨y, rfl⟩ := Int.eq_ofNat_of_zero_le h
  have : ((y : Int) / 2 ^ k) = ((y / 2 ^ k : Nat) : Int) := by simp
  rw [this, Int.toNat_natCast, Int.toNat_natCast]
theorem div_pow_bd (y : Int) (k : Nat) (h : 0 ≤ y) (h1 : y < 18446744073709551616) : 0 ≤ y / 2 ^ k ∧ y / 2 ^ k < 18446744073709551616 := by
  obtain ⟨y, rfl⟩ := Int.eq_ofNat_of_zero_le h
  have : ((y : Int) / 2 ^ k) = ((y / 2 ^ k : Nat) : Int) := by simp
  rw [this]
  have := Nat.div_le_self y (2 ^ k)
  generalize y / 2 ^ k = z at *
  omega

/-- A size of 128 bits. -/
theorem shl_any (y s M : Int) (w : World) (y0 : 0 ≤ y) (y1 : y < 18446744073709551616) (s0 : 0 ≤ s) (s1 : s < 128) (hM : y * 2 ^ s.toNat = M) (hlt : M < 340282366920938463463374607431768211456) :
    Calls Try.prog 39 #[.agg #[.int .u64 0, .int .u64 y], .int .i64 s] w fun e w' =>
      e = .returned (.agg #[.int .u64 (hi64 M), .int .u64 (lo64 M)]) ∧ Below w.heap.size w w' := by
  have HM := Lib.hid hM
  clear hM
  by_cases h2 : 64 ≤ s
  · go_enter Try.func39, Try.ntmps39
    go_wp2
    simp [bodyPost, results, Try.results39, go_sem]
    refine ⟨?_, ?_⟩
    · have hM := HM.out
      obtain ⟨k, rfl⟩ : ∃ k : Nat, s = 64 + k := ⟨(s - 64).toNat, by omega⟩
      simp only [IntKind.wrap_u64]
      rw [show (64 + (k : Int) - 64).toNat = k from by omega]
      rw [show (64 + (k : Int)).toNat = 64 + k from by omega, Int.pow_add] at hM
      have hM' : M = (y * 2 ^ k) * 18446744073709551616 := by rw [← hM, Int.mul_comm (2 ^ 64), ← Int.mul_assoc]; rfl
      have h0 : 0 ≤ y * 2 ^ k := Int.mul_nonneg y0 (Int.le_of_lt (Int.pow_pos (by decide)))
      generalize y * 2 ^ k = z at *
      unfold hi64 lo64
      omega
    · (repeat (first | with_reducible exact Below.refl _ _ | with_reducible apply Below.drew | (with_reducible refine below_drewN ?_ _) | (with_reducible refine Below.alloc ?_ (by (try simp) <;> omega) _) | (with_reducible refine Below.setCell ?_ (by (try simp) <;> omega) _)))
  · have h3 : ¬ 64 - s < 0 := by omega
    have hb : bits .or .u64 0 (y / 2 ^ (64 - s).toNat) = hi64 M := by
      have hd := div_pow_bd y (64 - s).toNat y0 y1
      rw [bits_or_u64 _ _ (by decide) (by decide) hd.1 hd.2, toNat_div_pow _ _ y0]
      have hM := HM.out
      obtain ⟨k, rfl⟩ := Int.eq_ofNat_of_zero_le s0
      obtain ⟨y, rfl⟩ := Int.eq_ofNat_of_zero_le y0
      rw [show (64 - (k : Int)).toNat = 64 - k from by omega]
      simp at hM
      have e := pow_split k (by omega)
      have hp : 0 < 2 ^ (64 - k) := Nat.two_pow_pos _
      have : M = ((y * 2 ^ k : Nat) : Int) := by rw [← hM]; simp
      rw [this]
      have e2 : y * 2 ^ k / 18446744073709551616 = y / 2 ^ (64 - k) := by
        rw [← e, Nat.mul_comm y]; exact Nat.mul_div_mul_left _ _ (Nat.two_pow_pos k)
      unfold hi64
      simp only [Int.toNat_natCast, Int.toNat_zero, Nat.zero_or]
      generalize y * 2 ^ k = z at *
      omega
    have HB := Lib.hid hb
    clear hb
    go_enter Try.func39, Try.ntmps39
    go_wp2
    go_region
    go_wp2
    simp [bodyPost, results, Try.results39, go_sem]
    refine ⟨⟨HB.out, ?_⟩, ?_⟩
    · rw [HM.out, IntKind.wrap_u64]; rfl
    · (repeat (first | with_reducible exact Below.refl _ _ | with_reducible apply Below.drew | (with_reducible refine below_drewN ?_ _) | (with_reducible refine Below.alloc ?_ (by (try simp) <;> omega) _) | (with_reducible refine Below.setCell ?_ (by (try simp) <;> omega) _)))

theorem shr_any (x y s M R : Int) (w : World) (x0 : 0 ≤ x) (x1 : x < 18446744073709551616) (y0 : 0 ≤ y) (y1 : y < 18446744073709551616) (s0 : 0 ≤ s) (s1 : s < 128)
    (hM : x * 18446744073709551616 + y = M) (hR : M / 2 ^ s.toNat = R) :
    Calls Try.prog 41 #[.agg #[.int .u64 x, .int .u64 y], .int .i64 s] w fun e w' =>
      e = .returned (.agg #[.int .u64 (hi64 R), .int .u64 (lo64 R)]) ∧ Below w.heap.size w w' := by
  have HM := Lib.hid hM
  have HR := Lib.hid hR
  clear hM hR
  by_cases h2 : 64 ≤ s
  · have hr : hi64 R = 0 ∧ x / 2 ^ (s - 64).toNat = lo64 R := by
      have hM := HM.out
      have hR := HR.out
      obtain ⟨k, rfl⟩ : ∃ k : Nat, s = 64 + k := ⟨(s - 64).toNat, by omega⟩
      rw [show (64 + (k : Int) - 64).toNat = k from by omega]
      rw [show (64 + (k : Int)).toNat = 64 + k from by omega, Int.pow_add] at hR
      rw [← Int.ediv_ediv_of_nonneg (by decide)] at hR
      have e : M / 2 ^ 64 = x := by have : (2 : Int) ^ 64 = 18446744073709551616 := rfl
                                    rw [this]; omega
      rw [e] at hR
      have hd := div_pow_bd x k x0 x1
      rw [hR] at hd ⊢
      unfold hi64 lo64
      omega
    obtain ⟨hr1, hr2⟩ := hr
    have H1 := Lib.hid hr1
    have H2 := Lib.hid hr2
    clear hr1 hr2
    go_enter Try.func41, Try.ntmps41
    go_wp2
    simp [bodyPost, results, Try.results41, go_sem]
    refine ⟨⟨H1.out.symm, H2.out⟩, ?_⟩
    (repeat (first | with_reducible exact Below.refl _ _ | with_reducible apply Below.drew | (with_reducible refine below_drewN ?_ _) | (with_reducible refine Below.alloc ?_ (by (try simp) <;> omega) _) | (with_reducible refine Below.setCell ?_ (by (try simp) <;> omega) _)))
  · have hr : x / 2 ^ s.toNat = hi64 R ∧ bits .or .u64 (y / 2 ^ s.toNat) (IntKind.u64.wrap (x * 2 ^ (64 - s).toNat)) = lo64 R := by
      have hM := HM.out
      have hR := HR.out
      obtain ⟨k, rfl⟩ := Int.eq_ofNat_of_zero_le s0
      obtain ⟨y, rfl⟩ := Int.eq_ofNat_of_zero_le y0
      obtain ⟨x, rfl⟩ := Int.eq_ofNat_of_zero_le x0
      have hd := div_pow_bd y k y0 y1
      rw [show (64 - (k : Int)).toNat = 64 - k from by omega, IntKind.wrap_u64]
      rw [Int.toNat_natCast] at *
      have e1 := shr_hi_eq x y k (by omega) (by omega)
      have e2 := shr_lo_eq x y k (by omega) (by omega)
      have hR' : R = (((x * 18446744073709551616 + y) / 2 ^ k : Nat) : Int) := by rw [← hR, ← hM]; simp
      have hm : ((x : Int) * 2 ^ (64 - k)) % 18446744073709551616 = ((x * 2 ^ (64 - k) % 18446744073709551616 : Nat) : Int) := by simp
      rw [hm, bits_or_u64 _ _ hd.1 hd.2 (by omega) (by have := Nat.mod_lt (x * 2 ^ (64 - k)) (show 18446744073709551616 > 0 by decide); omega), toNat_div_pow _ _ (by omega), hR']
      refine ⟨?_, ?_⟩
      · unfold hi64
        rw [show ((x : Int) / 2 ^ k) = ((x / 2 ^ k : Nat) : Int) from by simp]
        omega
      · unfold lo64
        rw [Int.toNat_natCast, Int.toNat_natCast, Nat.or_comm]
        omega
    obtain ⟨hr1, hr2⟩ := hr
    have H1 := Lib.hid hr1
    have H2 := Lib.hid hr2
    clear hr1 hr2
    have h3 : ¬ 64 - s < 0 := by omega
    go_enter Try.func41, Try.ntmps41
    go_wp2
    go_region
    go_wp2
    simp [bodyPost, results, Try.results41, go_sem]
    refine ⟨⟨H1.out, H2.out⟩, ?_⟩
    (repeat (first | with_reducible exact Below.refl _ _ | with_reducible apply Below.drew | (with_reducible refine below_drewN ?_ _) | (with_reducible refine Below.alloc ?_ (by (try simp) <;> omega) _) | (with_reducible refine Below.setCell ?_ (by (try simp) <;> omega) _)))

theorem plus_any (x y u v S : Int) (w : World) (x0 : 0 ≤ x) (y0 : 0 ≤ y) (y1 : y < 18446744073709551616) (u0 : 0 ≤ u) (v0 : 0 ≤ v) (v1 : v < 18446744073709551616)
    (hS : (x + u) * 18446744073709551616 + y + v = S) (hlt : S < 340282366920938463463374607431768211456) :
    Calls Try.prog 38 #[.agg #[.int .u64 x, .int .u64 y], .agg #[.int .u64 u, .int .u64 v]] w fun e w' =>
      e = .returned (.agg #[.int .u64 (hi64 S), .int .u64 (lo64 S)]) ∧ Below w.heap.size w w' := by
  have a1 := fun w => add64_0 y v y0 v0 w
  have c1 : 0 ≤ hi64 (y + v) ∧ hi64 (y + v) ≤ 1 := by unfold hi64; omega
  have a2 := fun w => add64 x u (hi64 (y + v)) x0 u0 c1.1 c1.2 w
  have hr : lo64 (x + u + hi64 (y + v)) = hi64 S ∧ lo64 (y + v) = lo64 S := by unfold hi64 lo64; omega
  obtain ⟨hr1, hr2⟩ := hr
  have H1 := Lib.hid hr1
  have H2 := Lib.hid hr2
  clear hr1 hr2 hS c1 hlt
  go_enter Try.func38, Try.ntmps38
  go_wp2_with fail
  simp [bodyPost, results, Try.results38, go_sem]
  refine ⟨⟨H1.out, H2.out⟩, ?_⟩
  (repeat (first | with_reducible exact Below.refl _ _ | with_reducible apply Below.drew | (with_reducible refine below_drewN ?_ _) | (with_reducible refine Below.alloc ?_ (by (try simp) <;> omega) _) | (with_reducible refine Below.setCell ?_ (by (try simp) <;> omega) _)))
end Go.Proofs.Ytcbklolfibdffaa
