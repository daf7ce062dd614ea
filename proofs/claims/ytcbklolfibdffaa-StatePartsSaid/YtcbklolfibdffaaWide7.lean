/- Contracts of package wide (8): Div and Shift, as numbers. -/
import Derived.Test.YtcbklolfibdffaaWide6
namespace Go.Proofs.Ytcbklolfibdffaa
open Go.RowKit
set_option maxRecDepth 100000
theorem rdiv_nat (M D : Nat) (hD : 0 < D) : (2 * M + D) / (2 * D) = if D ≤ 2 * (M % D) then M / D + 1 else M / D := by
  have h := Nat.div_add_mod M D
  have hm := Nat.mod_lt M hD
  generalize M / D = q at *
  generalize M % D = r at *
  subst h
  have e : 2 * (D * q + r) + D = (2 * r + D) + 2 * D * q := by rw [Nat.mul_add, Nat.mul_assoc]; omega
  rw [e, Nat.add_mul_div_left _ _ (by omega)]
  by_cases hc : D ≤ 2 * r
  · rw [if_pos hc]
    have : (2 * r + D) / (2 * D) = 1 := Nat.div_eq_of_lt_le (by omega) (by omega)
    omega
  · rw [if_neg hc]
    have : (2 * r + D) / (2 * D) = 0 := Nat.div_eq_of_lt (by omega)
    omega
theorem div_hi (M D : Int) (_h : 0 ≤ M) (hD : 0 < D) : hi64 M / D = hi64 (M / D) := by
  unfold hi64
  rw [Int.ediv_ediv_of_nonneg (by decide), Int.ediv_ediv_of_nonneg (Int.le_of_lt hD), Int.mul_comm]
theorem div_lo (M D : Int) (hD : 0 < D) : (hi64 M % D * 18446744073709551616 + lo64 M) / D = lo64 (M / D) ∧ (hi64 M % D * 18446744073709551616 + lo64 M) % D = M % D := by
  have h := hilo M
  have hq := Int.mul_ediv_add_emod (hi64 M) D
  have hl := lo64_bd M
  have hr0 := Int.emod_nonneg (hi64 M) (Int.ne_of_gt hD)
  have hr1 := Int.emod_lt_of_pos (hi64 M) hD
  generalize hi64 M % D = r at *
  generalize hi64 M / D = q at *
  generalize hi64 M = x at *
  generalize lo64 M = y at *
  have e : M = (r * 18446744073709551616 + y) + D * (q * 18446744073709551616) := by
    rw [← h, ← hq, ← Int.mul_assoc]; omega
  have e1 : M / D = (r * 18446744073709551616 + y) / D + q * 18446744073709551616 := by
    rw [e, Int.add_mul_ediv_left _ _ (Int.ne_of_gt hD)]
  have e2 : M % D = (r * 18446744073709551616 + y) % D := by rw [e, Int.add_mul_emod_self_left]
  have b0 : 0 ≤ (r * 18446744073709551616 + y) / D := Int.ediv_nonneg (by omega) (Int.le_of_lt hD)
  have b1 : (r * 18446744073709551616 + y) / D < 18446744073709551616 := by
    apply Int.ediv_lt_of_lt_mul hD
    have : (r + 1) * 18446744073709551616 ≤ D * 18446744073709551616 := Int.mul_le_mul_of_nonneg_right (by omega) (by decide)
    rw [Int.mul_comm 18446744073709551616]
    omega
  rw [e1, e2]
  refine ⟨?_, rfl⟩
  unfold lo64
  omega

/-- wide.Div, the divisor not nought. -/
theorem wdiv_any (A d : Int) (w : World) (d0 : d ≠ 0) (d1 : -9223372036854775808 ≤ d) (d2 : d < 9223372036854775808) (a1 : -170141183460469231731687303715884105728 ≤ A) (a2 : A < 170141183460469231731687303715884105728) :
    Calls Try.prog 48 #[.agg #[.int .i64 (hi64 A), .int .u64 (lo64 A)], .int .i64 d] w fun e w' =>
      e = .returned (.tuple #[.int .i64 (r64V (rdiv A d)), .bool (r64F (rdiv A d))]) ∧ Below w.heap.size w w' := by
  obtain ⟨M, hM⟩ : ∃ M : Nat, A.natAbs = M := ⟨_, rfl⟩
  obtain ⟨D, hD⟩ : ∃ D : Nat, d.natAbs = D := ⟨_, rfl⟩
  have hD0 : 0 < D := by omega
  have hMb := bits_hl (M := (M : Int)) (by omega) (by omega)
  have hdl := div_lo (M : Int) (D : Int) (by omega)
  have hdh := div_hi (M : Int) (D : Int) (by omega) (by omega)
  have hmod0 := Int.emod_nonneg (hi64 (M : Int)) (show (D : Int) ≠ 0 by omega)
  have hmod1 := Int.emod_lt_of_pos (hi64 (M : Int)) (show (0 : Int) < D by omega)
  have hR0 := Int.emod_nonneg (M : Int) (show (D : Int) ≠ 0 by omega)
  have hR1 := Int.emod_lt_of_pos (M : Int) (show (0 : Int) < D by omega)
  have hq0 : (0 : Int) ≤ (M : Int) / D := Int.ediv_nonneg (by omega) (by omega)
  have hq1 : (M : Int) / D ≤ M := Int.ediv_le_self _ (by omega)
  have hQb := bits_hl (M := (M : Int) / D) (by omega) (by omega)
  have hfin : (if (D : Int) ≤ 2 * ((M : Int) % D) then (M : Int) / D + 1 else (M : Int) / D) = (((2 * M + D) / (2 * D) : Nat) : Int) := by
    rw [rdiv_nat M D hD0]
    have e1 : ((M : Int) % D) = ((M % D : Nat) : Int) := by simp
    have e2 : ((M : Int) / D) = ((M / D : Nat) : Int) := by simp
    rw [e1, e2]
    split <;> split <;> omega
  have hFb : (0 : Int) ≤ (((2 * M + D) / (2 * D) : Nat) : Int) ∧ (((2 * M + D) / (2 * D) : Nat) : Int) ≤ (M : Int) + 1 := by
    rw [← hfin]; split <;> omega
  have hFbb := bits_hl hFb.1 (by omega)
  have hs := s64_r64 (((2 * M + D) / (2 * D) : Nat) : Int) (!decide (A < 0) == decide (d < 0)) hFb.1 (by omega)
  have hv : (if (!decide (A < 0) == decide (d < 0)) = true then -(((2 * M + D) / (2 * D) : Nat) : Int) else (((2 * M + D) / (2 * D) : Nat) : Int)) = rdiv A d := by
    unfold rdiv
    rw [hM, hD]
    by_cases h1 : A < 0 <;> by_cases h2 : d < 0
    · have e1 : (0 ≤ A) = False := by simp; omega
      have e2 : (0 < d) = False := by simp; omega
      simp [h1, h2, e1, e2]
    · have e1 : (0 ≤ A) = False := by simp; omega
      have e2 : (0 < d) = True := by simp; omega
      simp [h1, h2, e1, e2]
    · have e1 : (0 ≤ A) = True := by simp; omega
      have e2 : (0 < d) = False := by simp; omega
      simp [h1, h2, e1, e2]
    · have e1 : (0 ≤ A) = True := by simp; omega
      have e2 : (0 < d) = True := by simp; omega
      simp [h1, h2, e1, e2]
  rw [hv] at hs
  have hdiv := hdh
  refine (wdiv_walk A d M D ((M : Int) / D) ((M : Int) % D) _ (decide (A < 0)) _ w (by simp; exact d0) hMb.1 (by omega) rfl
    (fun w => (abs_any A w a1 a2).mono fun e w' h => ⟨h.1.trans (by rw [hM]), h.2⟩)
    (fun w => (abs64_any d w d1 d2).mono fun e w' h => ⟨h.1.trans (by rw [hD]), h.2⟩)
    (by rw [Int.tdiv_eq_ediv_of_nonneg hMb.1, hdh, IntKind.wrap_u64]; exact Int.emod_eq_of_lt hQb.1 hQb.2.1)
    (by rw [Int.tmod_eq_emod_of_nonneg hMb.1, IntKind.wrap_u64]; omega)
    (fun w => (div64_any _ _ _ w hmod0 hmod1 hMb.2.2.1 hMb.2.2.2 (by omega)).mono fun e w' h => ⟨h.1.trans (by rw [hdl.1, hdl.2]), h.2⟩)
    rfl (by omega) hR0 hR1
    (fun w => by rw [hfin]; exact signed64_any _ _ _ w hFbb.2.2.1 hFbb.2.2.2)
    (fun w => plus_any _ _ _ _ _ w hQb.1 hQb.2.2.1 hQb.2.2.2 (by decide) (by decide) (by decide) (by have := hilo ((M : Int) / D); omega) (by omega))).mono fun e w' h => ⟨h.1.trans ?_, h.2⟩
  rw [hfin, hs.1, hs.2]

/-- wide.Shift, within range. -/
theorem shift_walk (a s M T : Int) (neg : Bool) (w : World) (s0 : 0 ≤ s) (s1 : s ≤ 66) (hn : decide (a < 0) = neg) (N : Int)
    (habs : ∀ w, Calls Try.prog 34 #[.int .i64 a] w fun e w' => e = .returned (.int .u64 N) ∧ w = w')
    (hshl : ∀ w, Calls Try.prog 39 #[.agg #[.int .u64 0, .int .u64 N], .int .i64 s] w fun e w' =>
      e = .returned (.agg #[.int .u64 (hi64 M), .int .u64 (lo64 M)]) ∧ Below w.heap.size w w')
    (hshr : ∀ w, Calls Try.prog 41 #[.agg #[.int .u64 (hi64 M), .int .u64 (lo64 M)], .int .i64 s] w fun e w' =>
      e = .returned (.agg #[.int .u64 0, .int .u64 N]) ∧ Below w.heap.size w w')
    (hsg : ∀ w, Calls Try.prog 35 #[.agg #[.int .u64 (hi64 M), .int .u64 (lo64 M)], .bool neg] w fun e w' =>
      e = .returned (.tuple #[.agg #[.int .i64 (hi64 T), .int .u64 (lo64 T)], .bool true]) ∧ Below w.heap.size w w') :
    Calls Try.prog 43 #[.int .i64 a, .int .i64 s] w fun e w' =>
      e = .returned (.tuple #[.agg #[.int .i64 (hi64 T), .int .u64 (lo64 T)], .bool true]) ∧ Below w.heap.size w w' := by
  have c1 : ¬ s < 0 := by omega
  have c2 : ¬ 127 < s := by omega
  have HA := Lib.hid habs
  have HL := Lib.hid hshl
  have HR := Lib.hid hshr
  have HS := Lib.hid hsg
  clear habs hshl hshr hsg
  go_enter Try.func43, Try.ntmps43
  go_wp2_with fail
  refine (HA.out _).mono ?_; rintro e w1 ⟨rfl, rfl⟩
  go_wp2_with fail
  refine (HL.out _).mono ?_; rintro e w2 ⟨rfl, hb2⟩
  have hb2z0 : w.heap.size < w2.heap.size := by have := hb2.size; (try simp at this); omega
  have hb2z1 : w.heap.size + 1 < w2.heap.size := by have := hb2.size; (try simp at this); omega
  have hb2c0_0 := hb2.cell (p := ⟨w.heap.size, 0, none⟩) (by (try simp); (try omega))
  have hb2f0_0 := hb2.frozen (p := ⟨w.heap.size, 0, none⟩) (by (try simp); (try omega))
  simp [go_sem, *] at hb2c0_0 hb2f0_0
  have hb2c0_1 := hb2.cell (p := ⟨w.heap.size, 1, none⟩) (by (try simp); (try omega))
  have hb2f0_1 := hb2.frozen (p := ⟨w.heap.size, 1, none⟩) (by (try simp); (try omega))
  simp [go_sem, *] at hb2c0_1 hb2f0_1
  have hb2c1_0 := hb2.cell (p := ⟨w.heap.size + 1, 0, none⟩) (by (try simp); (try omega))
  have hb2f1_0 := hb2.frozen (p := ⟨w.heap.size + 1, 0, none⟩) (by (try simp); (try omega))
  simp [go_sem, *] at hb2c1_0 hb2f1_0
  have hb2c1_1 := hb2.cell (p := ⟨w.heap.size + 1, 1, none⟩) (by (try simp); (try omega))
  have hb2f1_1 := hb2.frozen (p := ⟨w.heap.size + 1, 1, none⟩) (by (try simp); (try omega))
  simp [go_sem, *] at hb2c1_1 hb2f1_1
  go_wp2_with fail
  go_region_held3 (fun w' => w'.cell? ⟨w.heap.size + 1, 0, none⟩ = some (.int .u64 0) ∧ w'.cell? ⟨w.heap.size + 1, 1, none⟩ = some (.int .u64 N) ∧ w'.cell? ⟨w2.heap.size, 0, none⟩ = some (.int .u64 (hi64 M)) ∧ w'.cell? ⟨w2.heap.size, 1, none⟩ = some (.int .u64 (lo64 M))) (simp [go_sem, *]) (first | (go_at_call 41; refine (HR.out _).mono ?_; rintro e w3 ⟨rfl, hb3⟩; (have hb3c := (bcell hb3).1)))
  have hz3 : w2.heap.size < w3.heap.size := by have := hb3.size; (try simp at this); omega
  clear hb3c
  have hb3z0 : w.heap.size < w3.heap.size := by have := hb3.size; (try simp at this); omega
  have hb3z1 : w.heap.size + 1 < w3.heap.size := by have := hb3.size; (try simp at this); omega
  have hb3c0_0 := hb3.cell (p := ⟨w.heap.size, 0, none⟩) (by (try simp); (try omega))
  have hb3f0_0 := hb3.frozen (p := ⟨w.heap.size, 0, none⟩) (by (try simp); (try omega))
  simp [go_sem, *] at hb3c0_0 hb3f0_0
  have hb3c0_1 := hb3.cell (p := ⟨w.heap.size, 1, none⟩) (by (try simp); (try omega))
  have hb3f0_1 := hb3.frozen (p := ⟨w.heap.size, 1, none⟩) (by (try simp); (try omega))
  simp [go_sem, *] at hb3c0_1 hb3f0_1
  go_wp2_with fail
  refine (HS.out _).mono ?_; rintro e w4 ⟨rfl, hb4⟩
  have hb4z0 : w.heap.size < w4.heap.size := by have := hb4.size; (try simp at this); omega
  have hb4z1 : w.heap.size + 1 < w4.heap.size := by have := hb4.size; (try simp at this); omega
  have hb4c0_0 := hb4.cell (p := ⟨w.heap.size, 0, none⟩) (by (try simp); (try omega))
  have hb4f0_0 := hb4.frozen (p := ⟨w.heap.size, 0, none⟩) (by (try simp); (try omega))
  simp [go_sem, *] at hb4c0_0 hb4f0_0
  have hb4c0_1 := hb4.cell (p := ⟨w.heap.size, 1, none⟩) (by (try simp); (try omega))
  have hb4f0_1 := hb4.frozen (p := ⟨w.heap.size, 1, none⟩) (by (try simp); (try omega))
  simp [go_sem, *] at hb4c0_1 hb4f0_1
  go_wp2_with fail
  simp [bodyPost, results, Try.results43, go_sem, hb4c0_0, hb4c0_1, hb4z0]
  (repeat (first | with_reducible exact Below.refl _ _ | with_reducible assumption | with_reducible apply Below.drew | (with_reducible refine below_drewN ?_ _) | (with_reducible refine Below.alloc ?_ (by (try simp) <;> omega) _) | (with_reducible refine Below.setCell ?_ (by (try simp) <;> omega) _) | (with_reducible refine Below.trans ?_ (Below.mono (by assumption) (by (try simp) <;> omega)))))
theorem shift_any (a s T : Int) (w : World) (s0 : 0 ≤ s) (s1 : s ≤ 66) (a0 : -1152921504606846976 ≤ a) (a1 : a ≤ 1152921504606846976) (hT : a * 2 ^ s.toNat = T) :
    Calls Try.prog 43 #[.int .i64 a, .int .i64 s] w fun e w' =>
      e = .returned (.tuple #[.agg #[.int .i64 (hi64 T), .int .u64 (lo64 T)], .bool true]) ∧ Below w.heap.size w w' := by
  have hp : (0 : Int) < 2 ^ s.toNat := Int.pow_pos (by decide)
  have hp2 : (2 : Int) ^ s.toNat ≤ 73786976294838206464 := by
    have h : (2 : Nat) ^ s.toNat ≤ 2 ^ 66 := Nat.pow_le_pow_right (by decide) (by omega)
    have h2 : ((2 ^ s.toNat : Nat) : Int) = 2 ^ s.toNat := by simp
    have h3 : (2 : Nat) ^ 66 = 73786976294838206464 := by decide
    omega
  obtain ⟨N, hN⟩ : ∃ N : Nat, a.natAbs = N := ⟨_, rfl⟩
  obtain ⟨M, hM⟩ : ∃ M : Int, (N : Int) * 2 ^ s.toNat = M := ⟨_, rfl⟩
  have hM0 : 0 ≤ M := by rw [← hM]; exact Int.mul_nonneg (by omega) (Int.le_of_lt hp)
  have hM1 : M ≤ 1152921504606846976 * 73786976294838206464 := by
    rw [← hM]; exact Int.mul_le_mul (by omega) hp2 (Int.le_of_lt hp) (by decide)
  have hb := bits_hl (M := M) hM0 (by omega)
  have hdiv : M / 2 ^ s.toNat = (N : Int) := by rw [← hM]; exact Int.mul_ediv_cancel _ (Int.ne_of_gt hp)
  have hNh : hi64 (N : Int) = 0 ∧ lo64 (N : Int) = N := by unfold hi64 lo64; omega
  refine shift_walk a s M T _ w s0 s1 rfl N (fun w => (abs64_any a w (by omega) (by omega)).mono fun e w' h => ⟨h.1.trans (by rw [hN]), h.2⟩)
    (fun w => shl_any _ _ _ w (by omega) (by omega) (by omega) (by omega) hM (by omega))
    (fun w => (shr_any _ _ _ M N w hb.1 hb.2.1 hb.2.2.1 hb.2.2.2 (by omega) (by omega) (hilo M) hdiv).mono fun e w' h => ⟨h.1.trans (by rw [hNh.1, hNh.2]), h.2⟩) (fun w => ?_)
  by_cases h : a < 0
  · have e : T = -M := by rw [← hT, ← hM, ← Int.neg_mul, show -(N : Int) = a from by omega]
    rw [show decide (a < 0) = true from by simpa using h]
    refine (signed_neg (hi64 M) (lo64 M) w hb.1 (by unfold hi64; omega) hb.2.2.1 hb.2.2.2).mono fun e w' h => ⟨h.1.trans ?_, h.2⟩
    rw [show -(hi64 M * B64 + lo64 M) = T from by rw [show hi64 M * B64 + lo64 M = M from hilo M]; omega]
  · have e : T = M := by rw [← hT, ← hM, show (N : Int) = a from by omega]
    rw [show decide (a < 0) = false from by simpa using h, e]
    exact signed_pos (hi64 M) (lo64 M) w hb.1 (by unfold hi64; omega)

end Go.Proofs.Ytcbklolfibdffaa
