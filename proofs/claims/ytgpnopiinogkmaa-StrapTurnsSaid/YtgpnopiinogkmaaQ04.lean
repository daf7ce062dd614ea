/- Contracts of the program's functions and plain laws, part 4: they hold for all arguments. -/
import Derived.Test.YtgpnopiinogkmaaQ03
import Derived.Deep.LoopGhost
import Derived.Test.YtgpnopiinogkmaaQ01
/- Contracts of package wide (8): Div and Shift, as numbers. -/
namespace Go.Proofs.Ytgpnopiinogkmaa
open Go.RowKit
set_option maxRecDepth 100000
theorem rdiv_nat (M D : Nat) (hD : 0 < D) : (2 * M + D) / (2 * D) = if D ≤ 2 * (M % D) then M / D + 1 else M / D := by
  have h := Nat.div_add_mod M D
  have hm := Nat.mod_lt M hD
  generalize M / D = q at *
  generalize M % D = r at *
  subst h
  have e : 2 * (D * q + r) + D = (2 * r + D) + 2 * D * q := by rw [Nat.mul_add, Nat.mul_assoc]; omega
  rw [e, Nat.add_mul_div_left _ _ (by omega)]
  by_cases hc : D ≤ 2 * r
  · rw [if_pos hc]
    have : (2 * r + D) / (2 * D) = 1 := Nat.div_eq_of_lt_le (by omega) (by omega)
    omega
  · rw [if_neg hc]
    have : (2 * r + D) / (2 * D) = 0 := Nat.div_eq_of_lt (by omega)
    omega
theorem div_hi (M D : Int) (_h : 0 ≤ M) (hD : 0 < D) : hi64 M / D = hi64 (M / D) := by
  unfold hi64
  rw [Int.ediv_ediv_of_nonneg (by decide), Int.ediv_ediv_of_nonneg (Int.le_of_lt hD), Int.mul_comm]
theorem div_lo (M D : Int) (hD : 0 < D) : (hi64 M % D * 18446744073709551616 + lo64 M) / D = lo64 (M / D) ∧ (hi64 M % D * 18446744073709551616 + lo64 M) % D = M % D := by
  have h := hilo M
  have hq := Int.mul_ediv_add_emod (hi64 M) D
  have hl := lo64_bd M
  have hr0 := Int.emod_nonneg (hi64 M) (Int.ne_of_gt hD)
  have hr1 := Int.emod_lt_of_pos (hi64 M) hD
  generalize hi64 M % D = r at *
  generalize hi64 M / D = q at *
  generalize hi64 M = x at *
  generalize lo64 M = y at *
  have e : M = (r * 18446744073709551616 + y) + D * (q * 18446744073709551616) := by
    rw [← h, ← hq, ← Int.mul_assoc]; omega
  have e1 : M / D = (r * 18446744073709551616 + y) / D + q * 18446744073709551616 := by
    rw [e, Int.add_mul_ediv_left _ _ (Int.ne_of_gt hD)]
  have e2 : M % D = (r * 18446744073709551616 + y) % D := by rw [e, Int.add_mul_emod_self_left]
  have b0 : 0 ≤ (r * 18446744073709551616 + y) / D := Int.ediv_nonneg (by omega) (Int.le_of_lt hD)
  have b1 : (r * 18446744073709551616 + y) / D < 18446744073709551616 := by
    apply Int.ediv_lt_of_lt_mul hD
    have : (r + 1) * 18446744073709551616 ≤ D * 18446744073709551616 := Int.mul_le_mul_of_nonneg_right (by omega) (by decide)
    rw [Int.mul_comm 18446744073709551616]
    omega
  rw [e1, e2]
  refine ⟨?_, rfl⟩
  unfold lo64
  omega

/-- wide.Div, the divisor not nought. -/
theorem wdiv_any (A d : Int) (w : World) (d0 : d ≠ 0) (d1 : -9223372036854775808 ≤ d) (d2 : d < 9223372036854775808) (a1 : -170141183460469231731687303715884105728 ≤ A) (a2 : A < 170141183460469231731687303715884105728) :
    Calls Try.prog 73 #[.agg #[.int .i64 (hi64 A), .int .u64 (lo64 A)], .int .i64 d] w fun e w' =>
      e = .returned (.tuple #[.int .i64 (r64V (rdiv A d)), .bool (r64F (rdiv A d))]) ∧ Below w.heap.size w w' := by
  obtain ⟨M, hM⟩ : ∃ M : Nat, A.natAbs = M := ⟨_, rfl⟩
  obtain ⟨D, hD⟩ : ∃ D : Nat, d.natAbs = D := ⟨_, rfl⟩
  have hD0 : 0 < D := by omega
  have hMb := bits_hl (M := (M : Int)) (by omega) (by omega)
  have hdl := div_lo (M : Int) (D : Int) (by omega)
  have hdh := div_hi (M : Int) (D : Int) (by omega) (by omega)
  have hmod0 := Int.emod_nonneg (hi64 (M : Int)) (show (D : Int) ≠ 0 by omega)
  have hmod1 := Int.emod_lt_of_pos (hi64 (M : Int)) (show (0 : Int) < D by omega)
  have hR0 := Int.emod_nonneg (M : Int) (show (D : Int) ≠ 0 by omega)
  have hR1 := Int.emod_lt_of_pos (M : Int) (show (0 : Int) < D by omega)
  have hq0 : (0 : Int) ≤ (M : Int) / D := Int.ediv_nonneg (by omega) (by omega)
  have hq1 : (M : Int) / D ≤ M := Int.ediv_le_self _ (by omega)
  have hQb := bits_hl (M := (M : Int) / D) (by omega) (by omega)
  have hfin : (if (D : Int) ≤ 2 * ((M : Int) % D) then (M : Int) / D + 1 else (M : Int) / D) = (((2 * M + D) / (2 * D) : Nat) : Int) := by
    rw [rdiv_nat M D hD0]
    have e1 : ((M : Int) % D) = ((M % D : Nat) : Int) := by simp
    have e2 : ((M : Int) / D) = ((M / D : Nat) : Int) := by simp
    rw [e1, e2]
    split <;> split <;> omega
  have hFb : (0 : Int) ≤ (((2 * M + D) / (2 * D) : Nat) : Int) ∧ (((2 * M + D) / (2 * D) : Nat) : Int) ≤ (M : Int) + 1 := by
    rw [← hfin]; split <;> omega
  have hFbb := bits_hl hFb.1 (by omega)
  have hs := s64_r64 (((2 * M + D) / (2 * D) : Nat) : Int) (!decide (A < 0) == decide (d < 0)) hFb.1 (by omega)
  have hv : (if (!decide (A < 0) == decide (d < 0)) = true then -(((2 * M + D) / (2 * D) : Nat) : Int) else (((2 * M + D) / (2 * D) : Nat) : Int)) = rdiv A d := by
    unfold rdiv
    rw [hM, hD]
    by_cases h1 : A < 0 <;> by_cases h2 : d < 0
    · have e1 : (0 ≤ A) = False := by simp; omega
      have e2 : (0 < d) = False := by simp; omega
      simp [h1, h2, e1, e2]
    · have e1 : (0 ≤ A) = False := by simp; omega
      have e2 : (0 < d) = True := by simp; omega
      simp [h1, h2, e1, e2]
    · have e1 : (0 ≤ A) = True := by simp; omega
      have e2 : (0 < d) = False := by simp; omega
      simp [h1, h2, e1, e2]
    · have e1 : (0 ≤ A) = True := by simp; omega
      have e2 : (0 < d) = True := by simp; omega
      simp [h1, h2, e1, e2]
  rw [hv] at hs
  have hdiv := hdh
  refine (wdiv_walk A d M D ((M : Int) / D) ((M : Int) % D) _ (decide (A < 0)) _ w (by simp; exact d0) hMb.1 (by omega) rfl
    (fun w => (abs_any A w a1 a2).mono fun e w' h => ⟨h.1.trans (by rw [hM]), h.2⟩)
    (fun w => (abs64_any d w d1 d2).mono fun e w' h => ⟨h.1.trans (by rw [hD]), h.2⟩)
    (by rw [Int.tdiv_eq_ediv_of_nonneg hMb.1, hdh, IntKind.wrap_u64]; exact Int.emod_eq_of_lt hQb.1 hQb.2.1)
    (by rw [Int.tmod_eq_emod_of_nonneg hMb.1, IntKind.wrap_u64]; omega)
    (fun w => (div64_any _ _ _ w hmod0 hmod1 hMb.2.2.1 hMb.2.2.2 (by omega)).mono fun e w' h => ⟨h.1.trans (by rw [hdl.1, hdl.2]), h.2⟩)
    rfl (by omega) hR0 hR1
    (fun w => by rw [hfin]; exact signed64_any _ _ _ w hFbb.2.2.1 hFbb.2.2.2)
    (fun w => plus_any _ _ _ _ _ w hQb.1 hQb.2.2.1 hQb.2.2.2 (by decide) (by decide) (by decide) (by have := hilo ((M : Int) / D); omega) (by omega))).mono fun e w' h => ⟨h.1.trans ?_, h.2⟩
  rw [hfin, hs.1, hs.2]

/-- wide.Shift, within range. -/
theorem shift_walk (a s M T : Int) (neg : Bool) (w : World) (s0 : 0 ≤ s) (s1 : s ≤ 66) (hn : decide (a < 0) = neg) (N : Int)
    (habs : ∀ w, Calls Try.prog 57 #[.int .i64 a] w fun e w' => e = .returned (.int .u64 N) ∧ w = w')
    (hshl : ∀ w, Calls Try.prog 77 #[.agg #[.int .u64 0, .int .u64 N], .int .i64 s] w fun e w' =>
      e = .returned (.agg #[.int .u64 (hi64 M), .int .u64 (lo64 M)]) ∧ Below w.heap.size w w')
    (hshr : ∀ w, Calls Try.prog 79 #[.agg #[.int .u64 (hi64 M), .int .u64 (lo64 M)], .int .i64 s] w fun e w' =>
      e = .returned (.agg #[.int .u64 0, .int .u64 N]) ∧ Below w.heap.size w w')
    (hsg : ∀ w, Calls Try.prog 58 #[.agg #[.int .u64 (hi64 M), .int .u64 (lo64 M)], .bool neg] w fun e w' =>
      e = .returned (.tuple #[.agg #[.int .i64 (hi64 T), .int .u64 (lo64 T)], .bool true]) ∧ Below w.heap.size w w') :
    Calls Try.prog 62 #[.int .i64 a, .int .i64 s] w fun e w' =>
      e = .returned (.tuple #[.agg #[.int .i64 (hi64 T), .int .u64 (lo64 T)], .bool true]) ∧ Below w.heap.size w w' := by
  have c1 : ¬ s < 0 := by omega
  have c2 : ¬ 127 < s := by omega
  have HA := Lib.hid habs
  have HL := Lib.hid hshl
  have HR := Lib.hid hshr
  have HS := Lib.hid hsg
  clear habs hshl hshr hsg
  go_enter Try.func62, Try.ntmps62
  go_wp2_with fail
  refine (HA.out _).mono ?_; rintro e w1 ⟨rfl, rfl⟩
  go_wp2_with fail
  refine (HL.out _).mono ?_; rintro e w2 ⟨rfl, hb2⟩
  have hb2z0 : w.heap.size < w2.heap.size := by have := hb2.size; (try simp at this); omega
  have hb2z1 : w.heap.size + 1 < w2.heap.size := by have := hb2.size; (try simp at this); omega
  have hb2c0_0 := hb2.cell (p := ⟨w.heap.size, 0, none⟩) (by (try simp); (try omega))
  have hb2f0_0 := hb2.frozen (p := ⟨w.heap.size, 0, none⟩) (by (try simp); (try omega))
  simp [go_sem, *] at hb2c0_0 hb2f0_0
  have hb2c0_1 := hb2.cell (p := ⟨w.heap.size, 1, none⟩) (by (try simp); (try omega))
  have hb2f0_1 := hb2.frozen (p := ⟨w.heap.size, 1, none⟩) (by (try simp); (try omega))
  simp [go_sem, *] at hb2c0_1 hb2f0_1
  have hb2c1_0 := hb2.cell (p := ⟨w.heap.size + 1, 0, none⟩) (by (try simp); (try omega))
  have hb2f1_0 := hb2.frozen (p := ⟨w.heap.size + 1, 0, none⟩) (by (try simp); (try omega))
  simp [go_sem, *] at hb2c1_0 hb2f1_0
  have hb2c1_1 := hb2.cell (p := ⟨w.heap.size + 1, 1, none⟩) (by (try simp); (try omega))
  have hb2f1_1 := hb2.frozen (p := ⟨w.heap.size + 1, 1, none⟩) (by (try simp); (try omega))
  simp [go_sem, *] at hb2c1_1 hb2f1_1
  go_wp2_with fail
  go_region_held3 (fun w' => w'.cell? ⟨w.heap.size + 1, 0, none⟩ = some (.int .u64 0) ∧ w'.cell? ⟨w.heap.size + 1, 1, none⟩ = some (.int .u64 N) ∧ w'.cell? ⟨w2.heap.size, 0, none⟩ = some (.int .u64 (hi64 M)) ∧ w'.cell? ⟨w2.heap.size, 1, none⟩ = some (.int .u64 (lo64 M))) (simp [go_sem, *]) (first | (go_at_call 79; refine (HR.out _).mono ?_; rintro e w3 ⟨rfl, hb3⟩; (have hb3c := (bcell hb3).1)))
  have hz3 : w2.heap.size < w3.heap.size := by have := hb3.size; (try simp at this); omega
  clear hb3c
  have hb3z0 : w.heap.size < w3.heap.size := by have := hb3.size; (try simp at this); omega
  have hb3z1 : w.heap.size + 1 < w3.heap.size := by have := hb3.size; (try simp at this); omega
  have hb3c0_0 := hb3.cell (p := ⟨w.heap.size, 0, none⟩) (by (try simp); (try omega))
  have hb3f0_0 := hb3.frozen (p := ⟨w.heap.size, 0, none⟩) (by (try simp); (try omega))
  simp [go_sem, *] at hb3c0_0 hb3f0_0
  have hb3c0_1 := hb3.cell (p := ⟨w.heap.size, 1, none⟩) (by (try simp); (try omega))
  have hb3f0_1 := hb3.frozen (p := ⟨w.heap.size, 1, none⟩) (by (try simp); (try omega))
  simp [go_sem, *] at hb3c0_1 hb3f0_1
  go_wp2_with fail
  refine (HS.out _).mono ?_; rintro e w4 ⟨rfl, hb4⟩
  have hb4z0 : w.heap.size < w4.heap.size := by have := hb4.size; (try simp at this); omega
  have hb4z1 : w.heap.size + 1 < w4.heap.size := by have := hb4.size; (try simp at this); omega
  have hb4c0_0 := hb4.cell (p := ⟨w.heap.size, 0, none⟩) (by (try simp); (try omega))
  have hb4f0_0 := hb4.frozen (p := ⟨w.heap.size, 0, none⟩) (by (try simp); (try omega))
  simp [go_sem, *] at hb4c0_0 hb4f0_0
  have hb4c0_1 := hb4.cell (p := ⟨w.heap.size, 1, none⟩) (by (try simp); (try omega))
  have hb4f0_1 := hb4.frozen (p := ⟨w.heap.size, 1, none⟩) (by (try simp); (try omega))
  simp [go_sem, *] at hb4c0_1 hb4f0_1
  go_wp2_with fail
  simp [bodyPost, results, Try.results62, go_sem, hb4c0_0, hb4c0_1, hb4z0]
  (repeat (first | with_reducible exact Below.refl _ _ | with_reducible assumption | with_reducible apply Below.drew | (with_reducible refine below_drewN ?_ _) | (with_reducible refine Below.alloc ?_ (by (try simp) <;> omega) _) | (with_reducible refine Below.setCell ?_ (by (try simp) <;> omega) _) | (with_reducible refine Below.trans ?_ (Below.mono (by assumption) (by (try simp) <;> omega)))))
theorem shift_any (a s T : Int) (w : World) (s0 : 0 ≤ s) (s1 : s ≤ 66) (a0 : -1152921504606846976 ≤ a) (a1 : a ≤ 1152921504606846976) (hT : a * 2 ^ s.toNat = T) :
    Calls Try.prog 62 #[.int .i64 a, .int .i64 s] w fun e w' =>
      e = .returned (.tuple #[.agg #[.int .i64 (hi64 T), .int .u64 (lo64 T)], .bool true]) ∧ Below w.heap.size w w' := by
  have hp : (0 : Int) < 2 ^ s.toNat := Int.pow_pos (by decide)
  have hp2 : (2 : Int) ^ s.toNat ≤ 73786976294838206464 := by
    have h : (2 : Nat) ^ s.toNat ≤ 2 ^ 66 := Nat.pow_le_pow_right (by decide) (by omega)
    have h2 : ((2 ^ s.toNat : Nat) : Int) = 2 ^ s.toNat := by simp
    have h3 : (2 : Nat) ^ 66 = 73786976294838206464 := by decide
    omega
  obtain ⟨N, hN⟩ : ∃ N : Nat, a.natAbs = N := ⟨_, rfl⟩
  obtain ⟨M, hM⟩ : ∃ M : Int, (N : Int) * 2 ^ s.toNat = M := ⟨_, rfl⟩
  have hM0 : 0 ≤ M := by rw [← hM]; exact Int.mul_nonneg (by omega) (Int.le_of_lt hp)
  have hM1 : M ≤ 1152921504606846976 * 73786976294838206464 := by
    rw [← hM]; exact Int.mul_le_mul (by omega) hp2 (Int.le_of_lt hp) (by decide)
  have hb := bits_hl (M := M) hM0 (by omega)
  have hdiv : M / 2 ^ s.toNat = (N : Int) := by rw [← hM]; exact Int.mul_ediv_cancel _ (Int.ne_of_gt hp)
  have hNh : hi64 (N : Int) = 0 ∧ lo64 (N : Int) = N := by unfold hi64 lo64; omega
  refine shift_walk a s M T _ w s0 s1 rfl N (fun w => (abs64_any a w (by omega) (by omega)).mono fun e w' h => ⟨h.1.trans (by rw [hN]), h.2⟩)
    (fun w => shl_any _ _ _ w (by omega) (by omega) (by omega) (by omega) hM (by omega))
    (fun w => (shr_any _ _ _ M N w hb.1 hb.2.1 hb.2.2.1 hb.2.2.2 (by omega) (by omega) (hilo M) hdiv).mono fun e w' h => ⟨h.1.trans (by rw [hNh.1, hNh.2]), h.2⟩) (fun w => ?_)
  by_cases h : a < 0
  · have e : T = -M := by rw [← hT, ← hM, ← Int.neg_mul, show -(N : Int) = a from by omega]
    rw [show decide (a < 0) = true from by simpa using h]
    refine (signed_neg (hi64 M) (lo64 M) w hb.1 (by unfold hi64; omega) hb.2.2.1 hb.2.2.2).mono fun e w' h => ⟨h.1.trans ?_, h.2⟩
    rw [show -(hi64 M * B64 + lo64 M) = T from by rw [show hi64 M * B64 + lo64 M = M from hilo M]; omega]
  · have e : T = M := by rw [← hT, ← hM, show (N : Int) = a from by omega]
    rw [show decide (a < 0) = false from by simpa using h, e]
    exact signed_pos (hi64 M) (lo64 M) w hb.1 (by unfold hi64; omega)

end Go.Proofs.Ytgpnopiinogkmaa
/- Contract of wide.Add at lists of W. -/
namespace Go.Proofs.Ytgpnopiinogkmaa
open Go.RowKit
set_option maxRecDepth 100000
/-- wide.Add at two. -/
theorem wadd2_any (A B S : Int) (p c : Nat) (w : World) (a1 : -170141183460469231731687303715884105728 ≤ A) (a2 : A < 170141183460469231731687303715884105728)
    (b1 : -170141183460469231731687303715884105728 ≤ B) (b2 : B < 170141183460469231731687303715884105728)
    (hS : A + B = S) (s1 : -170141183460469231731687303715884105728 ≤ S) (s2 : S < 170141183460469231731687303715884105728)
    (c0 : w.cell? ⟨p, 0, none⟩ = some (.int .i64 (hi64 A))) (c1 : w.cell? ⟨p, 1, none⟩ = some (.int .u64 (lo64 A)))
    (c2 : w.cell? ⟨p, 2, none⟩ = some (.int .i64 (hi64 B))) (c3 : w.cell? ⟨p, 3, none⟩ = some (.int .u64 (lo64 B))) :
    Calls Try.prog 50 #[.slice (some ⟨p, 0, none⟩) 2 c] w fun e w' =>
      e = .returned (.tuple #[.agg #[.int .i64 (hi64 S), .int .u64 (lo64 S)], .bool true]) ∧ Below w.heap.size w w' := by
  have hp : p < w.heap.size := World.block_lt_of_cell? w _ c0
  go_enter Try.func50, Try.ntmps50
  go_wp2_with fail
  refine wp_loop_rounds 3 ?_
  rw [rounds_succ]
  go_wp2_with fail
  refine (add_any 0 A A _ (by decide) (by decide) a1 a2 (by omega) a1 a2).mono ?_; rintro e w1 ⟨rfl, hb1⟩
  have hpz : p < w.heap.size + 1 := by omega
  have hb1z0 : w.heap.size < w1.heap.size := by have := hb1.size; (try simp at this); omega
  have hb1z1 : w.heap.size + 1 < w1.heap.size := by have := hb1.size; (try simp at this); omega
  have hb1z2 : w.heap.size + 1 + 1 < w1.heap.size := by have := hb1.size; (try simp at this); omega
  have hb1c0_0 := hb1.cell (p := ⟨w.heap.size, 0, none⟩) (by (try simp); (try omega))
  have hb1f0_0 := hb1.frozen (p := ⟨w.heap.size, 0, none⟩) (by (try simp); (try omega))
  simp [go_sem, *] at hb1c0_0 hb1f0_0
  have hb1c0_1 := hb1.cell (p := ⟨w.heap.size, 1, none⟩) (by (try simp); (try omega))
  have hb1f0_1 := hb1.frozen (p := ⟨w.heap.size, 1, none⟩) (by (try simp); (try omega))
  simp [go_sem, *] at hb1c0_1 hb1f0_1
  have hb1c1_0 := hb1.cell (p := ⟨w.heap.size + 1, 0, none⟩) (by (try simp); (try omega))
  have hb1f1_0 := hb1.frozen (p := ⟨w.heap.size + 1, 0, none⟩) (by (try simp); (try omega))
  simp [go_sem, *] at hb1c1_0 hb1f1_0
  have hb1c1_1 := hb1.cell (p := ⟨w.heap.size + 1, 1, none⟩) (by (try simp); (try omega))
  have hb1f1_1 := hb1.frozen (p := ⟨w.heap.size + 1, 1, none⟩) (by (try simp); (try omega))
  simp [go_sem, *] at hb1c1_1 hb1f1_1
  have hb1cp_0 := hb1.cell (p := ⟨p, 0, none⟩) (by (try simp); (try omega))
  have hb1fp_0 := hb1.frozen (p := ⟨p, 0, none⟩) (by (try simp); (try omega))
  simp [go_sem, *] at hb1cp_0 hb1fp_0
  have hb1cp_1 := hb1.cell (p := ⟨p, 1, none⟩) (by (try simp); (try omega))
  have hb1fp_1 := hb1.frozen (p := ⟨p, 1, none⟩) (by (try simp); (try omega))
  simp [go_sem, *] at hb1cp_1 hb1fp_1
  have hb1cp_2 := hb1.cell (p := ⟨p, 2, none⟩) (by (try simp); (try omega))
  have hb1fp_2 := hb1.frozen (p := ⟨p, 2, none⟩) (by (try simp); (try omega))
  simp [go_sem, *] at hb1cp_2 hb1fp_2
  have hb1cp_3 := hb1.cell (p := ⟨p, 3, none⟩) (by (try simp); (try omega))
  have hb1fp_3 := hb1.frozen (p := ⟨p, 3, none⟩) (by (try simp); (try omega))
  simp [go_sem, *] at hb1cp_3 hb1fp_3
  have hp1 : p < w1.heap.size := by omega
  go_wp2_with fail
  rw [rounds_succ]
  go_wp2_with fail
  refine (add_any A B S _ a1 a2 b1 b2 hS s1 s2).mono ?_; rintro e w2 ⟨rfl, hb2⟩
  have hb2z0 : w.heap.size < w2.heap.size := by have := hb2.size; (try simp at this); omega
  have hb2z1 : w.heap.size + 1 < w2.heap.size := by have := hb2.size; (try simp at this); omega
  have hb2z2 : w.heap.size + 1 + 1 < w2.heap.size := by have := hb2.size; (try simp at this); omega
  have hb2c0_0 := hb2.cell (p := ⟨w.heap.size, 0, none⟩) (by (try simp); (try omega))
  have hb2f0_0 := hb2.frozen (p := ⟨w.heap.size, 0, none⟩) (by (try simp); (try omega))
  simp [go_sem, *] at hb2c0_0 hb2f0_0
  have hb2c0_1 := hb2.cell (p := ⟨w.heap.size, 1, none⟩) (by (try simp); (try omega))
  have hb2f0_1 := hb2.frozen (p := ⟨w.heap.size, 1, none⟩) (by (try simp); (try omega))
  simp [go_sem, *] at hb2c0_1 hb2f0_1
  have hb2c1_0 := hb2.cell (p := ⟨w.heap.size + 1, 0, none⟩) (by (try simp); (try omega))
  have hb2f1_0 := hb2.frozen (p := ⟨w.heap.size + 1, 0, none⟩) (by (try simp); (try omega))
  simp [go_sem, *] at hb2c1_0 hb2f1_0
  have hb2c1_1 := hb2.cell (p := ⟨w.heap.size + 1, 1, none⟩) (by (try simp); (try omega))
  have hb2f1_1 := hb2.frozen (p := ⟨w.heap.size + 1, 1, none⟩) (by (try simp); (try omega))
  simp [go_sem, *] at hb2c1_1 hb2f1_1
  go_wp2_with fail
  rw [rounds_succ]
  go_wp2_with fail
  simp [bodyPost, results, Try.results50, go_sem, hb2c0_0, hb2c0_1, hb2z0]
  (repeat (first | with_reducible exact Below.refl _ _ | with_reducible assumption | with_reducible apply Below.drew | (with_reducible refine below_drewN ?_ _) | (with_reducible refine Below.alloc ?_ (by (try simp) <;> omega) _) | (with_reducible refine Below.setCell ?_ (by (try simp) <;> omega) _) | (with_reducible refine Below.trans ?_ (Below.mono (by assumption) (by (try simp) <;> omega)))))
end Go.Proofs.Ytgpnopiinogkmaa
/- Contracts of package fx (1): Clamp, Sat, end, round, Mul, Sub. -/
/- Contracts of package fx (2): round, by, Mul, Div, MulDiv. -/
namespace Go.Proofs.Ytgpnopiinogkmaa
open Go.RowKit
set_option maxRecDepth 100000
theorem clampV_of {a lo hi : Int} (h0 : ¬ hi < lo) (h1 : ¬ a < lo) (h2 : ¬ hi < a) : clampV a lo hi = a ∧ clampH a lo hi = false := by
  simp [clampV, clampH, h0, h1, h2]
theorem clamp_any (c : Addr) (h : Bool) (a lo hi : Int) (w : World) (hc : w.cell? c = some (.bool h)) (hf : w.frozen? c = false) :
    Calls Try.prog 55 #[.pointer (some c), .int .i64 a, .int .i64 lo, .int .i64 hi] w fun e w' =>
      e = .returned (.int .i64 (clampV a lo hi)) ∧ w.setCell c (.bool (h || clampH a lo hi)) = w' := by
  by_cases h0 : hi < lo
  · have e1 : clampV a lo hi = lo := by simp [clampV, h0]
    have e2 : (h || clampH a lo hi) = true := by simp [clampH, h0]
    rw [e1, e2]
    clear e1 e2
    go_enter Try.func55, Try.ntmps55
    go_wp2
    go_ret
    exact ⟨rfl, rfl⟩
  by_cases h1 : a < lo
  · have e1 : clampV a lo hi = lo := by simp [clampV, h1]
    have e2 : (h || clampH a lo hi) = true := by simp [clampH, h1]
    rw [e1, e2]
    clear e1 e2
    go_enter Try.func55, Try.ntmps55
    go_wp2
    go_ret
    exact ⟨rfl, rfl⟩
  by_cases h2 : hi < a
  · have e1 : clampV a lo hi = hi := by simp [clampV, h0, h1, h2]
    have e2 : (h || clampH a lo hi) = true := by simp [clampH, h2]
    rw [e1, e2]
    clear e1 e2
    go_enter Try.func55, Try.ntmps55
    go_wp2
    go_ret
    exact ⟨rfl, rfl⟩
  · obtain ⟨e1, e2⟩ := clampV_of h0 h1 h2
    rw [e1, e2, Bool.or_false, setCell_self w c _ hc]
    clear e1 e2
    go_enter Try.func55, Try.ntmps55
    go_wp2
    go_ret
    exact ⟨rfl, rfl⟩

theorem sat_any (c : Addr) (h : Bool) (a : Int) (w : World) (hc : w.cell? c = some (.bool h)) (hf : w.frozen? c = false) :
    Calls Try.prog 34 #[.pointer (some c), .int .i64 a] w fun e w' => e = .returned (.int .i64 (satV a)) ∧ w.setCell c (.bool (h || satH a)) = w' := by
  have H := fun w hc hf => clamp_any c h a (-1152921504606846976) 1152921504606846976 w hc hf
  go_enter Try.func34, Try.ntmps34
  go_wp2_with (go_at_call 55; refine (clamp_any c h a _ _ _ hc hf).mono ?_; rintro e w' ⟨rfl, rfl⟩)
  go_ret
  exact ⟨rfl, rfl⟩

/-- The bound on a number's side. -/
def signV (neg : Bool) : Int := if neg then -1152921504606846976 else 1152921504606846976
theorem sign_any (neg : Bool) (w : World) : Calls Try.prog 72 #[.bool neg] w fun e w' => e = .returned (.int .i64 (signV neg)) ∧ w = w' := by
  cases neg
  all_goals
    go_enter Try.func72, Try.ntmps72
    go_wp2
    go_ret
    exact ⟨rfl, rfl⟩
theorem end_ok (c : Addr) (h : Bool) (a : Int) (neg : Bool) (w : World) (hc : w.cell? c = some (.bool h)) (hf : w.frozen? c = false) :
    Calls Try.prog 60 #[.pointer (some c), .int .i64 a, .bool true, .bool neg] w fun e w' => e = .returned (.int .i64 (satV a)) ∧ w.setCell c (.bool (h || satH a)) = w' := by
  go_enter Try.func60, Try.ntmps60
  go_wp2_with (go_at_call 34; refine (sat_any c h a _ hc hf).mono ?_; rintro e w' ⟨rfl, rfl⟩)
  go_ret
  exact ⟨rfl, rfl⟩
theorem end_no (c : Addr) (h : Bool) (a : Int) (neg : Bool) (w : World) (hc : w.cell? c = some (.bool h)) (hf : w.frozen? c = false) :
    Calls Try.prog 60 #[.pointer (some c), .int .i64 a, .bool false, .bool neg] w fun e w' => e = .returned (.int .i64 (signV neg)) ∧ w.setCell c (.bool true) = w' := by
  go_enter Try.func60, Try.ntmps60
  go_wp2_with (go_at_call 72; refine (sign_any neg _).mono ?_; rintro e w' ⟨rfl, rfl⟩)
  go_ret
  exact ⟨rfl, rfl⟩
/-- What was reckoned (x), clamped. -/
theorem end_any (c : Addr) (h : Bool) (x : Int) (neg : Bool) (w : World) (hc : w.cell? c = some (.bool h)) (hf : w.frozen? c = false) (hn : ¬ r64F x = true → neg = decide (x < 0)) :
    Calls Try.prog 60 #[.pointer (some c), .int .i64 (r64V x), .bool (r64F x), .bool neg] w fun e w' => e = .returned (.int .i64 (satV x)) ∧ w.setCell c (.bool (h || satH x)) = w' := by
  by_cases hx : r64F x = true
  · have : r64V x = x := by simp [r64V, hx]
    rw [hx, this]
    exact end_ok c h x neg w hc hf
  · have h2 : r64F x = false := by simpa using hx
    have h3 := hn hx
    rw [h2]
    refine (end_no c h _ neg w hc hf).mono fun e w' hh => ⟨hh.1.trans (retI ?_), ?_⟩
    · subst h3
      by_cases h0 : x < 0
      · simp [r64F] at h2; simp [signV, satV, clampV, h0]; omega
      · simp [r64F] at h2; simp [signV, satV, clampV, h0]; omega
    · rw [← hh.2]
      have : satH x = true := by simp [r64F] at h2; simp [satH, clampH]; omega
      simp [this]
theorem sub_any (c : Addr) (h : Bool) (a b : Int) (w : World) (hc : w.cell? c = some (.bool h)) (hf : w.frozen? c = false) :
    Calls Try.prog 51 #[.pointer (some c), .int .i64 a, .int .i64 b] w fun e w' =>
      e = .returned (.int .i64 (satV (satV a - satV b))) ∧ w.setCell c (.bool (h || satH a || satH b || satH (satV a - satV b))) = w' := by
  have ba := satV_bd a
  have bb := satV_bd b
  obtain ⟨x, hx⟩ : ∃ x, satV a = x := ⟨_, rfl⟩
  obtain ⟨y, hy⟩ : ∃ y, satV b = y := ⟨_, rfl⟩
  have c1 : (w.setCell c (.bool (h || satH a))).cell? c = some (.bool (h || satH a)) := World.cell?_setCell_same _ _ _ hc
  have c2 : ((w.setCell c (.bool (h || satH a))).setCell c (.bool (h || satH a || satH b))).cell? c = some (.bool (h || satH a || satH b)) := World.cell?_setCell_same _ _ _ c1
  have f1 : ∀ v, (w.setCell c v).frozen? c = false := fun v => by simp [hf]
  go_enter Try.func51, Try.ntmps51
  go_wp2_with fail
  refine (sat_any c h a _ hc hf).mono ?_; rintro e w' ⟨rfl, rfl⟩
  go_wp2_with fail
  refine (sat_any c _ b _ c1 (f1 _)).mono ?_; rintro e w' ⟨rfl, rfl⟩
  go_wp2_with fail
  obtain ⟨z, hz⟩ : ∃ z, satV (x - y) = z := ⟨_, rfl⟩
  refine (sat_any c _ (x - y) _ c2 (by simp [hf])).mono ?_; rintro e w' ⟨rfl, rfl⟩
  go_wp2_with fail
  go_ret
  rw [hx, hy, hz]
  exact ⟨rfl, by simp only [setCell_setCell]⟩
end Go.Proofs.Ytgpnopiinogkmaa
namespace Go.Proofs.Ytgpnopiinogkmaa
open Go.RowKit
set_option maxRecDepth 100000
theorem hi_neg (A : Int) : decide (hi64 A < 0) = decide (A < 0) := by
  rw [Bool.eq_iff_iff]; simp; unfold hi64; omega
theorem rsh_neg (A : Int) (k : Nat) (h : ¬ r64F (rsh A k) = true) : decide (A < 0) = decide (rsh A k < 0) := by
  have hp : (0 : Int) < 2 ^ k := Int.pow_pos (by decide)
  have h0 : rsh A k ≠ 0 := by intro e; rw [e] at h; exact h (by decide)
  have := rdiv_sign A (2 ^ k) h0
  rw [Bool.eq_iff_iff]; simp only [decide_eq_true_eq]
  unfold rsh at *
  rw [this]; simp [hp]
theorem fround_walk (c : Addr) (h : Bool) (x y s v : Int) (ok : Bool) (V : Int) (H : Bool) (w : World) (hc : w.cell? c = some (.bool h)) (hf : w.frozen? c = false) (s0 : 0 ≤ s) (s1 : s ≤ 120)
    (hr : ∀ w, Calls Try.prog 59 #[.agg #[.int .i64 x, .int .u64 y], .int .i64 s] w fun e w' => e = .returned (.tuple #[.int .i64 v, .bool ok]) ∧ Below w.heap.size w w')
    (he : ∀ w, w.cell? c = some (.bool h) → w.frozen? c = false → Calls Try.prog 60 #[.pointer (some c), .int .i64 v, .bool ok, .bool (decide (x < 0))] w fun e w' => e = .returned (.int .i64 V) ∧ w.setCell c (.bool H) = w') :
    Calls Try.prog 38 #[.pointer (some c), .agg #[.int .i64 x, .int .u64 y], .int .i64 s] w fun e w' => e = .returned (.int .i64 V) ∧ Upd c H w w' := by
  have c1 : ¬ s < 0 := by omega
  have c2 : ¬ 120 < s := by omega
  have hcb := World.block_lt_of_cell? w c hc
  have HR := Lib.hid hr
  have HE := Lib.hid he
  clear hr he
  go_enter Try.func38, Try.ntmps38
  go_wp2_with fail
  refine (HR.out _).mono ?_; rintro e w1 ⟨rfl, hb1⟩
  have hb1z0 : w.heap.size < w1.heap.size := by have := hb1.size; (try simp at this); omega
  have hb1c0_0 := hb1.cell (p := ⟨w.heap.size, 0, none⟩) (by (try simp); (try omega))
  have hb1f0_0 := hb1.frozen (p := ⟨w.heap.size, 0, none⟩) (by (try simp); (try omega))
  simp [go_sem, *] at hb1c0_0 hb1f0_0
  have hb1c0_1 := hb1.cell (p := ⟨w.heap.size, 1, none⟩) (by (try simp); (try omega))
  have hb1f0_1 := hb1.frozen (p := ⟨w.heap.size, 1, none⟩) (by (try simp); (try omega))
  simp [go_sem, *] at hb1c0_1 hb1f0_1
  have k1 : w1.cell? c = some (.bool h) := (hb1.cell (by simp; omega)).trans (by simp [World.cell?_alloc_lt, hcb, hc])
  have k2 : w1.frozen? c = false := (hb1.frozen (by simp; omega)).trans (by rw [frozen?_alloc_cells]; exact hf)
  go_wp2_with fail
  refine (HE.out _ k1 k2).mono ?_; rintro e w2 ⟨rfl, rfl⟩
  go_wp2_with fail
  go_ret
  refine ⟨rfl, ?_⟩
  have hb : Below w.heap.size w w1 := by (repeat (first | with_reducible exact Below.refl _ _ | with_reducible assumption | with_reducible apply Below.drew | (with_reducible refine below_drewN ?_ _) | (with_reducible refine Below.alloc ?_ (by (try simp) <;> omega) _) | (with_reducible refine Below.setCell ?_ (by (try simp) <;> omega) _) | (with_reducible refine Below.trans ?_ (Below.mono (by assumption) (by (try simp) <;> omega)))))
  exact Upd.after hb (Upd.set c H w1)
theorem fround_any (c : Addr) (h : Bool) (A s : Int) (w : World) (hc : w.cell? c = some (.bool h)) (hf : w.frozen? c = false) (s0 : 0 ≤ s) (s1 : s ≤ 120)
    (a1 : -170141183460469231731687303715884105728 ≤ A) (a2 : A < 170141183460469231731687303715884105728) :
    Calls Try.prog 38 #[.pointer (some c), .agg #[.int .i64 (hi64 A), .int .u64 (lo64 A)], .int .i64 s] w fun e w' =>
      e = .returned (.int .i64 (satV (rsh A s.toNat))) ∧ Upd c (h || satH (rsh A s.toNat)) w w' :=
  fround_walk c h _ _ s _ _ _ _ w hc hf s0 s1 (fun w => round_any A s w s0 (by omega) a1 a2)
    (fun w k1 k2 => end_any c h (rsh A s.toNat) _ w k1 k2 (fun hn => by rw [hi_neg]; exact rsh_neg A _ hn))
theorem fround_bad (c : Addr) (h : Bool) (x y s : Int) (w : World) (hc : w.cell? c = some (.bool h)) (hf : w.frozen? c = false) (s0 : s < 0 ∨ 120 < s) :
    Calls Try.prog 38 #[.pointer (some c), .agg #[.int .i64 x, .int .u64 y], .int .i64 s] w fun e w' => e = .returned (.int .i64 0) ∧ Upd c true w w' := by
  have hcb := World.block_lt_of_cell? w c hc
  have hcn : w.heap.size ≠ c.block := by omega
  have k1 : ∀ o, (w.alloc o).cell? c = some (.bool h) := fun o => by simp [World.cell?_alloc_lt, hcb, hc]
  have k2 : ∀ cs t, (w.alloc (.cells cs t)).frozen? c = false := fun cs t => by rw [frozen?_alloc_cells]; exact hf
  by_cases h1 : s < 0
  · go_enter Try.func38, Try.ntmps38
    go_wp2_with fail
    go_ret
    refine ⟨rfl, ?_⟩
    exact Upd.after (by (repeat (first | with_reducible exact Below.refl _ _ | with_reducible assumption | with_reducible apply Below.drew | (with_reducible refine below_drewN ?_ _) | (with_reducible refine Below.alloc ?_ (by (try simp) <;> omega) _) | (with_reducible refine Below.setCell ?_ (by (try simp) <;> omega) _) | (with_reducible refine Below.trans ?_ (Below.mono (by assumption) (by (try simp) <;> omega)))))) (Upd.set c true _)
  · have h2 : 120 < s := by omega
    go_enter Try.func38, Try.ntmps38
    go_wp2_with fail
    go_ret
    refine ⟨rfl, ?_⟩
    exact Upd.after (by (repeat (first | with_reducible exact Below.refl _ _ | with_reducible assumption | with_reducible apply Below.drew | (with_reducible refine below_drewN ?_ _) | (with_reducible refine Below.alloc ?_ (by (try simp) <;> omega) _) | (with_reducible refine Below.setCell ?_ (by (try simp) <;> omega) _) | (with_reducible refine Below.trans ?_ (Below.mono (by assumption) (by (try simp) <;> omega)))))) (Upd.set c true _)
end Go.Proofs.Ytgpnopiinogkmaa
/- Contracts of package fx (3): Mul, by, Div, MulDiv. -/
namespace Go.Proofs.Ytgpnopiinogkmaa
open Go.RowKit
set_option maxRecDepth 100000
theorem fmul_walk (c : Addr) (h : Bool) (a b s x y A V : Int) (H : Bool) (w : World) (hc : w.cell? c = some (.bool h)) (hf : w.frozen? c = false)
    (hx : satV a = x) (hy : satV b = y)
    (hm : ∀ w, Calls Try.prog 37 #[.int .i64 x, .int .i64 y] w fun e w' => e = .returned (.agg #[.int .i64 (hi64 A), .int .u64 (lo64 A)]) ∧ Below w.heap.size w w')
    (hr : ∀ w, w.cell? c = some (.bool (h || satH a || satH b)) → w.frozen? c = false → Calls Try.prog 38 #[.pointer (some c), .agg #[.int .i64 (hi64 A), .int .u64 (lo64 A)], .int .i64 s] w fun e w' =>
      e = .returned (.int .i64 V) ∧ Upd c H w w') :
    Calls Try.prog 14 #[.pointer (some c), .int .i64 a, .int .i64 b, .int .i64 s] w fun e w' => e = .returned (.int .i64 V) ∧ Upd c H w w' := by
  have hcb := World.block_lt_of_cell? w c hc
  have c1 : (w.setCell c (.bool (h || satH a))).cell? c = some (.bool (h || satH a)) := World.cell?_setCell_same _ _ _ hc
  have c2 : ((w.setCell c (.bool (h || satH a))).setCell c (.bool (h || satH a || satH b))).cell? c = some (.bool (h || satH a || satH b)) := World.cell?_setCell_same _ _ _ c1
  have HM := Lib.hid hm
  have HR := Lib.hid hr
  have C2 := Lib.hid c2
  clear hm hr c2
  go_enter Try.func14, Try.ntmps14
  go_wp2_with fail
  refine (sat_any c h a _ hc hf).mono ?_; rintro e w' ⟨rfl, rfl⟩
  go_wp2_with fail
  refine (sat_any c _ b _ c1 (by simp [hf])).mono ?_; rintro e w' ⟨rfl, rfl⟩
  have HW := Lib.hid (Upd.trans (Upd.set c (h || satH a) w) (Upd.set c (h || satH a || satH b) _))
  have F2 : ((w.setCell c (.bool (h || satH a))).setCell c (.bool (h || satH a || satH b))).frozen? c = false := by simp [hf]
  have Z2 := Upd.size HW.out
  obtain ⟨w2, hw2⟩ : ∃ w2, (w.setCell c (.bool (h || satH a))).setCell c (.bool (h || satH a || satH b)) = w2 := ⟨_, rfl⟩
  rw [hw2] at HW C2 F2 Z2 ⊢
  clear hw2 c1 hc hf
  go_wp2_with fail
  refine (HM.out _).mono ?_; rintro e w3 ⟨rfl, hb3⟩
  have k1 : w3.cell? c = some (.bool (h || satH a || satH b)) := (hb3.cell (by omega)).trans C2.out
  have k2 : w3.frozen? c = false := (hb3.frozen (by omega)).trans F2
  have hz := hb3.size
  have k3 : ∀ o, (w3.alloc o).cell? c = some (.bool (h || satH a || satH b)) := fun o => by rw [World.cell?_alloc_lt _ _ _ (by omega)]; exact k1
  have k4 : ∀ cs t, (w3.alloc (.cells cs t)).frozen? c = false := fun cs t => by rw [frozen?_alloc_cells]; exact k2
  go_wp2_with fail
  refine (HR.out _ (k3 _) (k4 _ _)).mono ?_; rintro e w4 ⟨rfl, hu4⟩
  go_wp2_with fail
  go_ret
  refine ⟨rfl, ?_⟩
  exact HW.out.trans (Upd.after hb3 (Upd.after (by (repeat (first | with_reducible exact Below.refl _ _ | with_reducible apply Below.drew | (with_reducible refine below_drewN ?_ _) | (with_reducible refine Below.alloc ?_ (by (try simp) <;> omega) _) | (with_reducible refine Below.setCell ?_ (by (try simp) <;> omega) _)))) hu4))
theorem fmul_any (c : Addr) (h : Bool) (a b s : Int) (w : World) (hc : w.cell? c = some (.bool h)) (hf : w.frozen? c = false) :
    Calls Try.prog 14 #[.pointer (some c), .int .i64 a, .int .i64 b, .int .i64 s] w fun e w' => e = .returned (.int .i64 (mulV a b s)) ∧ Upd c (h || mulH a b s) w w' := by
  have ha := satV_bd a
  have hb := satV_bd b
  have hp := prod_bd a b
  by_cases hs : s < 0 ∨ 120 < s
  · have e1 : mulV a b s = 0 := by simp [mulV, hs]
    have e2 : (h || mulH a b s) = true := by simp [mulH, hs]
    rw [e1, e2]
    exact fmul_walk c h a b s _ _ _ _ _ w hc hf rfl rfl (fun w => mul_any _ _ _ w (by omega) (by omega) (by omega) (by omega) rfl (by omega) (by omega))
      (fun w k1 k2 => fround_bad c _ _ _ s w k1 k2 hs)
  · have e1 : mulV a b s = satV (rsh (satV a * satV b) s.toNat) := by simp only [mulV, if_neg hs]
    have e2 : (h || mulH a b s) = ((h || satH a || satH b) || satH (rsh (satV a * satV b) s.toNat)) := by simp [mulH, hs, Bool.or_assoc]
    rw [e1, e2]
    exact fmul_walk c h a b s _ _ _ _ _ w hc hf rfl rfl (fun w => mul_any _ _ _ w (by omega) (by omega) (by omega) (by omega) rfl (by omega) (by omega))
      (fun w k1 k2 => fround_any c _ _ s w k1 k2 (by omega) (by omega) (by omega) (by omega))
theorem rdiv_neg (A d : Int) (hd : d ≠ 0) (h : ¬ r64F (rdiv A d) = true) : (!decide (A < 0) == decide (d < 0)) = decide (rdiv A d < 0) := by
  have h0 : rdiv A d ≠ 0 := by intro e; rw [e] at h; exact h (by decide)
  have := rdiv_sign A d h0
  have e : decide (rdiv A d < 0) = decide (¬ ((0 ≤ A) = (0 < d))) := by rw [Bool.eq_iff_iff]; simp only [decide_eq_true_eq]; exact this
  rw [e]
  by_cases h1 : A < 0 <;> by_cases h2 : d < 0
  · simp [h1, h2, show ¬ 0 ≤ A by omega, show ¬ 0 < d by omega]
  · simp [h1, h2, show ¬ 0 ≤ A by omega, show 0 < d by omega]
  · simp [h1, h2, show 0 ≤ A by omega, show ¬ 0 < d by omega]
  · simp [h1, h2, show 0 ≤ A by omega, show 0 < d by omega]
theorem by_any (c : Addr) (h : Bool) (A d : Int) (w : World) (hc : w.cell? c = some (.bool h)) (hf : w.frozen? c = false)
    (d1 : -9223372036854775808 ≤ d) (d2 : d < 9223372036854775808) (a1 : -170141183460469231731687303715884105728 ≤ A) (a2 : A < 170141183460469231731687303715884105728) :
    Calls Try.prog 54 #[.pointer (some c), .agg #[.int .i64 (hi64 A), .int .u64 (lo64 A)], .int .i64 d] w fun e w' =>
      e = .returned (.int .i64 (byV A d)) ∧ Upd c (h || byH A d) w w' := by
  have hcb := World.block_lt_of_cell? w c hc
  have hcn : ∀ o, c ≠ ⟨w.heap.size, o, none⟩ := fun o e => by rw [e] at hcb; simp at hcb
  have k1 : ∀ o, (w.alloc o).cell? c = some (.bool h) := fun o => by simp [World.cell?_alloc_lt, hcb, hc]
  have k2 : ∀ cs t, (w.alloc (.cells cs t)).frozen? c = false := fun cs t => by rw [frozen?_alloc_cells]; exact hf
  by_cases hd : d = 0
  · subst hd
    have e2 : (h || byH A 0) = true := by simp [byH]
    rw [e2]
    by_cases hA : A = 0
    · subst hA
      have e1 : byV 0 0 = 0 := by decide
      have g1 : hi64 0 = 0 := by decide
      have g2 : lo64 0 = 0 := by decide
      rw [e1, g1, g2]
      clear e1 g1 g2 a1 a2 d1 d2
      go_enter Try.func54, Try.ntmps54
      go_wp2_with fail
      go_ret
      exact ⟨rfl, Upd.after (by (repeat (first | with_reducible exact Below.refl _ _ | with_reducible assumption | with_reducible apply Below.drew | (with_reducible refine below_drewN ?_ _) | (with_reducible refine Below.alloc ?_ (by (try simp) <;> omega) _) | (with_reducible refine Below.setCell ?_ (by (try simp) <;> omega) _) | (with_reducible refine Below.trans ?_ (Below.mono (by assumption) (by (try simp) <;> omega)))))) (Upd.set c true _)⟩
    · have e1 : byV A 0 = signV (decide (hi64 A < 0)) := by
        rw [hi_neg]; by_cases h0 : A < 0 <;> simp [byV, hA, h0, signV]
      have g : hi64 A = 0 → lo64 A = 0 → False := by unfold hi64 lo64; omega
      rw [e1]
      obtain ⟨x, hx⟩ : ∃ x, hi64 A = x := ⟨_, rfl⟩
      obtain ⟨y, hy⟩ : ∃ y, lo64 A = y := ⟨_, rfl⟩
      rw [hx, hy] at g
      rw [hx, hy]
      clear e1 a1 a2 d1 d2 hx hy hA e2
      by_cases hx0 : x = 0
      · subst hx0
        have hy0 : (y == 0) = false := by rw [Bool.eq_false_iff]; intro hh; simp at hh; exact g rfl hh
        clear g
        rw [show decide ((0 : Int) < 0) = false from rfl]
        go_enter Try.func54, Try.ntmps54
        go_wp2_with fail
        refine (sign_any _ _).mono ?_; rintro e w' ⟨rfl, rfl⟩
        go_wp2_with fail
        go_ret
        exact ⟨rfl, Upd.after (by (repeat (first | with_reducible exact Below.refl _ _ | with_reducible assumption | with_reducible apply Below.drew | (with_reducible refine below_drewN ?_ _) | (with_reducible refine Below.alloc ?_ (by (try simp) <;> omega) _) | (with_reducible refine Below.setCell ?_ (by (try simp) <;> omega) _) | (with_reducible refine Below.trans ?_ (Below.mono (by assumption) (by (try simp) <;> omega)))))) (Upd.set c true _)⟩
      · have hx1 : (x == 0) = false := by simpa using hx0
        clear g
        go_enter Try.func54, Try.ntmps54
        go_wp2_with fail
        refine (sign_any _ _).mono ?_; rintro e w' ⟨rfl, rfl⟩
        go_wp2_with fail
        go_ret
        exact ⟨rfl, Upd.after (by (repeat (first | with_reducible exact Below.refl _ _ | with_reducible assumption | with_reducible apply Below.drew | (with_reducible refine below_drewN ?_ _) | (with_reducible refine Below.alloc ?_ (by (try simp) <;> omega) _) | (with_reducible refine Below.setCell ?_ (by (try simp) <;> omega) _) | (with_reducible refine Below.trans ?_ (Below.mono (by assumption) (by (try simp) <;> omega)))))) (Upd.set c true _)⟩
  · have e1 : byV A d = satV (rdiv A d) := by simp [byV, hd]
    have e2 : (h || byH A d) = (h || satH (rdiv A d)) := by simp [byH, hd]
    rw [e1, e2]
    have hd0 : (d == 0) = false := by simpa using hd
    have H1 := Lib.hid (fun w => wdiv_any A d w hd d1 d2 a1 a2)
    have H2 := Lib.hid (fun w k1 k2 => end_any c h (rdiv A d) (!decide (hi64 A < 0) == decide (d < 0)) w k1 k2 (fun hn => by rw [hi_neg]; exact rdiv_neg A d hd hn))
    obtain ⟨V, hV⟩ : ∃ V, satV (rdiv A d) = V := ⟨_, rfl⟩
    obtain ⟨H, hH⟩ : ∃ H, (h || satH (rdiv A d)) = H := ⟨_, rfl⟩
    obtain ⟨v, hv⟩ : ∃ v, r64V (rdiv A d) = v := ⟨_, rfl⟩
    obtain ⟨o, ho⟩ : ∃ o, r64F (rdiv A d) = o := ⟨_, rfl⟩
    obtain ⟨x, hx⟩ : ∃ x, hi64 A = x := ⟨_, rfl⟩
    obtain ⟨y, hy⟩ : ∃ y, lo64 A = y := ⟨_, rfl⟩
    rw [hV, hH, hx, hv, ho] at H2
    rw [hv, ho, hx, hy] at H1
    rw [hV, hH, hx, hy]
    clear hV hH hx hy hv ho a1 a2 d1 d2 e1 e2 k1 k2 hd
    go_enter Try.func54, Try.ntmps54
    go_wp2_with fail
    refine (H1.out _).mono ?_; rintro e w1 ⟨rfl, hb1⟩
    have hb1z0 : w.heap.size < w1.heap.size := by have := hb1.size; (try simp at this); omega
    have hb1c0_0 := hb1.cell (p := ⟨w.heap.size, 0, none⟩) (by (try simp); (try omega))
    have hb1f0_0 := hb1.frozen (p := ⟨w.heap.size, 0, none⟩) (by (try simp); (try omega))
    simp [go_sem, *] at hb1c0_0 hb1f0_0
    have hb1c0_1 := hb1.cell (p := ⟨w.heap.size, 1, none⟩) (by (try simp); (try omega))
    have hb1f0_1 := hb1.frozen (p := ⟨w.heap.size, 1, none⟩) (by (try simp); (try omega))
    simp [go_sem, *] at hb1c0_1 hb1f0_1
    have k1 : w1.cell? c = some (.bool h) := (hb1.cell (by simp; omega)).trans (by simp [World.cell?_alloc_lt, hcb, hc])
    have k2 : w1.frozen? c = false := (hb1.frozen (by simp; omega)).trans (by rw [frozen?_alloc_cells]; exact hf)
    go_wp2_with fail
    refine (H2.out _ k1 k2).mono ?_; rintro e w2 ⟨rfl, rfl⟩
    go_wp2_with fail
    go_ret
    refine ⟨rfl, ?_⟩
    have hb : Below w.heap.size w w1 := by (repeat (first | with_reducible exact Below.refl _ _ | with_reducible assumption | with_reducible apply Below.drew | (with_reducible refine below_drewN ?_ _) | (with_reducible refine Below.alloc ?_ (by (try simp) <;> omega) _) | (with_reducible refine Below.setCell ?_ (by (try simp) <;> omega) _) | (with_reducible refine Below.trans ?_ (Below.mono (by assumption) (by (try simp) <;> omega)))))
    exact Upd.after hb (Upd.set c H w1)
end Go.Proofs.Ytgpnopiinogkmaa
/- Contracts of package fx (4): Div, MulDiv. -/
namespace Go.Proofs.Ytgpnopiinogkmaa
open Go.RowKit
set_option maxRecDepth 100000
theorem fdiv_walk (c : Addr) (h : Bool) (a b s x y A V : Int) (H : Bool) (w : World) (hc : w.cell? c = some (.bool h)) (hf : w.frozen? c = false) (s0 : 0 ≤ s) (s1 : s ≤ 66)
    (hx : satV a = x) (hy : satV b = y)
    (hm : ∀ w, Calls Try.prog 62 #[.int .i64 x, .int .i64 s] w fun e w' => e = .returned (.tuple #[.agg #[.int .i64 (hi64 A), .int .u64 (lo64 A)], .bool true]) ∧ Below w.heap.size w w')
    (hr : ∀ w, w.cell? c = some (.bool (h || satH a || satH b)) → w.frozen? c = false → Calls Try.prog 54 #[.pointer (some c), .agg #[.int .i64 (hi64 A), .int .u64 (lo64 A)], .int .i64 y] w fun e w' =>
      e = .returned (.int .i64 V) ∧ Upd c H w w') :
    Calls Try.prog 40 #[.pointer (some c), .int .i64 a, .int .i64 b, .int .i64 s] w fun e w' => e = .returned (.int .i64 V) ∧ Upd c H w w' := by
  have hcb := World.block_lt_of_cell? w c hc
  have n1 : ¬ s < 0 := by omega
  have n2 : ¬ 66 < s := by omega
  have c1 : (w.setCell c (.bool (h || satH a))).cell? c = some (.bool (h || satH a)) := World.cell?_setCell_same _ _ _ hc
  have c2 : ((w.setCell c (.bool (h || satH a))).setCell c (.bool (h || satH a || satH b))).cell? c = some (.bool (h || satH a || satH b)) := World.cell?_setCell_same _ _ _ c1
  have HM := Lib.hid hm
  have HR := Lib.hid hr
  have C2 := Lib.hid c2
  clear hm hr c2
  go_enter Try.func40, Try.ntmps40
  go_wp2_with fail
  refine (sat_any c h a _ hc hf).mono ?_; rintro e w' ⟨rfl, rfl⟩
  go_wp2_with fail
  refine (sat_any c _ b _ c1 (by simp [hf])).mono ?_; rintro e w' ⟨rfl, rfl⟩
  have HW := Lib.hid (Upd.trans (Upd.set c (h || satH a) w) (Upd.set c (h || satH a || satH b) _))
  have F2 : ((w.setCell c (.bool (h || satH a))).setCell c (.bool (h || satH a || satH b))).frozen? c = false := by simp [hf]
  have Z2 := Upd.size HW.out
  obtain ⟨w2, hw2⟩ : ∃ w2, (w.setCell c (.bool (h || satH a))).setCell c (.bool (h || satH a || satH b)) = w2 := ⟨_, rfl⟩
  rw [hw2] at HW C2 F2 Z2 ⊢
  clear hw2 c1 hc hf
  go_wp2_with fail
  refine (HM.out _).mono ?_; rintro e w3 ⟨rfl, hb3⟩
  have k1 : w3.cell? c = some (.bool (h || satH a || satH b)) := (hb3.cell (by omega)).trans C2.out
  have k2 : w3.frozen? c = false := (hb3.frozen (by omega)).trans F2
  have hz := hb3.size
  have k3 : ∀ o, (w3.alloc o).cell? c = some (.bool (h || satH a || satH b)) := fun o => by rw [World.cell?_alloc_lt _ _ _ (by omega)]; exact k1
  have k4 : ∀ cs t, (w3.alloc (.cells cs t)).frozen? c = false := fun cs t => by rw [frozen?_alloc_cells]; exact k2
  go_wp2_with fail
  refine (HR.out _ (k3 _) (k4 _ _)).mono ?_; rintro e w4 ⟨rfl, hu4⟩
  go_wp2_with fail
  go_ret
  refine ⟨rfl, ?_⟩
  exact HW.out.trans (Upd.after hb3 (Upd.after (by (repeat (first | with_reducible exact Below.refl _ _ | with_reducible apply Below.drew | (with_reducible refine below_drewN ?_ _) | (with_reducible refine Below.alloc ?_ (by (try simp) <;> omega) _) | (with_reducible refine Below.setCell ?_ (by (try simp) <;> omega) _)))) hu4))
theorem fdiv_bad (c : Addr) (h : Bool) (a b s : Int) (w : World) (hc : w.cell? c = some (.bool h)) (hf : w.frozen? c = false) (hs : s < 0 ∨ 66 < s) :
    Calls Try.prog 40 #[.pointer (some c), .int .i64 a, .int .i64 b, .int .i64 s] w fun e w' => e = .returned (.int .i64 0) ∧ Upd c true w w' := by
  have c1 : (w.setCell c (.bool (h || satH a))).cell? c = some (.bool (h || satH a)) := World.cell?_setCell_same _ _ _ hc
  have c2 : ((w.setCell c (.bool (h || satH a))).setCell c (.bool (h || satH a || satH b))).cell? c = some (.bool (h || satH a || satH b)) := World.cell?_setCell_same _ _ _ c1
  by_cases h1 : s < 0
  · clear hs
    go_enter Try.func40, Try.ntmps40
    go_wp2_with fail
    refine (sat_any c h a _ hc hf).mono ?_; rintro e w' ⟨rfl, rfl⟩
    go_wp2_with fail
    refine (sat_any c _ b _ c1 (by simp [hf])).mono ?_; rintro e w' ⟨rfl, rfl⟩
    go_wp2_with fail
    go_ret
    exact ⟨rfl, Upd.trans (Upd.trans (Upd.set c _ w) (Upd.set c _ _)) (Upd.set c true _)⟩
  · have h2 : 66 < s := by omega
    clear hs
    go_enter Try.func40, Try.ntmps40
    go_wp2_with fail
    refine (sat_any c h a _ hc hf).mono ?_; rintro e w' ⟨rfl, rfl⟩
    go_wp2_with fail
    refine (sat_any c _ b _ c1 (by simp [hf])).mono ?_; rintro e w' ⟨rfl, rfl⟩
    go_wp2_with fail
    go_ret
    exact ⟨rfl, Upd.trans (Upd.trans (Upd.set c _ w) (Upd.set c _ _)) (Upd.set c true _)⟩
theorem fdiv_any (c : Addr) (h : Bool) (a b s : Int) (w : World) (hc : w.cell? c = some (.bool h)) (hf : w.frozen? c = false) :
    Calls Try.prog 40 #[.pointer (some c), .int .i64 a, .int .i64 b, .int .i64 s] w fun e w' => e = .returned (.int .i64 (divV a b s)) ∧ Upd c (h || divH a b s) w w' := by
  have ha := satV_bd a
  have hb := satV_bd b
  by_cases hs : s < 0 ∨ 66 < s
  · have e1 : divV a b s = 0 := by simp [divV, hs]
    have e2 : (h || divH a b s) = true := by simp [divH, hs]
    rw [e1, e2]
    exact fdiv_bad c h a b s w hc hf hs
  · have hp := shift_bd a s (by omega) (by omega)
    have e1 : divV a b s = byV (satV a * 2 ^ s.toNat) (satV b) := by simp only [divV, if_neg hs]
    have e2 : (h || divH a b s) = ((h || satH a || satH b) || byH (satV a * 2 ^ s.toNat) (satV b)) := by simp [divH, hs, Bool.or_assoc]
    rw [e1, e2]
    exact fdiv_walk c h a b s _ _ _ _ _ w hc hf (by omega) (by omega) rfl rfl (fun w => shift_any _ _ _ w (by omega) (by omega) (by omega) (by omega) rfl)
      (fun w k1 k2 => by_any c _ _ _ w k1 k2 (by omega) (by omega) (by omega) (by omega))

end Go.Proofs.Ytgpnopiinogkmaa
