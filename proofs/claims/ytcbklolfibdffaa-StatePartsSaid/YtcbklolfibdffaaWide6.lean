/- Contracts of package wide (6): Round, Div, Shift. -/
/- Contracts of package wide (7): Round, Div, Shift, as numbers. -/
import Derived.Test.YtcbklolfibdffaaWide4
import Derived.IntWalk
namespace Go.Proofs.Ytcbklolfibdffaa
open Go.RowKit
set_option maxRecDepth 100000
def r64F (x : Int) : Bool := decide (-9223372036854775808 ≤ x) && decide (x < 9223372036854775808)
def r64V (x : Int) : Int := if r64F x then x else 0
theorem s64_r64 (M : Int) (neg : Bool) (h0 : 0 ≤ M) (h1 : M < 340282366920938463463374607431768211456) :
    s64F (hi64 M) (lo64 M) neg = r64F (if neg then -M else M) ∧ s64V (hi64 M) (lo64 M) neg = r64V (if neg then -M else M) := by
  have hF : s64F (hi64 M) (lo64 M) neg = r64F (if neg then -M else M) := by
    unfold s64F r64F hi64 lo64
    cases neg <;> simp <;> rw [Bool.eq_iff_iff] <;> simp <;> omega
  refine ⟨hF, ?_⟩
  unfold s64V r64V
  rw [hF]
  by_cases h : r64F (if neg then -M else M) = true
  · rw [if_pos h, if_pos h]
    cases neg <;> simp [r64F] at h ⊢ <;> unfold lo64 <;> omega
  · rw [if_neg h, if_neg h]

theorem abs_any (A : Int) (w : World) (a1 : -170141183460469231731687303715884105728 ≤ A) (a2 : A < 170141183460469231731687303715884105728) :
    Calls Try.prog 37 #[.agg #[.int .i64 (hi64 A), .int .u64 (lo64 A)]] w fun e w' =>
      e = .returned (.tuple #[.agg #[.int .u64 (hi64 A.natAbs), .int .u64 (lo64 A.natAbs)], .bool (decide (A < 0))]) ∧ Below w.heap.size w w' := by
  by_cases h : A < 0
  · refine (abs_neg (hi64 A) (lo64 A) w (by unfold hi64; omega) (by unfold hi64; omega) (by unfold lo64; omega) (by unfold lo64; omega)).mono fun e w' h1 => ⟨h1.1.trans ?_, h1.2⟩
    rw [show -(hi64 A * B64 + lo64 A) = (A.natAbs : Int) from by unfold hi64 lo64 B64; omega]
    simp [h]
  · refine (abs_pos (hi64 A) (lo64 A) w (by unfold hi64; omega) (by unfold hi64; omega)).mono fun e w' h1 => ⟨h1.1.trans ?_, h1.2⟩
    rw [show (A.natAbs : Int) = A from by omega]
    simp [h]

theorem bits_hl {M : Int} (h0 : 0 ≤ M) (h1 : M < 340282366920938463463374607431768211456) : 0 ≤ hi64 M ∧ hi64 M < 18446744073709551616 ∧ 0 ≤ lo64 M ∧ lo64 M < 18446744073709551616 := by
  unfold hi64 lo64; omega

/-- wide.Round: the walk. -/
theorem round_walk (A s M H M2 R : Int) (neg : Bool) (w : World) (s0 : 0 < s) (s1 : s ≤ 126)
    (habs : ∀ w, Calls Try.prog 37 #[.agg #[.int .i64 (hi64 A), .int .u64 (lo64 A)]] w fun e w' =>
      e = .returned (.tuple #[.agg #[.int .u64 (hi64 M), .int .u64 (lo64 M)], .bool neg]) ∧ Below w.heap.size w w')
    (hshl : ∀ w, Calls Try.prog 39 #[.agg #[.int .u64 0, .int .u64 1], .int .i64 (s - 1)] w fun e w' =>
      e = .returned (.agg #[.int .u64 (hi64 H), .int .u64 (lo64 H)]) ∧ Below w.heap.size w w')
    (hplus : ∀ w, Calls Try.prog 38 #[.agg #[.int .u64 (hi64 M), .int .u64 (lo64 M)], .agg #[.int .u64 (hi64 H), .int .u64 (lo64 H)]] w fun e w' =>
      e = .returned (.agg #[.int .u64 (hi64 M2), .int .u64 (lo64 M2)]) ∧ Below w.heap.size w w')
    (hshr : ∀ w, Calls Try.prog 41 #[.agg #[.int .u64 (hi64 M2), .int .u64 (lo64 M2)], .int .i64 s] w fun e w' =>
      e = .returned (.agg #[.int .u64 (hi64 R), .int .u64 (lo64 R)]) ∧ Below w.heap.size w w')
    (hsg : ∀ w, Calls Try.prog 40 #[.agg #[.int .u64 (hi64 R), .int .u64 (lo64 R)], .bool neg] w fun e w' =>
      e = .returned (.tuple #[.int .i64 (s64V (hi64 R) (lo64 R) neg), .bool (s64F (hi64 R) (lo64 R) neg)]) ∧ Below w.heap.size w w') :
    Calls Try.prog 25 #[.agg #[.int .i64 (hi64 A), .int .u64 (lo64 A)], .int .i64 s] w fun e w' =>
      e = .returned (.tuple #[.int .i64 (s64V (hi64 R) (lo64 R) neg), .bool (s64F (hi64 R) (lo64 R) neg)]) ∧ Below w.heap.size w w' := by
  have c1 : ¬ s < 0 := by omega
  have c2 : ¬ 126 < s := by omega
  have hw : IntKind.i64.wrap (s - 1) = s - 1 := IntWalk.i64_in _ (by omega)
  have HA := Lib.hid habs
  have HL := Lib.hid hshl
  have HP := Lib.hid hplus
  have HR := Lib.hid hshr
  have HS := Lib.hid hsg
  clear habs hshl hplus hshr hsg
  go_enter Try.func25, Try.ntmps25
  go_wp2_with fail
  refine (HA.out _).mono ?_; rintro e w1 ⟨rfl, hb1⟩
  have hz : w.heap.size < w1.heap.size := by have := hb1.size; simp at this; omega
  have hb1' : Below w.heap.size w w1 := Below.trans (by (repeat (first | with_reducible exact Below.refl _ _ | with_reducible apply Below.drew | (with_reducible refine below_drewN ?_ _) | (with_reducible refine Below.alloc ?_ (by (try simp) <;> omega) _) | (with_reducible refine Below.setCell ?_ (by (try simp) <;> omega) _)))) (hb1.mono (by simp))
  clear hb1
  go_wp2_with fail
  go_region_with (first | (go_at_call 39; refine (HL.out _).mono ?_; rintro e w2 ⟨rfl, hb2⟩; (obtain ⟨hc2, hf2⟩ := bcell hb2); (have hz2 : w1.heap.size < w2.heap.size := by have := hb2.size; (try simp at this); omega)) | (go_at_call 38; refine (HP.out _).mono ?_; rintro e w3 ⟨rfl, hb3⟩; (obtain ⟨hc3, hf3⟩ := bcell hb3); (have hz3 : w1.heap.size < w3.heap.size := by have := hb3.size; (try simp at this); omega)))
  all_goals
    go_wp2_with fail
    refine (HR.out _).mono ?_; rintro e w4 ⟨rfl, hb4⟩
    have hz4 : w1.heap.size < w4.heap.size := by have := hb4.size; (try simp at this); omega
    go_wp2_with fail
    refine (HS.out _).mono ?_; rintro e w5 ⟨rfl, hb5⟩
    have hz5 : w1.heap.size < w5.heap.size := by have := hb5.size; (try simp at this); omega
    go_wp2_with fail
    go_ret2
    refine ⟨rfl, ?_⟩
    (repeat (first | with_reducible exact Below.refl _ _ | with_reducible assumption | with_reducible apply Below.drew | (with_reducible refine below_drewN ?_ _) | (with_reducible refine Below.alloc ?_ (by (try simp) <;> omega) _) | (with_reducible refine Below.setCell ?_ (by (try simp) <;> omega) _) | (with_reducible refine Below.trans ?_ (Below.mono (by assumption) (by (try simp) <;> omega)))))
end Go.Proofs.Ytcbklolfibdffaa
namespace Go.Proofs.Ytcbklolfibdffaa
open Go.RowKit
set_option maxRecDepth 100000
theorem round_zero (A M R : Int) (neg : Bool) (w : World)
    (habs : ∀ w, Calls Try.prog 37 #[.agg #[.int .i64 (hi64 A), .int .u64 (lo64 A)]] w fun e w' =>
      e = .returned (.tuple #[.agg #[.int .u64 (hi64 M), .int .u64 (lo64 M)], .bool neg]) ∧ Below w.heap.size w w')
    (hshr : ∀ w, Calls Try.prog 41 #[.agg #[.int .u64 (hi64 M), .int .u64 (lo64 M)], .int .i64 0] w fun e w' =>
      e = .returned (.agg #[.int .u64 (hi64 R), .int .u64 (lo64 R)]) ∧ Below w.heap.size w w')
    (hsg : ∀ w, Calls Try.prog 40 #[.agg #[.int .u64 (hi64 R), .int .u64 (lo64 R)], .bool neg] w fun e w' =>
      e = .returned (.tuple #[.int .i64 (s64V (hi64 R) (lo64 R) neg), .bool (s64F (hi64 R) (lo64 R) neg)]) ∧ Below w.heap.size w w') :
    Calls Try.prog 25 #[.agg #[.int .i64 (hi64 A), .int .u64 (lo64 A)], .int .i64 0] w fun e w' =>
      e = .returned (.tuple #[.int .i64 (s64V (hi64 R) (lo64 R) neg), .bool (s64F (hi64 R) (lo64 R) neg)]) ∧ Below w.heap.size w w' := by
  have HA := Lib.hid habs
  have HR := Lib.hid hshr
  have HS := Lib.hid hsg
  clear habs hshr hsg
  go_enter Try.func25, Try.ntmps25
  go_wp2_with fail
  refine (HA.out _).mono ?_; rintro e w1 ⟨rfl, hb1⟩
  have hz : w.heap.size < w1.heap.size := by have := hb1.size; simp at this; omega
  have hb1' : Below w.heap.size w w1 := Below.trans (by (repeat (first | with_reducible exact Below.refl _ _ | with_reducible apply Below.drew | (with_reducible refine below_drewN ?_ _) | (with_reducible refine Below.alloc ?_ (by (try simp) <;> omega) _) | (with_reducible refine Below.setCell ?_ (by (try simp) <;> omega) _)))) (hb1.mono (by simp))
  clear hb1
  go_wp2_with fail
  refine (HR.out _).mono ?_; rintro e w4 ⟨rfl, hb4⟩
  have hz4 : w1.heap.size < w4.heap.size := by have := hb4.size; (try simp at this); omega
  go_wp2_with fail
  refine (HS.out _).mono ?_; rintro e w5 ⟨rfl, hb5⟩
  have hz5 : w1.heap.size < w5.heap.size := by have := hb5.size; (try simp at this); omega
  go_wp2_with fail
  go_ret2
  refine ⟨rfl, ?_⟩
  (repeat (first | with_reducible exact Below.refl _ _ | with_reducible assumption | with_reducible apply Below.drew | (with_reducible refine below_drewN ?_ _) | (with_reducible refine Below.alloc ?_ (by (try simp) <;> omega) _) | (with_reducible refine Below.setCell ?_ (by (try simp) <;> omega) _) | (with_reducible refine Below.trans ?_ (Below.mono (by assumption) (by (try simp) <;> omega)))))

theorem rsh_pos (a : Int) (k : Nat) : rsh a (k + 1) = if a < 0 then -(((a.natAbs + 2 ^ k) / 2 ^ (k + 1) : Nat) : Int) else (((a.natAbs + 2 ^ k) / 2 ^ (k + 1) : Nat) : Int) := by
  unfold rsh rdiv
  have h2 : ((2 : Int) ^ (k + 1)).natAbs = 2 ^ (k + 1) := by rw [Int.natAbs_pow]; rfl
  have hp : (0 : Int) < 2 ^ (k + 1) := Int.pow_pos (by decide)
  have e : (2 * a.natAbs + 2 ^ (k + 1)) / (2 * 2 ^ (k + 1)) = (a.natAbs + 2 ^ k) / 2 ^ (k + 1) := by
    rw [show 2 * a.natAbs + 2 ^ (k + 1) = 2 * (a.natAbs + 2 ^ k) from by rw [Nat.pow_succ]; omega]
    exact Nat.mul_div_mul_left _ _ (by decide)
  rw [h2, e]
  simp only [hp, eq_iff_iff, iff_true]
  by_cases h : a < 0
  · rw [if_pos h, if_neg (by omega)]
  · rw [if_neg h, if_pos (by omega)]
theorem rsh_zero (a : Int) : rsh a 0 = a := by
  unfold rsh rdiv
  simp
  by_cases h : 0 ≤ a
  · rw [if_pos h]; omega
  · rw [if_neg h]; omega

/-- wide.Round. -/
theorem round_any (A s : Int) (w : World) (s0 : 0 ≤ s) (s1 : s ≤ 126) (a1 : -170141183460469231731687303715884105728 ≤ A) (a2 : A < 170141183460469231731687303715884105728) :
    Calls Try.prog 25 #[.agg #[.int .i64 (hi64 A), .int .u64 (lo64 A)], .int .i64 s] w fun e w' =>
      e = .returned (.tuple #[.int .i64 (r64V (rsh A s.toNat)), .bool (r64F (rsh A s.toNat))]) ∧ Below w.heap.size w w' := by
  obtain ⟨n, rfl⟩ := Int.eq_ofNat_of_zero_le s0
  rw [Int.toNat_natCast]
  have hM := bits_hl (M := (A.natAbs : Int)) (by omega) (by omega)
  cases n with
  | zero =>
    have hs := s64_r64 (A.natAbs : Int) (decide (A < 0)) (by omega) (by omega)
    have hv : (if decide (A < 0) = true then -(A.natAbs : Int) else (A.natAbs : Int)) = rsh A 0 := by
      rw [rsh_zero]; by_cases h : A < 0 <;> simp [h] <;> omega
    rw [hv] at hs
    refine (round_zero A A.natAbs A.natAbs (decide (A < 0)) w (fun w => abs_any A w a1 a2)
      (fun w => shr_any _ _ 0 (A.natAbs : Int) _ w hM.1 hM.2.1 hM.2.2.1 hM.2.2.2 (by decide) (by decide) (hilo _) (by simp))
      (fun w => signed64_any _ _ _ w hM.2.2.1 hM.2.2.2)).mono fun e w' h => ⟨h.1.trans (by rw [hs.1, hs.2]), h.2⟩
  | succ k =>
    have hk : k ≤ 125 := by omega
    have hp : (2 : Nat) ^ k ≤ 2 ^ 125 := Nat.pow_le_pow_right (by decide) hk
    have hc : ((2 ^ k : Nat) : Int) = 2 ^ k := by simp
    obtain ⟨H, hH⟩ : ∃ H : Int, ((2 ^ k : Nat) : Int) = H := ⟨_, rfl⟩
    have hH0 : 0 ≤ H := by rw [← hH]; exact Int.natCast_nonneg _
    have hH1 : H < 170141183460469231731687303715884105728 := by
      have : (2 : Nat) ^ 125 = 42535295865117307932921825928971026432 := by decide
      omega
    have hHb := bits_hl (M := H) (by omega) (by omega)
    have hM2 := bits_hl (M := (A.natAbs : Int) + H) (by omega) (by omega)
    obtain ⟨R, hR⟩ : ∃ R : Int, (((A.natAbs + 2 ^ k) / 2 ^ (k + 1) : Nat) : Int) = R := ⟨_, rfl⟩
    have hR0 : 0 ≤ R := by rw [← hR]; exact Int.natCast_nonneg _
    have hR2 : ((A.natAbs : Int) + H) / 2 ^ (k + 1) = R := by rw [← hR, ← hH]; simp
    have hR1 : R ≤ (A.natAbs : Int) + H := by rw [← hR, ← hH]; have := Nat.div_le_self (A.natAbs + 2 ^ k) (2 ^ (k + 1)); omega
    have hRb := bits_hl (M := R) (by omega) (by omega)
    have hs := s64_r64 R (decide (A < 0)) (by omega) (by omega)
    have hv : (if decide (A < 0) = true then -R else R) = rsh A (k + 1) := by
      rw [rsh_pos, hR]; by_cases h : A < 0 <;> simp [h]
    rw [hv] at hs
    refine (round_walk A ((k + 1 : Nat) : Int) A.natAbs H (A.natAbs + H) R (decide (A < 0)) w (by omega) (by omega) (fun w => abs_any A w a1 a2)
      (fun w => shl_any 1 _ H w (by decide) (by decide) (by omega) (by omega) (by rw [show (((k + 1 : Nat) : Int) - 1).toNat = k from by omega, Int.one_mul, ← hc, hH]) (by omega))
      (fun w => plus_any _ _ _ _ _ w hM.1 hM.2.2.1 hM.2.2.2 hHb.1 hHb.2.2.1 hHb.2.2.2 (by have := hilo (A.natAbs : Int); have := hilo H; omega) (by omega))
      (fun w => shr_any _ _ _ ((A.natAbs : Int) + H) _ w hM2.1 hM2.2.1 hM2.2.2.1 hM2.2.2.2 (by omega) (by omega) (hilo _) (by rw [Int.toNat_natCast]; exact hR2))
      (fun w => signed64_any _ _ _ w hRb.2.2.1 hRb.2.2.2)).mono fun e w' h => ⟨h.1.trans (by rw [hs.1, hs.2]), h.2⟩

/-- wide.Div: the walk. -/
theorem wdiv_walk (A d M D Q R q : Int) (neg : Bool) (sg : Bool) (w : World) (d0 : (d == 0) = false) (hx : 0 ≤ hi64 M) (D0 : 0 < D)
    (hsg2 : (!neg == decide (d < 0)) = sg)
    (habs : ∀ w, Calls Try.prog 37 #[.agg #[.int .i64 (hi64 A), .int .u64 (lo64 A)]] w fun e w' =>
      e = .returned (.tuple #[.agg #[.int .u64 (hi64 M), .int .u64 (lo64 M)], .bool neg]) ∧ Below w.heap.size w w')
    (hd : ∀ w, Calls Try.prog 34 #[.int .i64 d] w fun e w' => e = .returned (.int .u64 D) ∧ w = w')
    (hq1 : IntKind.u64.wrap ((hi64 M).tdiv D) = q) (_hq2 : IntKind.u64.wrap ((hi64 M).tmod D) = hi64 M % D)
    (hdv : ∀ w, Calls Try.prog 51 #[.int .u64 (hi64 M % D), .int .u64 (lo64 M), .int .u64 D] w fun e w' =>
      e = .returned (.tuple #[.int .u64 (lo64 Q), .int .u64 R]) ∧ Below w.heap.size w w')
    (hq3 : q = hi64 Q) (D1 : D < 9223372036854775809) (R0 : 0 ≤ R) (R1 : R < D)
    (hfin : ∀ w, Calls Try.prog 40 #[.agg #[.int .u64 (hi64 (if D ≤ 2 * R then Q + 1 else Q)), .int .u64 (lo64 (if D ≤ 2 * R then Q + 1 else Q))], .bool sg] w fun e w' =>
      e = .returned (.tuple #[.int .i64 (s64V (hi64 (if D ≤ 2 * R then Q + 1 else Q)) (lo64 (if D ≤ 2 * R then Q + 1 else Q)) sg), .bool (s64F (hi64 (if D ≤ 2 * R then Q + 1 else Q)) (lo64 (if D ≤ 2 * R then Q + 1 else Q)) sg)]) ∧ Below w.heap.size w w')
    (hplus : ∀ w, Calls Try.prog 38 #[.agg #[.int .u64 (hi64 Q), .int .u64 (lo64 Q)], .agg #[.int .u64 0, .int .u64 1]] w fun e w' =>
      e = .returned (.agg #[.int .u64 (hi64 (Q + 1)), .int .u64 (lo64 (Q + 1))]) ∧ Below w.heap.size w w') :
    Calls Try.prog 48 #[.agg #[.int .i64 (hi64 A), .int .u64 (lo64 A)], .int .i64 d] w fun e w' =>
      e = .returned (.tuple #[.int .i64 (s64V (hi64 (if D ≤ 2 * R then Q + 1 else Q)) (lo64 (if D ≤ 2 * R then Q + 1 else Q)) sg), .bool (s64F (hi64 (if D ≤ 2 * R then Q + 1 else Q)) (lo64 (if D ≤ 2 * R then Q + 1 else Q)) sg)]) ∧ Below w.heap.size w w' := by
  subst hq3
  have hw : IntKind.u64.wrap (D - R) = D - R := by rw [IntKind.wrap_u64]; omega
  have hD : ¬ D = 0 := by omega
  have e3 : (hi64 M).tmod D = hi64 M % D := Int.tmod_eq_emod_of_nonneg hx
  have HA := Lib.hid habs
  have HD := Lib.hid hd
  have HV := Lib.hid hdv
  have HP := Lib.hid hplus
  by_cases hc : D ≤ 2 * R
  · simp only [if_pos hc] at hfin ⊢
    have HS := Lib.hid hfin
    have hc2 : D - R ≤ R := by omega
    clear habs hd hdv hplus hfin D1 hc
    go_enter Try.func48, Try.ntmps48
    go_wp2_with fail
    refine (HA.out _).mono ?_; rintro e w1 ⟨rfl, hb1⟩
    have hz : w.heap.size < w1.heap.size := by have := hb1.size; simp at this; omega
    have hb1' : Below w.heap.size w w1 := Below.trans (by (repeat (first | with_reducible exact Below.refl _ _ | with_reducible apply Below.drew | (with_reducible refine below_drewN ?_ _) | (with_reducible refine Below.alloc ?_ (by (try simp) <;> omega) _) | (with_reducible refine Below.setCell ?_ (by (try simp) <;> omega) _)))) (hb1.mono (by simp))
    clear hb1
    go_wp2_with fail
    refine (HD.out _).mono ?_; rintro e w2 ⟨rfl, rfl⟩
    go_wp2_with fail
    go_quiet (fail)
    go_wp2_with fail
    refine (HV.out _).mono ?_; rintro e w3 ⟨rfl, hb3⟩
    have hz3 : w1.heap.size < w3.heap.size := by have := hb3.size; (try simp at this); omega
    go_wp2_with fail
    refine (HP.out _).mono ?_; rintro e w4 ⟨rfl, hb4⟩
    have hz4 : w3.heap.size < w4.heap.size := by have := hb4.size; (try simp at this); omega
    obtain ⟨hc4, hf4⟩ := bcell hb4
    go_wp2_with fail
    refine (HS.out _).mono ?_; rintro e w5 ⟨rfl, hb5⟩
    go_wp2_with fail
    go_ret2
    refine ⟨rfl, ?_⟩
    have hz5 : w4.heap.size ≤ w5.heap.size := by have := hb5.size; (try simp at this); omega
    (repeat (first | with_reducible exact Below.refl _ _ | with_reducible assumption | with_reducible apply Below.drew | (with_reducible refine below_drewN ?_ _) | (with_reducible refine Below.alloc ?_ (by (try simp) <;> omega) _) | (with_reducible refine Below.setCell ?_ (by (try simp) <;> omega) _) | (with_reducible refine Below.trans ?_ (Below.mono (by assumption) (by (try simp) <;> omega)))))
  · simp only [if_neg hc] at hfin ⊢
    have HS := Lib.hid hfin
    have hc2 : ¬ D - R ≤ R := by omega
    clear habs hd hdv hplus hfin D1 hc
    go_enter Try.func48, Try.ntmps48
    go_wp2_with fail
    refine (HA.out _).mono ?_; rintro e w1 ⟨rfl, hb1⟩
    have hz : w.heap.size < w1.heap.size := by have := hb1.size; simp at this; omega
    have hb1' : Below w.heap.size w w1 := Below.trans (by (repeat (first | with_reducible exact Below.refl _ _ | with_reducible apply Below.drew | (with_reducible refine below_drewN ?_ _) | (with_reducible refine Below.alloc ?_ (by (try simp) <;> omega) _) | (with_reducible refine Below.setCell ?_ (by (try simp) <;> omega) _)))) (hb1.mono (by simp))
    clear hb1
    go_wp2_with fail
    refine (HD.out _).mono ?_; rintro e w2 ⟨rfl, rfl⟩
    go_wp2_with fail
    go_quiet (fail)
    go_wp2_with fail
    refine (HV.out _).mono ?_; rintro e w3 ⟨rfl, hb3⟩
    have hz3 : w1.heap.size < w3.heap.size := by have := hb3.size; (try simp at this); omega
    go_wp2_with fail
    refine (HS.out _).mono ?_; rintro e w5 ⟨rfl, hb5⟩
    go_wp2_with fail
    go_ret2
    refine ⟨rfl, ?_⟩
    have hz5 : w3.heap.size ≤ w5.heap.size := by have := hb5.size; (try simp at this); omega
    (repeat (first | with_reducible exact Below.refl _ _ | with_reducible assumption | with_reducible apply Below.drew | (with_reducible refine below_drewN ?_ _) | (with_reducible refine Below.alloc ?_ (by (try simp) <;> omega) _) | (with_reducible refine Below.setCell ?_ (by (try simp) <;> omega) _) | (with_reducible refine Below.trans ?_ (Below.mono (by assumption) (by (try simp) <;> omega)))))
end Go.Proofs.Ytcbklolfibdffaa
