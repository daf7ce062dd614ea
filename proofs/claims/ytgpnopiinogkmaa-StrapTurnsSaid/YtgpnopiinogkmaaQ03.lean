/- Contracts of the program's functions and plain laws, part 3: they hold for all arguments. -/
import Derived.Test.YtgpnopiinogkmaaQ02
import Derived.IntWalk
import Derived.OrdersHeld
import Derived.StillTail
import Derived.Deep.RegionHeld3
import Derived.Test.YtgpnopiinogkmaaQ01
import Derived.Shelf.Spec.BitsCarry
import Derived.Deep.Cut
import Derived.Deep.CutRange
/- Contracts of package wide (6): Round, Div, Shift. -/
/- Contracts of package wide (7): Round, Div, Shift, as numbers. -/
namespace Go.Proofs.Ytgpnopiinogkmaa
open Go.RowKit
set_option maxRecDepth 100000
def r64F (x : Int) : Bool := decide (-9223372036854775808 ≤ x) && decide (x < 9223372036854775808)
def r64V (x : Int) : Int := if r64F x then x else 0
theorem s64_r64 (M : Int) (neg : Bool) (h0 : 0 ≤ M) (h1 : M < 340282366920938463463374607431768211456) :
    s64F (hi64 M) (lo64 M) neg = r64F (if neg then -M else M) ∧ s64V (hi64 M) (lo64 M) neg = r64V (if neg then -M else M) := by
  have hF : s64F (hi64 M) (lo64 M) neg = r64F (if neg then -M else M) := by
    unfold s64F r64F hi64 lo64
    cases neg <;> simp <;> rw [Bool.eq_iff_iff] <;> simp <;> omega
  refine ⟨hF, ?_⟩
  unfold s64V r64V
  rw [hF]
  by_cases h : r64F (if neg then -M else M) = true
  · rw [if_pos h, if_pos h]
    cases neg <;> simp [r64F] at h ⊢ <;> unfold lo64 <;> omega
  · rw [if_neg h, if_neg h]

theorem abs_any (A : Int) (w : World) (a1 : -170141183460469231731687303715884105728 ≤ A) (a2 : A < 170141183460469231731687303715884105728) :
    Calls Try.prog 75 #[.agg #[.int .i64 (hi64 A), .int .u64 (lo64 A)]] w fun e w' =>
      e = .returned (.tuple #[.agg #[.int .u64 (hi64 A.natAbs), .int .u64 (lo64 A.natAbs)], .bool (decide (A < 0))]) ∧ Below w.heap.size w w' := by
  by_cases h : A < 0
  · refine (abs_neg (hi64 A) (lo64 A) w (by unfold hi64; omega) (by unfold hi64; omega) (by unfold lo64; omega) (by unfold lo64; omega)).mono fun e w' h1 => ⟨h1.1.trans ?_, h1.2⟩
    rw [show -(hi64 A * B64 + lo64 A) = (A.natAbs : Int) from by unfold hi64 lo64 B64; omega]
    simp [h]
  · refine (abs_pos (hi64 A) (lo64 A) w (by unfold hi64; omega) (by unfold hi64; omega)).mono fun e w' h1 => ⟨h1.1.trans ?_, h1.2⟩
    rw [show (A.natAbs : Int) = A from by omega]
    simp [h]

theorem bits_hl {M : Int} (h0 : 0 ≤ M) (h1 : M < 340282366920938463463374607431768211456) : 0 ≤ hi64 M ∧ hi64 M < 18446744073709551616 ∧ 0 ≤ lo64 M ∧ lo64 M < 18446744073709551616 := by
  unfold hi64 lo64; omega

/-- wide.Round: the walk. -/
theorem round_walk (A s M H M2 R : Int) (neg : Bool) (w : World) (s0 : 0 < s) (s1 : s ≤ 126)
    (habs : ∀ w, Calls Try.prog 75 #[.agg #[.int .i64 (hi64 A), .int .u64 (lo64 A)]] w fun e w' =>
      e = .returned (.tuple #[.agg #[.int .u64 (hi64 M), .int .u64 (lo64 M)], .bool neg]) ∧ Below w.heap.size w w')
    (hshl : ∀ w, Calls Try.prog 77 #[.agg #[.int .u64 0, .int .u64 1], .int .i64 (s - 1)] w fun e w' =>
      e = .returned (.agg #[.int .u64 (hi64 H), .int .u64 (lo64 H)]) ∧ Below w.heap.size w w')
    (hplus : ∀ w, Calls Try.prog 76 #[.agg #[.int .u64 (hi64 M), .int .u64 (lo64 M)], .agg #[.int .u64 (hi64 H), .int .u64 (lo64 H)]] w fun e w' =>
      e = .returned (.agg #[.int .u64 (hi64 M2), .int .u64 (lo64 M2)]) ∧ Below w.heap.size w w')
    (hshr : ∀ w, Calls Try.prog 79 #[.agg #[.int .u64 (hi64 M2), .int .u64 (lo64 M2)], .int .i64 s] w fun e w' =>
      e = .returned (.agg #[.int .u64 (hi64 R), .int .u64 (lo64 R)]) ∧ Below w.heap.size w w')
    (hsg : ∀ w, Calls Try.prog 78 #[.agg #[.int .u64 (hi64 R), .int .u64 (lo64 R)], .bool neg] w fun e w' =>
      e = .returned (.tuple #[.int .i64 (s64V (hi64 R) (lo64 R) neg), .bool (s64F (hi64 R) (lo64 R) neg)]) ∧ Below w.heap.size w w') :
    Calls Try.prog 59 #[.agg #[.int .i64 (hi64 A), .int .u64 (lo64 A)], .int .i64 s] w fun e w' =>
      e = .returned (.tuple #[.int .i64 (s64V (hi64 R) (lo64 R) neg), .bool (s64F (hi64 R) (lo64 R) neg)]) ∧ Below w.heap.size w w' := by
  have c1 : ¬ s < 0 := by omega
  have c2 : ¬ 126 < s := by omega
  have hw : IntKind.i64.wrap (s - 1) = s - 1 := IntWalk.i64_in _ (by omega)
  have HA := Lib.hid habs
  have HL := Lib.hid hshl
  have HP := Lib.hid hplus
  have HR := Lib.hid hshr
  have HS := Lib.hid hsg
  clear habs hshl hplus hshr hsg
  go_enter Try.func59, Try.ntmps59
  go_wp2_with fail
  refine (HA.out _).mono ?_; rintro e w1 ⟨rfl, hb1⟩
  have hz : w.heap.size < w1.heap.size := by have := hb1.size; simp at this; omega
  have hb1' : Below w.heap.size w w1 := Below.trans (by (repeat (first | with_reducible exact Below.refl _ _ | with_reducible apply Below.drew | (with_reducible refine below_drewN ?_ _) | (with_reducible refine Below.alloc ?_ (by (try simp) <;> omega) _) | (with_reducible refine Below.setCell ?_ (by (try simp) <;> omega) _)))) (hb1.mono (by simp))
  clear hb1
  go_wp2_with fail
  go_region_with (first | (go_at_call 77; refine (HL.out _).mono ?_; rintro e w2 ⟨rfl, hb2⟩; (obtain ⟨hc2, hf2⟩ := bcell hb2); (have hz2 : w1.heap.size < w2.heap.size := by have := hb2.size; (try simp at this); omega)) | (go_at_call 76; refine (HP.out _).mono ?_; rintro e w3 ⟨rfl, hb3⟩; (obtain ⟨hc3, hf3⟩ := bcell hb3); (have hz3 : w1.heap.size < w3.heap.size := by have := hb3.size; (try simp at this); omega)))
  all_goals
    go_wp2_with fail
    refine (HR.out _).mono ?_; rintro e w4 ⟨rfl, hb4⟩
    have hz4 : w1.heap.size < w4.heap.size := by have := hb4.size; (try simp at this); omega
    go_wp2_with fail
    refine (HS.out _).mono ?_; rintro e w5 ⟨rfl, hb5⟩
    have hz5 : w1.heap.size < w5.heap.size := by have := hb5.size; (try simp at this); omega
    go_wp2_with fail
    go_ret2
    refine ⟨rfl, ?_⟩
    (repeat (first | with_reducible exact Below.refl _ _ | with_reducible assumption | with_reducible apply Below.drew | (with_reducible refine below_drewN ?_ _) | (with_reducible refine Below.alloc ?_ (by (try simp) <;> omega) _) | (with_reducible refine Below.setCell ?_ (by (try simp) <;> omega) _) | (with_reducible refine Below.trans ?_ (Below.mono (by assumption) (by (try simp) <;> omega)))))
end Go.Proofs.Ytgpnopiinogkmaa
namespace Go.Proofs.Ytgpnopiinogkmaa
open Go.RowKit
set_option maxRecDepth 100000
theorem round_zero (A M R : Int) (neg : Bool) (w : World)
    (habs : ∀ w, Calls Try.prog 75 #[.agg #[.int .i64 (hi64 A), .int .u64 (lo64 A)]] w fun e w' =>
      e = .returned (.tuple #[.agg #[.int .u64 (hi64 M), .int .u64 (lo64 M)], .bool neg]) ∧ Below w.heap.size w w')
    (hshr : ∀ w, Calls Try.prog 79 #[.agg #[.int .u64 (hi64 M), .int .u64 (lo64 M)], .int .i64 0] w fun e w' =>
      e = .returned (.agg #[.int .u64 (hi64 R), .int .u64 (lo64 R)]) ∧ Below w.heap.size w w')
    (hsg : ∀ w, Calls Try.prog 78 #[.agg #[.int .u64 (hi64 R), .int .u64 (lo64 R)], .bool neg] w fun e w' =>
      e = .returned (.tuple #[.int .i64 (s64V (hi64 R) (lo64 R) neg), .bool (s64F (hi64 R) (lo64 R) neg)]) ∧ Below w.heap.size w w') :
    Calls Try.prog 59 #[.agg #[.int .i64 (hi64 A), .int .u64 (lo64 A)], .int .i64 0] w fun e w' =>
      e = .returned (.tuple #[.int .i64 (s64V (hi64 R) (lo64 R) neg), .bool (s64F (hi64 R) (lo64 R) neg)]) ∧ Below w.heap.size w w' := by
  have HA := Lib.hid habs
  have HR := Lib.hid hshr
  have HS := Lib.hid hsg
  clear habs hshr hsg
  go_enter Try.func59, Try.ntmps59
  go_wp2_with fail
  refine (HA.out _).mono ?_; rintro e w1 ⟨rfl, hb1⟩
  have hz : w.heap.size < w1.heap.size := by have := hb1.size; simp at this; omega
  have hb1' : Below w.heap.size w w1 := Below.trans (by (repeat (first | with_reducible exact Below.refl _ _ | with_reducible apply Below.drew | (with_reducible refine below_drewN ?_ _) | (with_reducible refine Below.alloc ?_ (by (try simp) <;> omega) _) | (with_reducible refine Below.setCell ?_ (by (try simp) <;> omega) _)))) (hb1.mono (by simp))
  clear hb1
  go_wp2_with fail
  refine (HR.out _).mono ?_; rintro e w4 ⟨rfl, hb4⟩
  have hz4 : w1.heap.size < w4.heap.size := by have := hb4.size; (try simp at this); omega
  go_wp2_with fail
  refine (HS.out _).mono ?_; rintro e w5 ⟨rfl, hb5⟩
  have hz5 : w1.heap.size < w5.heap.size := by have := hb5.size; (try simp at this); omega
  go_wp2_with fail
  go_ret2
  refine ⟨rfl, ?_⟩
  (repeat (first | with_reducible exact Below.refl _ _ | with_reducible assumption | with_reducible apply Below.drew | (with_reducible refine below_drewN ?_ _) | (with_reducible refine Below.alloc ?_ (by (try simp) <;> omega) _) | (with_reducible refine Below.setCell ?_ (by (try simp) <;> omega) _) | (with_reducible refine Below.trans ?_ (Below.mono (by assumption) (by (try simp) <;> omega)))))

theorem rsh_pos (a : Int) (k : Nat) : rsh a (k + 1) = if a < 0 then -(((a.natAbs + 2 ^ k) / 2 ^ (k + 1) : Nat) : Int) else (((a.natAbs + 2 ^ k) / 2 ^ (k + 1) : Nat) : Int) := by
  unfold rsh rdiv
  have h2 : ((2 : Int) ^ (k + 1)).natAbs = 2 ^ (k + 1) := by rw [Int.natAbs_pow]; rfl
  have hp : (0 : Int) < 2 ^ (k + 1) := Int.pow_pos (by decide)
  have e : (2 * a.natAbs + 2 ^ (k + 1)) / (2 * 2 ^ (k + 1)) = (a.natAbs + 2 ^ k) / 2 ^ (k + 1) := by
    rw [show 2 * a.natAbs + 2 ^ (k + 1) = 2 * (a.natAbs + 2 ^ k) from by rw [Nat.pow_succ]; omega]
    exact Nat.mul_div_mul_left _ _ (by decide)
  rw [h2, e]
  simp only [hp, eq_iff_iff, iff_true]
  by_cases h : a < 0
  · rw [if_pos h, if_neg (by omega)]
  · rw [if_neg h, if_pos (by omega)]
theorem rsh_zero (a : Int) : rsh a 0 = a := by
  unfold rsh rdiv
  simp
  by_cases h : 0 ≤ a
  · rw [if_pos h]; omega
  · rw [if_neg h]; omega

/-- wide.Round. -/
theorem round_any (A s : Int) (w : World) (s0 : 0 ≤ s) (s1 : s ≤ 126) (a1 : -170141183460469231731687303715884105728 ≤ A) (a2 : A < 170141183460469231731687303715884105728) :
    Calls Try.prog 59 #[.agg #[.int .i64 (hi64 A), .int .u64 (lo64 A)], .int .i64 s] w fun e w' =>
      e = .returned (.tuple #[.int .i64 (r64V (rsh A s.toNat)), .bool (r64F (rsh A s.toNat))]) ∧ Below w.heap.size w w' := by
  obtain ⟨n, rfl⟩ := Int.eq_ofNat_of_zero_le s0
  rw [Int.toNat_natCast]
  have hM := bits_hl (M := (A.natAbs : Int)) (by omega) (by omega)
  cases n with
  | zero =>
    have hs := s64_r64 (A.natAbs : Int) (decide (A < 0)) (by omega) (by omega)
    have hv : (if decide (A < 0) = true then -(A.natAbs : Int) else (A.natAbs : Int)) = rsh A 0 := by
      rw [rsh_zero]; by_cases h : A < 0 <;> simp [h] <;> omega
    rw [hv] at hs
    refine (round_zero A A.natAbs A.natAbs (decide (A < 0)) w (fun w => abs_any A w a1 a2)
      (fun w => shr_any _ _ 0 (A.natAbs : Int) _ w hM.1 hM.2.1 hM.2.2.1 hM.2.2.2 (by decide) (by decide) (hilo _) (by simp))
      (fun w => signed64_any _ _ _ w hM.2.2.1 hM.2.2.2)).mono fun e w' h => ⟨h.1.trans (by rw [hs.1, hs.2]), h.2⟩
  | succ k =>
    have hk : k ≤ 125 := by omega
    have hp : (2 : Nat) ^ k ≤ 2 ^ 125 := Nat.pow_le_pow_right (by decide) hk
    have hc : ((2 ^ k : Nat) : Int) = 2 ^ k := by simp
    obtain ⟨H, hH⟩ : ∃ H : Int, ((2 ^ k : Nat) : Int) = H := ⟨_, rfl⟩
    have hH0 : 0 ≤ H := by rw [← hH]; exact Int.natCast_nonneg _
    have hH1 : H < 170141183460469231731687303715884105728 := by
      have : (2 : Nat) ^ 125 = 42535295865117307932921825928971026432 := by decide
      omega
    have hHb := bits_hl (M := H) (by omega) (by omega)
    have hM2 := bits_hl (M := (A.natAbs : Int) + H) (by omega) (by omega)
    obtain ⟨R, hR⟩ : ∃ R : Int, (((A.natAbs + 2 ^ k) / 2 ^ (k + 1) : Nat) : Int) = R := ⟨_, rfl⟩
    have hR0 : 0 ≤ R := by rw [← hR]; exact Int.natCast_nonneg _
    have hR2 : ((A.natAbs : Int) + H) / 2 ^ (k + 1) = R := by rw [← hR, ← hH]; simp
    have hR1 : R ≤ (A.natAbs : Int) + H := by rw [← hR, ← hH]; have := Nat.div_le_self (A.natAbs + 2 ^ k) (2 ^ (k + 1)); omega
    have hRb := bits_hl (M := R) (by omega) (by omega)
    have hs := s64_r64 R (decide (A < 0)) (by omega) (by omega)
    have hv : (if decide (A < 0) = true then -R else R) = rsh A (k + 1) := by
      rw [rsh_pos, hR]; by_cases h : A < 0 <;> simp [h]
    rw [hv] at hs
    refine (round_walk A ((k + 1 : Nat) : Int) A.natAbs H (A.natAbs + H) R (decide (A < 0)) w (by omega) (by omega) (fun w => abs_any A w a1 a2)
      (fun w => shl_any 1 _ H w (by decide) (by decide) (by omega) (by omega) (by rw [show (((k + 1 : Nat) : Int) - 1).toNat = k from by omega, Int.one_mul, ← hc, hH]) (by omega))
      (fun w => plus_any _ _ _ _ _ w hM.1 hM.2.2.1 hM.2.2.2 hHb.1 hHb.2.2.1 hHb.2.2.2 (by have := hilo (A.natAbs : Int); have := hilo H; omega) (by omega))
      (fun w => shr_any _ _ _ ((A.natAbs : Int) + H) _ w hM2.1 hM2.2.1 hM2.2.2.1 hM2.2.2.2 (by omega) (by omega) (hilo _) (by rw [Int.toNat_natCast]; exact hR2))
      (fun w => signed64_any _ _ _ w hRb.2.2.1 hRb.2.2.2)).mono fun e w' h => ⟨h.1.trans (by rw [hs.1, hs.2]), h.2⟩

/-- wide.Div: the walk. -/
theorem wdiv_walk (A d M D Q R q : Int) (neg : Bool) (sg : Bool) (w : World) (d0 : (d == 0) = false) (hx : 0 ≤ hi64 M) (D0 : 0 < D)
    (hsg2 : (!neg == decide (d < 0)) = sg)
    (habs : ∀ w, Calls Try.prog 75 #[.agg #[.int .i64 (hi64 A), .int .u64 (lo64 A)]] w fun e w' =>
      e = .returned (.tuple #[.agg #[.int .u64 (hi64 M), .int .u64 (lo64 M)], .bool neg]) ∧ Below w.heap.size w w')
    (hd : ∀ w, Calls Try.prog 57 #[.int .i64 d] w fun e w' => e = .returned (.int .u64 D) ∧ w = w')
    (hq1 : IntKind.u64.wrap ((hi64 M).tdiv D) = q) (_hq2 : IntKind.u64.wrap ((hi64 M).tmod D) = hi64 M % D)
    (hdv : ∀ w, Calls Try.prog 85 #[.int .u64 (hi64 M % D), .int .u64 (lo64 M), .int .u64 D] w fun e w' =>
      e = .returned (.tuple #[.int .u64 (lo64 Q), .int .u64 R]) ∧ Below w.heap.size w w')
    (hq3 : q = hi64 Q) (D1 : D < 9223372036854775809) (R0 : 0 ≤ R) (R1 : R < D)
    (hfin : ∀ w, Calls Try.prog 78 #[.agg #[.int .u64 (hi64 (if D ≤ 2 * R then Q + 1 else Q)), .int .u64 (lo64 (if D ≤ 2 * R then Q + 1 else Q))], .bool sg] w fun e w' =>
      e = .returned (.tuple #[.int .i64 (s64V (hi64 (if D ≤ 2 * R then Q + 1 else Q)) (lo64 (if D ≤ 2 * R then Q + 1 else Q)) sg), .bool (s64F (hi64 (if D ≤ 2 * R then Q + 1 else Q)) (lo64 (if D ≤ 2 * R then Q + 1 else Q)) sg)]) ∧ Below w.heap.size w w')
    (hplus : ∀ w, Calls Try.prog 76 #[.agg #[.int .u64 (hi64 Q), .int .u64 (lo64 Q)], .agg #[.int .u64 0, .int .u64 1]] w fun e w' =>
      e = .returned (.agg #[.int .u64 (hi64 (Q + 1)), .int .u64 (lo64 (Q + 1))]) ∧ Below w.heap.size w w') :
    Calls Try.prog 73 #[.agg #[.int .i64 (hi64 A), .int .u64 (lo64 A)], .int .i64 d] w fun e w' =>
      e = .returned (.tuple #[.int .i64 (s64V (hi64 (if D ≤ 2 * R then Q + 1 else Q)) (lo64 (if D ≤ 2 * R then Q + 1 else Q)) sg), .bool (s64F (hi64 (if D ≤ 2 * R then Q + 1 else Q)) (lo64 (if D ≤ 2 * R then Q + 1 else Q)) sg)]) ∧ Below w.heap.size w w' := by
  subst hq3
  have hw : IntKind.u64.wrap (D - R) = D - R := by rw [IntKind.wrap_u64]; omega
  have hD : ¬ D = 0 := by omega
  have e3 : (hi64 M).tmod D = hi64 M % D := Int.tmod_eq_emod_of_nonneg hx
  have HA := Lib.hid habs
  have HD := Lib.hid hd
  have HV := Lib.hid hdv
  have HP := Lib.hid hplus
  by_cases hc : D ≤ 2 * R
  · simp only [if_pos hc] at hfin ⊢
    have HS := Lib.hid hfin
    have hc2 : D - R ≤ R := by omega
    clear habs hd hdv hplus hfin D1 hc
    go_enter Try.func73, Try.ntmps73
    go_wp2_with fail
    refine (HA.out _).mono ?_; rintro e w1 ⟨rfl, hb1⟩
    have hz : w.heap.size < w1.heap.size := by have := hb1.size; simp at this; omega
    have hb1' : Below w.heap.size w w1 := Below.trans (by (repeat (first | with_reducible exact Below.refl _ _ | with_reducible apply Below.drew | (with_reducible refine below_drewN ?_ _) | (with_reducible refine Below.alloc ?_ (by (try simp) <;> omega) _) | (with_reducible refine Below.setCell ?_ (by (try simp) <;> omega) _)))) (hb1.mono (by simp))
    clear hb1
    go_wp2_with fail
    refine (HD.out _).mono ?_; rintro e w2 ⟨rfl, rfl⟩
    go_wp2_with fail
    go_quiet (fail)
    go_wp2_with fail
    refine (HV.out _).mono ?_; rintro e w3 ⟨rfl, hb3⟩
    have hz3 : w1.heap.size < w3.heap.size := by have := hb3.size; (try simp at this); omega
    go_wp2_with fail
    refine (HP.out _).mono ?_; rintro e w4 ⟨rfl, hb4⟩
    have hz4 : w3.heap.size < w4.heap.size := by have := hb4.size; (try simp at this); omega
    obtain ⟨hc4, hf4⟩ := bcell hb4
    go_wp2_with fail
    refine (HS.out _).mono ?_; rintro e w5 ⟨rfl, hb5⟩
    go_wp2_with fail
    go_ret2
    refine ⟨rfl, ?_⟩
    have hz5 : w4.heap.size ≤ w5.heap.size := by have := hb5.size; (try simp at this); omega
    (repeat (first | with_reducible exact Below.refl _ _ | with_reducible assumption | with_reducible apply Below.drew | (with_reducible refine below_drewN ?_ _) | (with_reducible refine Below.alloc ?_ (by (try simp) <;> omega) _) | (with_reducible refine Below.setCell ?_ (by (try simp) <;> omega) _) | (with_reducible refine Below.trans ?_ (Below.mono (by assumption) (by (try simp) <;> omega)))))
  · simp only [if_neg hc] at hfin ⊢
    have HS := Lib.hid hfin
    have hc2 : ¬ D - R ≤ R := by omega
    clear habs hd hdv hplus hfin D1 hc
    go_enter Try.func73, Try.ntmps73
    go_wp2_with fail
    refine (HA.out _).mono ?_; rintro e w1 ⟨rfl, hb1⟩
    have hz : w.heap.size < w1.heap.size := by have := hb1.size; simp at this; omega
    have hb1' : Below w.heap.size w w1 := Below.trans (by (repeat (first | with_reducible exact Below.refl _ _ | with_reducible apply Below.drew | (with_reducible refine below_drewN ?_ _) | (with_reducible refine Below.alloc ?_ (by (try simp) <;> omega) _) | (with_reducible refine Below.setCell ?_ (by (try simp) <;> omega) _)))) (hb1.mono (by simp))
    clear hb1
    go_wp2_with fail
    refine (HD.out _).mono ?_; rintro e w2 ⟨rfl, rfl⟩
    go_wp2_with fail
    go_quiet (fail)
    go_wp2_with fail
    refine (HV.out _).mono ?_; rintro e w3 ⟨rfl, hb3⟩
    have hz3 : w1.heap.size < w3.heap.size := by have := hb3.size; (try simp at this); omega
    go_wp2_with fail
    refine (HS.out _).mono ?_; rintro e w5 ⟨rfl, hb5⟩
    go_wp2_with fail
    go_ret2
    refine ⟨rfl, ?_⟩
    have hz5 : w3.heap.size ≤ w5.heap.size := by have := hb5.size; (try simp at this); omega
    (repeat (first | with_reducible exact Below.refl _ _ | with_reducible assumption | with_reducible apply Below.drew | (with_reducible refine below_drewN ?_ _) | (with_reducible refine Below.alloc ?_ (by (try simp) <;> omega) _) | (with_reducible refine Below.setCell ?_ (by (try simp) <;> omega) _) | (with_reducible refine Below.trans ?_ (Below.mono (by assumption) (by (try simp) <;> omega)))))
end Go.Proofs.Ytgpnopiinogkmaa
/- A region that draws its order, whose last operation (number L, a store that waits for all others) may spoil what the loads read: the condition S is asked behind every operation but that one. -/
namespace Go.Proofs.Ytgpnopiinogkmaa
open Go
section
variable {P : Program} {ops : Array Oper} {Q : Exit → Act → World → Prop} {md : Region.Mode} {S : World → Prop} {L : Nat}

/-- Whatever order is picked; S holds behind every operation that is carried out, till number L has come up. -/
def wpAnyM (P : Program) (md : Region.Mode) (ops : Array Oper) (Q : Exit → Act → World → Prop) (S : World → Prop) (L : Nat) : Nat → Array Bool → Act → World → Prop
  | 0, listed, a, w => Region.ready md ops listed = [] ∧ Q .normal a w
  | fuel + 1, listed, a, w =>
    (Region.ready md ops listed = [] → Q .normal a w) ∧
    ∀ i ∈ Region.ready md ops listed, wpOp P ops Q i (fun a' w' => ((listed.setIfInBounds i true).getD L false = true ∨ S w') ∧ wpAnyM P md ops Q S L fuel (listed.setIfInBounds i true) a' w') a w

theorem wpAny_of_M : ∀ (fuel : Nat) (listed : Array Bool) (a : Act) (w : World), wpAnyM P md ops Q S L fuel listed a w → wpAny P md ops Q fuel listed a w
  | 0, _, _, _, h => h
  | fuel + 1, _, _, _, h => ⟨h.1, fun i hi => wpOp_mono (fun a' w' h' => wpAny_of_M fuel _ a' w' h'.2) (h.2 i hi)⟩

theorem getD_of_ready {i : Nat} {listed : Array Bool} (h0 : listed.getD i true = false) (h1 : listed.getD i false = true) : False := by
  rcases Nat.lt_or_ge i listed.size with h' | h'
  · simp [h'] at h0 h1; rw [h0] at h1; cases h1
  · simp [Array.getElem?_eq_none h'] at h1

theorem getD_set_ne' {listed : Array Bool} {i L : Nat} (b : Bool) (h : i ≠ L) : (listed.setIfInBounds i true).getD L b = listed.getD L b := getD_set_ne b h

/-- G: in the worlds in which number i is known to yield. -/
theorem wpAnyM_first {G : World → Prop} {i : Nat} {oi : Oper} {v : Value} (hi : ops[i]? = some oi) (hsel : ∀ (j : Nat) (o : Oper) cs b, ops[j]? = some o → o.op ≠ .select cs b)
    (hQ : ∀ c a w, Q (.panic c) (a.put oi.dst v) w → Q (.panic c) a w) (hiL : i ≠ L)
    (hG : (Region.waitsFor md ops L i = true ∧ ∀ w, S w → G w) ∨ ∀ w, G w) :
    ∀ (fuel : Nat) (listed : Array Bool) (a : Act) (w : World), (Region.waitsFor md ops L i = true → listed.getD L false = false) →
      (∀ j oj, ops[j]? = some oj → j ≠ i → listed.getD j true = false → (∀ e ∈ oj.after, Region.binds md e = true → e.on ≠ i) → oi.apart ops oj = true) →
      i ∈ Region.ready md ops listed → YieldsIf P ops G oi v a → G w → (listed.getD L false = true ∨ S w) →
      wpAnyM P md ops Q S L fuel (listed.setIfInBounds i true) (a.put oi.dst v) w → wpAnyM P md ops Q S L (fuel + 1) listed a w := by
  intro fuel
  induction fuel with
  | zero =>
    intro listed a w _ _ hr hy hGw hS H
    refine ⟨fun h => (by rw [h] at hr; cases hr), fun j hj => ?_⟩
    by_cases hji : j = i
    · subst hji; exact hy.wpOp hi hGw ⟨hS.imp (fun h => by rw [getD_set_ne' _ hiL]; exact h) id, H⟩
    · have := ready_mono hj hji
      rw [H.1] at this
      cases this
  | succ fuel ih =>
    intro listed a w hLw hfree hr hy hGw hS H
    refine ⟨fun h => (by rw [h] at hr; cases hr), fun j hj => ?_⟩
    by_cases hji : j = i
    · subst hji; exact hy.wpOp hi hGw ⟨hS.imp (fun h => by rw [getD_set_ne' _ hiL]; exact h) id, H⟩
    · have h1 := H.2 j (ready_mono hj hji)
      obtain ⟨hjun, oj, hoj, hall⟩ := mem_ready.1 hj
      have hiun := (mem_ready.1 hr).1
      have hnot : ∀ e ∈ oj.after, Region.binds md e = true → e.on ≠ i := fun e he hb heq => by
        have h2 := hall e he hb
        rw [heq] at h2
        exact getD_of_ready hiun h2
      have hjL : Region.waitsFor md ops L i = true → j ≠ L := fun hL e => by
        subst e
        obtain ⟨oL, hoL, e, he, hb, hon⟩ := Region.waitsFor_spec hL
        have : oL = oj := Option.some.inj (hoL.symm.trans hoj)
        subst this
        exact hnot e he hb hon
      have h2 := wpOp_putIf hoj (hfree j oj hoj hji hjun hnot) (fun cs b => hsel i oi cs b hi) (fun cs b => hsel j oj cs b hoj) hQ hy h1
      have hfree' : ∀ k ok, ops[k]? = some ok → k ≠ i → (listed.setIfInBounds j true).getD k true = false →
          (∀ e ∈ ok.after, Region.binds md e = true → e.on ≠ i) → oi.apart ops ok = true := fun k ok hk hki hun hno => by
        refine hfree k ok hk hki ?_ hno
        by_cases hjk : j = k
        · subst hjk; exact hjun
        · rw [getD_set_ne true hjk] at hun; exact hun
      refine wpOp_mono (fun a' w' h3 => ?_) h2
      have hS' : (listed.setIfInBounds j true).getD L false = true ∨ S w' := by
        refine h3.2.1.imp (fun h => ?_) id
        rw [Array.setIfInBounds_comm _ _ (Ne.symm hji), getD_set_ne' _ hiL] at h
        exact h
      have hL' : Region.waitsFor md ops L i = true → (listed.setIfInBounds j true).getD L false = false := fun hL => by
        rw [getD_set_ne' _ (hjL hL)]; exact hLw hL
      have hG' : G w' := by
        rcases hG with ⟨hL, hSG⟩ | hG
        · refine hSG w' (hS'.resolve_left fun h => ?_)
          rw [hL' hL] at h; cases h
        · exact hG w'
      refine ⟨hS', ih (listed.setIfInBounds j true) a' w' hL' hfree' (ready_mono hr (Ne.symm hji)) h3.1 hG' hS' ?_⟩
      rw [Array.setIfInBounds_comm _ _ hji]
      exact h3.2.2

/-- Take number i first, number L waiting for it. -/
theorem wpAnyM_take (i : Nat) {oi : Oper} {v : Value} {fuel : Nat} {listed : Array Bool} {a : Act} {w : World} (hi' : ops.toList[i]? = some oi)
    (hk : (Region.noSelect ops && (Region.free md ops listed i && ((Region.ready md ops listed).contains i && (Region.waitsFor md ops L i && (!listed.getD L false && !(i == L)))))) = true)
    (hQ : ∀ c a w, Q (.panic c) (a.put oi.dst v) w → Q (.panic c) a w) (hy : YieldsIf P ops S oi v a) (hS : S w)
    (h : wpAnyM P md ops Q S L fuel (listed.setIfInBounds i true) (a.put oi.dst v) w) : wpAnyM P md ops Q S L (fuel + 1) listed a w := by
  have hi : ops[i]? = some oi := by rwa [Array.getElem?_toList] at hi'
  simp only [Bool.and_eq_true, Bool.not_eq_true'] at hk
  obtain ⟨k1, k2, k3, k4, k5, k6⟩ := hk
  exact wpAnyM_first hi (Region.noSelect_spec k1) hQ (by simpa using k6) (.inl ⟨k4, fun _ h => h⟩) fuel listed a w (fun _ => k5) (Region.free_spec hi k2) (by simpa using k3) hy hS (.inr hS) h

/-- Take number i first: it yields in whatever world. -/
theorem wpAnyM_takeW (i : Nat) {oi : Oper} {v : Value} {fuel : Nat} {listed : Array Bool} {a : Act} {w : World} (hi' : ops.toList[i]? = some oi)
    (hk : (Region.noSelect ops && (Region.free md ops listed i && ((Region.ready md ops listed).contains i && (!Region.waitsFor md ops L i && !(i == L))))) = true)
    (hQ : ∀ c a w, Q (.panic c) (a.put oi.dst v) w → Q (.panic c) a w) (hy : YieldsIf P ops (fun _ => True) oi v a) (hS : listed.getD L false = true ∨ S w)
    (h : wpAnyM P md ops Q S L fuel (listed.setIfInBounds i true) (a.put oi.dst v) w) : wpAnyM P md ops Q S L (fuel + 1) listed a w := by
  have hi : ops[i]? = some oi := by rwa [Array.getElem?_toList] at hi'
  simp only [Bool.and_eq_true, Bool.not_eq_true'] at hk
  obtain ⟨k1, k2, k3, k4, k6⟩ := hk
  exact wpAnyM_first hi (Region.noSelect_spec k1) hQ (by simpa using k6) (.inr fun _ => trivial) fuel listed a w (fun h => by rw [k4] at h; cases h) (Region.free_spec hi k2) (by simpa using k3) hy trivial hS h

/-- Number i alone may come up. -/
theorem wpAnyM_one (i : Nat) {o : Oper} {fuel : Nat} {listed : Array Bool} {a : Act} {w : World} (ho' : ops.toList[i]? = some o) (hr : Region.ready md ops listed = [i])
    (h : ∀ K : Act → World → Prop, Shut (∀ a w, ((listed.setIfInBounds i true).getD L false = true ∨ S w) → (((listed.setIfInBounds i true).getD L false = true ∨ S w) → wpAnyM P md ops Q S L fuel (listed.setIfInBounds i true) a w) → K a w) →
      if Region.wanted o (yielded ops a.tmps) = true then Oper.wp P o a w K Q else K (a.put o.dst undef) w) :
    wpAnyM P md ops Q S L (fuel + 1) listed a w := by
  have ho : ops[i]? = some o := by rwa [Array.getElem?_toList] at ho'
  refine ⟨fun h0 => (by rw [hr] at h0; cases h0), fun j hj => ?_⟩
  rw [hr] at hj
  obtain rfl : j = i := by simpa using hj
  exact wpOp_step ho (fun K' hK => h K' (fun a w hS hW => hK a w ⟨hS, hW hS⟩))

/-- Number i alone may come up; S holds behind it. -/
theorem wpAnyM_oneS (i : Nat) {o : Oper} {fuel : Nat} {listed : Array Bool} {a : Act} {w : World} (ho' : ops.toList[i]? = some o) (hr : Region.ready md ops listed = [i])
    (h : ∀ K : Act → World → Prop, Shut (∀ a w, S w → (S w → wpAnyM P md ops Q S L fuel (listed.setIfInBounds i true) a w) → K a w) →
      if Region.wanted o (yielded ops a.tmps) = true then Oper.wp P o a w K Q else K (a.put o.dst undef) w) :
    wpAnyM P md ops Q S L (fuel + 1) listed a w :=
  wpAnyM_one i ho' hr fun K hK => h K fun a w hS hM => hK a w (.inr hS) fun _ => hM hS

/-- All have come up. -/
theorem wpAnyM_done {listed : Array Bool} {a : Act} {w : World} (hr : Region.ready md ops listed = []) (h : Q .normal a w) : ∀ fuel, wpAnyM P md ops Q S L fuel listed a w
  | 0 => ⟨hr, h⟩
  | _ + 1 => ⟨fun _ => h, by rw [hr]; simp⟩

/-- The beginning. -/
theorem wp_region_M (S : World → Prop) (L : Nat) {id : Nat} {a : Act} {w : World} (hm : P.follows .mixedOrders = true) (hS : S w.drew)
    (h : S w.drew → wpAnyM P .any ops Q S L ops.size (Array.replicate ops.size false) a w.drew) : (Code.region id ops true).wp P Q a w :=
  wp_region_any hm (wpAny_of_M _ _ _ _ (h hS))
end
theorem two_cells {w : World} {b : Nat} {u0 u1 : Value} (h0 : w.cell? ⟨b, 0, none⟩ = some u0) (h1 : w.cell? ⟨b, 1, none⟩ = some u1) (v0 v1 : Value) :
    ((w.setCell ⟨b, 0, none⟩ v0).setCell ⟨b, 1, none⟩ v1).cell? ⟨b, 0, none⟩ = some v0 ∧ ((w.setCell ⟨b, 0, none⟩ v0).setCell ⟨b, 1, none⟩ v1).cell? ⟨b, 1, none⟩ = some v1 := by
  have n : (⟨b, 0, none⟩ : Addr) ≠ ⟨b, 1, none⟩ := by intro e; simp at e
  have k1 : (w.setCell ⟨b, 0, none⟩ v0).cell? ⟨b, 1, none⟩ = some u1 := (World.cell?_setCell_other _ _ _ _ n).trans h1
  exact ⟨(World.cell?_setCell_other _ _ _ _ (Ne.symm n)).trans (World.cell?_setCell_same _ _ _ h0), World.cell?_setCell_same _ _ _ k1⟩
end Go.Proofs.Ytgpnopiinogkmaa
/- Contracts of package wide (8): less, minus, Root. -/
namespace Go.Proofs.Ytgpnopiinogkmaa
open Go.RowKit
set_option maxRecDepth 100000
theorem sub64 (x y b : Nat) (hb : b ≤ 1) (w : World) : (callFunc 90 #[.int .u64 x, .int .u64 y, .int .u64 b]).run Try.prog w =
    .ok (.value (.tuple #[.int .u64 (((x + 18446744073709551616 - y - b) % 18446744073709551616 : Nat) : Int), .int .u64 ((if x < y + b then 1 else 0 : Nat) : Int)])) w := by
  rw [run_callFunc_extern Try.func90 (by kernel_rfl) (by kernel_rfl) (by kernel_rfl) (e := sub64Entry) (by kernel_rfl), run_sub64 x y b hb]
  rfl
/-- Sub64 at whole numbers: what is taken away may be greater. -/
theorem sub64_int (x y b : Int) (x0 : 0 ≤ x) (y0 : 0 ≤ y) (y1 : y < 18446744073709551616) (b0 : 0 ≤ b) (b1 : b ≤ 1) (w : World) : (callFunc 90 #[.int .u64 x, .int .u64 y, .int .u64 b]).run Try.prog w =
    .ok (.value (.tuple #[.int .u64 ((x - y - b) % 18446744073709551616), .int .u64 (if x < y + b then 1 else 0)])) w := by
  obtain ⟨x, rfl⟩ := Int.eq_ofNat_of_zero_le x0
  obtain ⟨y, rfl⟩ := Int.eq_ofNat_of_zero_le y0
  obtain ⟨b, rfl⟩ := Int.eq_ofNat_of_zero_le b0
  rw [sub64 x y b (by omega)]
  have e1 : (((x + 18446744073709551616 - y - b) % 18446744073709551616 : Nat) : Int) = ((x : Int) - y - b) % 18446744073709551616 := by omega
  have e2 : ((if x < y + b then 1 else 0 : Nat) : Int) = if (x : Int) < y + b then 1 else 0 := by
    by_cases h : x < y + b
    · rw [if_pos h, if_pos (by omega)]; rfl
    · rw [if_neg h, if_neg (by omega)]; rfl
  rw [e1, e2]
theorem less_walk (x y u v : Int) (w : World) (r : Bool) (hr : (decide (x < u) || ((x == u) && decide (y < v))) = r) :
    Calls Try.prog 86 #[.agg #[.int .u64 x, .int .u64 y], .agg #[.int .u64 u, .int .u64 v]] w fun e w' =>
      e = .returned (.bool r) ∧ Below w.heap.size w w' := by
  by_cases h1 : x < u
  · have d1 : decide (x < u) = true := by simpa using h1
    rw [d1, Bool.true_or] at hr
    subst hr
    go_enter Try.func86, Try.ntmps86
    go_wp2_with fail
    go_ret
    refine ⟨rfl, ?_⟩
    (repeat (first | with_reducible exact Below.refl _ _ | with_reducible apply Below.drew | (with_reducible refine below_drewN ?_ _) | (with_reducible refine Below.alloc ?_ (by (try simp) <;> omega) _) | (with_reducible refine Below.setCell ?_ (by (try simp) <;> omega) _)))
  · have d1 : decide (x < u) = false := by simpa using h1
    by_cases h2 : x = u
    · subst h2
      by_cases h3 : y < v
      · have d3 : decide (y < v) = true := by simpa using h3
        rw [d1, d3, show (x == x) = true by simp] at hr
        subst hr
        go_enter Try.func86, Try.ntmps86
        go_wp2_with fail
        go_ret
        refine ⟨rfl, ?_⟩
        (repeat (first | with_reducible exact Below.refl _ _ | with_reducible apply Below.drew | (with_reducible refine below_drewN ?_ _) | (with_reducible refine Below.alloc ?_ (by (try simp) <;> omega) _) | (with_reducible refine Below.setCell ?_ (by (try simp) <;> omega) _)))
      · have d3 : decide (y < v) = false := by simpa using h3
        rw [d1, d3, show (x == x) = true by simp] at hr
        subst hr
        go_enter Try.func86, Try.ntmps86
        go_wp2_with fail
        go_ret
        refine ⟨rfl, ?_⟩
        (repeat (first | with_reducible exact Below.refl _ _ | with_reducible apply Below.drew | (with_reducible refine below_drewN ?_ _) | (with_reducible refine Below.alloc ?_ (by (try simp) <;> omega) _) | (with_reducible refine Below.setCell ?_ (by (try simp) <;> omega) _)))
    · have d2 : (x == u) = false := by simpa using h2
      rw [d1, d2] at hr
      subst hr
      go_enter Try.func86, Try.ntmps86
      go_wp2_with fail
      go_ret
      refine ⟨rfl, ?_⟩
      (repeat (first | with_reducible exact Below.refl _ _ | with_reducible apply Below.drew | (with_reducible refine below_drewN ?_ _) | (with_reducible refine Below.alloc ?_ (by (try simp) <;> omega) _) | (with_reducible refine Below.setCell ?_ (by (try simp) <;> omega) _)))
theorem less_any (M N : Int) (w : World) :
    Calls Try.prog 86 #[.agg #[.int .u64 (hi64 M), .int .u64 (lo64 M)], .agg #[.int .u64 (hi64 N), .int .u64 (lo64 N)]] w fun e w' =>
      e = .returned (.bool (decide (M < N))) ∧ Below w.heap.size w w' :=
  less_walk _ _ _ _ w _ (by rw [Bool.eq_iff_iff]; simp; unfold hi64 lo64; omega)
theorem minus_any (M N S : Int) (w : World) (m0 : 0 ≤ M) (m1 : M < 340282366920938463463374607431768211456) (n0 : 0 ≤ N) (hS : M - N = S) (s0 : 0 ≤ S) :
    Calls Try.prog 87 #[.agg #[.int .u64 (hi64 M), .int .u64 (lo64 M)], .agg #[.int .u64 (hi64 N), .int .u64 (lo64 N)]] w fun e w' =>
      e = .returned (.agg #[.int .u64 (hi64 S), .int .u64 (lo64 S)]) ∧ Below w.heap.size w w' := by
  have bM := bits_hl m0 m1
  have bN := bits_hl (M := N) n0 (by omega)
  obtain ⟨br, hbr⟩ : ∃ br : Int, (if lo64 M < lo64 N + 0 then 1 else 0) = br := ⟨_, rfl⟩
  have b01 : 0 ≤ br ∧ br ≤ 1 := by rw [← hbr]; split <;> omega
  have a1 := fun w => sub64_int (lo64 M) (lo64 N) 0 bM.2.2.1 bN.2.2.1 bN.2.2.2 (by decide) (by decide) w
  have a2 := fun w => sub64_int (hi64 M) (hi64 N) br bM.1 bN.1 bN.2.1 b01.1 b01.2 w
  rw [hbr] at a1
  have r1 : (lo64 M - lo64 N - 0) % 18446744073709551616 = lo64 S := by unfold lo64; omega
  have r2 : (hi64 M - hi64 N - br) % 18446744073709551616 = hi64 S := by
    rw [← hbr]; unfold hi64 lo64; split <;> omega
  rw [r1] at a1
  rw [r2] at a2
  obtain ⟨b2, hb2⟩ : ∃ b2 : Int, (if hi64 M < hi64 N + br then 1 else 0) = b2 := ⟨_, rfl⟩
  rw [hb2] at a2
  clear hb2 r1 r2 hbr b01 bM bN hS m0 m1 n0 s0
  go_enter Try.func87, Try.ntmps87
  go_wp2_with fail
  simp [bodyPost, results, Try.results87, go_sem]
  (repeat (first | with_reducible exact Below.refl _ _ | with_reducible apply Below.drew | (with_reducible refine below_drewN ?_ _) | (with_reducible refine Below.alloc ?_ (by (try simp) <;> omega) _) | (with_reducible refine Below.setCell ?_ (by (try simp) <;> omega) _)))
/-- Block b holds a size of 128 bits. -/
def Big (w : World) (b : Nat) (x : Int) : Prop := w.heap[b]? = some (.cells #[.int .u64 (hi64 x), .int .u64 (lo64 x)] 93 (0, 0))
theorem Big.c0 {w : World} {b : Nat} {x : Int} (h : Big w b x) : w.cell? ⟨b, 0, none⟩ = some (.int .u64 (hi64 x)) := by rw [cell_of_row w b 0 _ _ _ h]; rfl
theorem Big.c1 {w : World} {b : Nat} {x : Int} (h : Big w b x) : w.cell? ⟨b, 1, none⟩ = some (.int .u64 (lo64 x)) := by rw [cell_of_row w b 1 _ _ _ h]; rfl
theorem Big.free {w : World} {b : Nat} {x : Int} (h : Big w b x) (i : Nat) : w.frozen? ⟨b, i, none⟩ = false := frozen_of_row w b i _ _ h
theorem Big.lt {w : World} {b : Nat} {x : Int} (h : Big w b x) : b < w.heap.size := World.block_lt_of_cell? w _ h.c0
theorem Big.below {w w' : World} {b : Nat} {x : Int} (h : Big w b x) (hb : Below w.heap.size w w') : Big w' b x := (hb.block b h.lt).trans h
theorem Big.alloc {w : World} {b : Nat} {x : Int} (h : Big w b x) (o : Obj) : Big (w.alloc o) b x := h.below ((Below.refl w.heap.size w).alloc (Nat.le_refl _) o)
theorem Big.new (w : World) (x : Int) : Big (w.alloc (.cells #[.int .u64 (hi64 x), .int .u64 (lo64 x)] 93)) w.heap.size x := heap_alloc_new w _
theorem Big.other {w : World} {b : Nat} {x : Int} (h : Big w b x) {a : Addr} (ha : b ≠ a.block) (v : Value) : Big (w.setCell a v) b x := (heap_setCell_other w a b v ha).trans h
theorem Big.set {w : World} {b : Nat} {x : Int} (h : Big w b x) (y : Int) : Big ((w.setCell ⟨b, 0, none⟩ (.int .u64 (hi64 y))).setCell ⟨b, 1, none⟩ (.int .u64 (lo64 y))) b y := by
  have h1 := heap_setCell_same w b 0 _ _ (.int .u64 (hi64 y)) h
  exact heap_setCell_same _ b 1 _ _ (.int .u64 (lo64 y)) h1
structure RootR (ρ r : Int) (w wr : World) : Prop where
  below : Below w.heap.size w wr
  e : Big wr (w.heap.size + 1) ρ
  r : Big wr (w.heap.size + 1 + 1) r
theorem RootR.bel {ρ r : Int} {w wr w' : World} (s : RootR ρ r w wr) (b : Below wr.heap.size wr w') : RootR ρ r w w' := ⟨Below.after s.below b, s.e.below b, s.r.below b⟩
theorem RootR.setE {ρ r : Int} {w wr : World} (s : RootR ρ r w wr) (y : Int) : RootR y r w ((wr.setCell ⟨w.heap.size + 1, 0, none⟩ (.int .u64 (hi64 y))).setCell ⟨w.heap.size + 1, 1, none⟩ (.int .u64 (lo64 y))) :=
  ⟨(s.below.setCell (by simp) _).setCell (by simp) _, s.e.set y, (s.r.other (by simp) _).other (by simp) _⟩
theorem RootR.setR {ρ r : Int} {w wr : World} (s : RootR ρ r w wr) (y : Int) : RootR ρ y w ((wr.setCell ⟨w.heap.size + 1 + 1, 0, none⟩ (.int .u64 (hi64 y))).setCell ⟨w.heap.size + 1 + 1, 1, none⟩ (.int .u64 (lo64 y))) :=
  ⟨(s.below.setCell (by simp; omega) _).setCell (by simp; omega) _, (s.e.other (by simp) _).other (by simp) _, s.r.set y⟩
theorem RootR.facts {ρ r : Int} {w wr : World} (s : RootR ρ r w wr) : (wr.cell? ⟨w.heap.size + 1, 0, none⟩ = some (.int .u64 (hi64 ρ)) ∧ wr.cell? ⟨w.heap.size + 1, 1, none⟩ = some (.int .u64 (lo64 ρ))) ∧
    (wr.cell? ⟨w.heap.size + 1 + 1, 0, none⟩ = some (.int .u64 (hi64 r)) ∧ wr.cell? ⟨w.heap.size + 1 + 1, 1, none⟩ = some (.int .u64 (lo64 r))) ∧
    (wr.frozen? ⟨w.heap.size + 1, 0, none⟩ = false ∧ wr.frozen? ⟨w.heap.size + 1, 1, none⟩ = false) ∧ (wr.frozen? ⟨w.heap.size + 1 + 1, 0, none⟩ = false ∧ wr.frozen? ⟨w.heap.size + 1 + 1, 1, none⟩ = false) ∧ w.heap.size + 1 + 1 < wr.heap.size :=
  ⟨⟨s.e.c0, s.e.c1⟩, ⟨s.r.c0, s.r.c1⟩, ⟨s.e.free _, s.e.free _⟩, ⟨s.r.free _, s.r.free _⟩, s.r.lt⟩
theorem big_facts {w : World} {b : Nat} {x : Int} (h : Big w b x) : w.cell? ⟨b, 0, none⟩ = some (.int .u64 (hi64 x)) ∧ w.cell? ⟨b, 1, none⟩ = some (.int .u64 (lo64 x)) ∧ b < w.heap.size := ⟨h.c0, h.c1, h.lt⟩
theorem rootT_yes {ρ r q : Nat} (h : ρ < r + q) {k : Nat} (hq : q = 4 ^ k) : rootT (ρ, r) k = (ρ, r / 2) := by
  unfold rootT; rw [← hq]; exact if_pos h
theorem rootT_no {ρ r q : Nat} (h : ¬ ρ < r + q) {k : Nat} (hq : q = 4 ^ k) : rootT (ρ, r) k = (ρ - (r + q), r / 2 + q) := by
  unfold rootT; rw [← hq]; exact if_neg h
set_option maxHeartbeats 8000000 in
theorem wroot_any (A : Int) (w : World) (a0 : 0 ≤ A) (a1 : A < 170141183460469231731687303715884105728) :
    Calls Try.prog 80 #[.agg #[.int .i64 (hi64 A), .int .u64 (lo64 A)]] w fun e w' =>
      e = .returned (.tuple #[.int .i64 (r64V (rootV A.toNat : Nat)), .bool (r64F (rootV A.toNat : Nat))]) ∧ Below w.heap.size w w' := by
  have p127 : (2 : Nat) ^ 127 = 170141183460469231731687303715884105728 := by decide
  have p128 : (2 : Nat) ^ 128 = 340282366920938463463374607431768211456 := by decide
  obtain ⟨N, rfl⟩ := Int.eq_ofNat_of_zero_le a0
  rw [Int.toNat_natCast]
  have HN : Hid (N < 2 ^ 127) := Lib.hid (by omega)
  have d0 : decide (hi64 (N : Int) < 0) = false := by unfold hi64; simp; omega
  have u1 : IntKind.u64.wrap (hi64 (N : Int)) = hi64 (N : Int) := by rw [IntKind.wrap_u64]; unfold hi64; omega
  have P127 := Lib.hid p127
  have P128 := Lib.hid p128
  clear p127 p128 a0 a1
  go_enter Try.func80, Try.ntmps80
  go_wp2_with fail
  go_loopw [6] (fun i wr => ∃ n : Nat, n ≤ 64 ∧ i = .int .i64 (126 - 2 * (n : Int)) ∧ Hid (RootR ((rootS N n).1 : Nat) ((rootS N n).2 : Nat) w wr)) (fun i _ => (intOf i + 2).toNat)
  case atStart =>
    refine ⟨0, by omega, rfl, ⟨by (repeat (first | with_reducible exact Below.refl _ _ | with_reducible apply Below.drew | (with_reducible refine below_drewN ?_ _) | (with_reducible refine Below.alloc ?_ (by (try simp) <;> omega) _) | (with_reducible refine Below.setCell ?_ (by (try simp) <;> omega) _))), ?_, ?_⟩⟩
    · have h := (Big.new (w.alloc (.cells #[.int .i64 (hi64 (N : Int)), .int .u64 (lo64 (N : Int))] 72)) (N : Int)).alloc (.cells #[.int .u64 0, .int .u64 0] 93)
      rwa [show (w.alloc (.cells #[.int .i64 (hi64 (N : Int)), .int .u64 (lo64 (N : Int))] 72)).heap.size = w.heap.size + 1 from by simp] at h
    · have h := Big.new ((w.alloc (.cells #[.int .i64 (hi64 (N : Int)), .int .u64 (lo64 (N : Int))] 72)).alloc (.cells #[.int .u64 (hi64 (N : Int)), .int .u64 (lo64 (N : Int))] 93)) 0
      rwa [show ((w.alloc (.cells #[.int .i64 (hi64 (N : Int)), .int .u64 (lo64 (N : Int))] 72)).alloc (.cells #[.int .u64 (hi64 (N : Int)), .int .u64 (lo64 (N : Int))] 93)).heap.size = w.heap.size + 1 + 1 from by simp] at h
  case round =>
    obtain ⟨n, hn, rfl, R⟩ := hrel
    by_cases hlt : n < 64
    · obtain ⟨b1, b2, b3⟩ := rootS_bd N HN.out n hlt
      have hst : rootS N (n + 1) = rootT (rootS N n) (63 - n) := rfl
      obtain ⟨q, hq⟩ : ∃ q : Nat, 4 ^ (63 - n) = q := ⟨_, rfl⟩
      obtain ⟨ρ, hρ⟩ : ∃ ρ : Nat, (rootS N n).1 = ρ := ⟨_, rfl⟩
      obtain ⟨r, hr⟩ : ∃ r : Nat, (rootS N n).2 = r := ⟨_, rfl⟩
      rw [show rootS N n = (ρ, r) from by rw [← hρ, ← hr]] at hst
      rw [hρ, hr] at R
      rw [hq, hr] at b2
      rw [hρ] at b1
      rw [hr] at b3
      have hsh : (1 : Int) * 2 ^ (126 - 2 * (n : Int)).toNat = (q : Int) := by
        rw [show (126 - 2 * (n : Int)).toNat = 2 * (63 - n) from by omega, Int.one_mul, ← hq, Int.pow_mul]; simp
      obtain ⟨r2, hr2⟩ : ∃ r2 : Nat, r / 2 = r2 := ⟨_, rfl⟩
      obtain ⟨ρ2, hρ2⟩ : ∃ ρ2 : Nat, ρ - (r + q) = ρ2 := ⟨_, rfl⟩
      obtain ⟨r3, hr3⟩ : ∃ r3 : Nat, r2 + q = r3 := ⟨_, rfl⟩
      have hhalf : (r : Int) / 2 ^ (1 : Int).toNat = (r2 : Int) := by rw [← hr2]; simp
      have b6 : r3 < 340282366920938463463374607431768211456 ∧ r2 ≤ r3 := by have := P128.out; omega
      have HR2 := Lib.hid hr2
      have HP2 := Lib.hid hρ2
      have HR3 := Lib.hid hr3
      have HSH := Lib.hid hsh
      have HHF := Lib.hid hhalf
      have HQ := Lib.hid hq
      have HST := Lib.hid hst
      have b4 : ρ < 170141183460469231731687303715884105728 := by have := P127.out; omega
      have b5 : r + q < 340282366920938463463374607431768211456 := by have := P128.out; omega
      have g0 : decide (0 ≤ 126 - 2 * (n : Int)) = true := by simp; omega
      clear hρ hr hq hst hsh hhalf b1 b2 b3 d0 u1 hr2 hρ2 hr3
      obtain ⟨⟨e0, e1⟩, ⟨r0, r1⟩, ⟨fe0, fe1⟩, ⟨fr0, fr1⟩, hsz⟩ := R.out.facts
      go_wp2_with fail
      refine (shl_any 1 (126 - 2 * (n : Int)) q _ (by decide) (by decide) (by omega) (by omega) HSH.out (by omega)).mono ?_; rintro e w1 ⟨rfl, hb1⟩
      have R1 := Lib.hid ((R.out.bel hb1).bel ((Below.refl w1.heap.size w1).alloc (Nat.le_refl _) (.cells #[.int .u64 (hi64 (q : Int)), .int .u64 (lo64 (q : Int))] 93)))
      have Q1 := Lib.hid (Big.new w1 (q : Int))
      have hqn : Hid (w1.heap.size ≠ w.heap.size + 1 + 1) := Lib.hid (by have := hb1.size; omega)
      have hne : Hid (w1.heap.size ≠ w.heap.size + 1) := Lib.hid (by have := hb1.size; omega)
      clear hb1 R e0 e1 r0 r1 fe0 fe1 fr0 fr1
      obtain ⟨⟨e0, e1⟩, ⟨r0, r1⟩, ⟨fe0, fe1⟩, ⟨fr0, fr1⟩, hsz⟩ := R1.out.facts
      obtain ⟨q0, q1, qz⟩ := big_facts Q1.out
      go_upto_region 8 with fail
      obtain ⟨bq, hbq⟩ : ∃ bq, w1.heap.size = bq := ⟨_, rfl⟩
      rw [hbq] at Q1 q0 q1 qz hqn hne ⊢
      generalize w1.alloc (.cells #[.int .u64 (hi64 (q : Int)), .int .u64 (lo64 (q : Int))] 93) = W1 at *
      clear hbq
      have kr := bits_hl (M := (r : Int)) (by omega) (by omega)
      have kq := bits_hl (M := (q : Int)) (by omega) (by omega)
      have lr := hilo (r : Int)
      have lq := hilo (q : Int)
      have PL := Lib.hid (fun w => plus_any _ _ _ _ ((r : Int) + q) w kr.1 kr.2.2.1 kr.2.2.2 kq.1 kq.2.2.1 kq.2.2.2 (by omega) (by omega))
      have SR := Lib.hid (fun w => shr_any _ _ 1 (r : Int) (r2 : Int) w kr.1 kr.2.1 kr.2.2.1 kr.2.2.2 (by decide) (by decide) lr HHF.out)
      clear kr kq lr lq
      go_wp2_with fail
      refine (PL.out _).mono ?_; rintro e w2 ⟨rfl, hb2⟩
      have R2 := Lib.hid ((R1.out.bel hb2).bel ((Below.refl w2.heap.size w2).alloc (Nat.le_refl _) (.cells #[.int .u64 (hi64 ((r : Int) + q)), .int .u64 (lo64 ((r : Int) + q))] 93)))
      have Q2 := Lib.hid ((Q1.out.below hb2).alloc (.cells #[.int .u64 (hi64 ((r : Int) + q)), .int .u64 (lo64 ((r : Int) + q))] 93))
      have X2 := Lib.hid (Big.new w2 ((r : Int) + q))
      have hxn : Hid (w2.heap.size ≠ w.heap.size + 1 + 1) := Lib.hid (by have := hb2.size; omega)
      clear hb2 R1 Q1 e0 e1 r0 r1 fe0 fe1 fr0 fr1 q0 q1 qz hsz
      obtain ⟨⟨e0, e1⟩, ⟨r0, r1⟩, ⟨fe0, fe1⟩, ⟨fr0, fr1⟩, hsz⟩ := R2.out.facts
      obtain ⟨q0, q1, qz⟩ := big_facts Q2.out
      obtain ⟨x0, x1, xz⟩ := big_facts X2.out
      go_upto_region 9 with fail
      obtain ⟨bx, hbx⟩ : ∃ bx, w2.heap.size = bx := ⟨_, rfl⟩
      rw [hbx] at X2 x0 x1 xz hxn ⊢
      generalize w2.alloc (.cells #[.int .u64 (hi64 ((r : Int) + q)), .int .u64 (lo64 ((r : Int) + q))] 93) = W2 at *
      clear hbx
      go_wp2_with fail
      refine (SR.out _).mono ?_; rintro e w3 ⟨rfl, hb3⟩
      have R3' := R2.out.bel hb3
      have R3 := Lib.hid (R3'.setR (r2 : Int))
      have hq3 := hqn.out
      have hx3 := hxn.out
      have Q3 := Lib.hid (((Q2.out.below hb3).other (a := ⟨w.heap.size + 1 + 1, 0, none⟩) hq3 (.int .u64 (hi64 (r2 : Int)))).other (a := ⟨w.heap.size + 1 + 1, 1, none⟩) hq3 (.int .u64 (lo64 (r2 : Int))))
      have X3 := Lib.hid (((X2.out.below hb3).other (a := ⟨w.heap.size + 1 + 1, 0, none⟩) hx3 (.int .u64 (hi64 (r2 : Int)))).other (a := ⟨w.heap.size + 1 + 1, 1, none⟩) hx3 (.int .u64 (lo64 (r2 : Int))))
      clear e0 e1 r0 r1 fe0 fe1 fr0 fr1 q0 q1 qz hsz x0 x1 xz
      obtain ⟨⟨e0, e1⟩, ⟨r0, r1⟩, ⟨fe0, fe1⟩, ⟨fr0, fr1⟩, hsz⟩ := R3'.facts
      clear hb3 R2 Q2 X2 R3' PL SR
      go_upto_region 10 with fail
      generalize (w3.setCell ⟨w.heap.size + 1 + 1, 0, none⟩ (.int .u64 (hi64 (r2 : Int)))).setCell ⟨w.heap.size + 1 + 1, 1, none⟩ (.int .u64 (lo64 (r2 : Int))) = W3 at *
      clear e0 e1 r0 r1 fe0 fe1 fr0 fr1 hsz
      obtain ⟨⟨e0, e1⟩, ⟨r0, r1⟩, ⟨fe0, fe1⟩, ⟨fr0, fr1⟩, hsz⟩ := R3.out.facts
      obtain ⟨q0, q1, qz⟩ := big_facts Q3.out
      obtain ⟨x0, x1, xz⟩ := big_facts X3.out
      have kz : (((r + q : Nat) : Int)) = (r : Int) + q := by omega
      by_cases hd : ρ < r + q
      · have d1 : decide ((ρ : Int) < (r : Int) + q) = true := by simp; omega
        have HT := Lib.hid (rootT_yes hd HQ.out.symm)
        clear kz hd
        go_wp2_with fail
        refine (less_any (ρ : Int) ((r : Int) + q) _).mono ?_; rintro e w4 ⟨rfl, hb4⟩
        have R4 := Lib.hid (R3.out.bel hb4)
        clear hb4 e0 e1 r0 r1 fe0 fe1 fr0 fr1 hsz q0 q1 qz x0 x1 xz
        go_wp2_with fail
        go_roundw
        case rel =>
          refine ⟨n + 1, by omega, by congr 1; omega, ?_⟩
          rw [HST.out, HT.out, HR2.out]
          exact R4.out
        case measure => simp [intOf]; omega
      · have d1 : decide ((ρ : Int) < (r : Int) + q) = false := by simp; omega
        have HT := Lib.hid (rootT_no hd HQ.out.symm)
        have hs : (ρ : Int) - ((r : Int) + q) = (ρ2 : Int) := by have := HP2.out; omega
        have MN := Lib.hid (fun w => minus_any (ρ : Int) ((r : Int) + q) _ w (by omega) (by omega) (by omega) hs (by omega))
        have kr := bits_hl (M := (r2 : Int)) (by omega) (by omega)
        have kq := bits_hl (M := (q : Int)) (by omega) (by omega)
        have lr := hilo (r2 : Int)
        have lq := hilo (q : Int)
        have PL := Lib.hid (fun w => plus_any _ _ _ _ (r3 : Int) w kr.1 kr.2.2.1 kr.2.2.2 kq.1 kq.2.2.1 kq.2.2.2 (by have := HR3.out; omega) (by omega))
        clear kz hd hs kr kq lr lq
        go_wp2_with fail
        refine (less_any (ρ : Int) ((r : Int) + q) _).mono ?_; rintro e w4 ⟨rfl, hb4⟩
        have R4 := Lib.hid (R3.out.bel hb4)
        have Q4 := Lib.hid (Q3.out.below hb4)
        have X4 := Lib.hid (X3.out.below hb4)
        clear hb4 e0 e1 r0 r1 fe0 fe1 fr0 fr1 hsz q0 q1 qz x0 x1 xz
        obtain ⟨⟨e0, e1⟩, ⟨r0, r1⟩, ⟨fe0, fe1⟩, ⟨fr0, fr1⟩, hsz⟩ := R4.out.facts
        obtain ⟨x0, x1, xz⟩ := big_facts X4.out
        go_wp2_with fail
        refine (MN.out _).mono ?_; rintro e w5 ⟨rfl, hb5⟩
        have R5' := R4.out.bel hb5
        have R5 := Lib.hid (R5'.setE (ρ2 : Int))
        have hq5 := hne.out
        have Q5 := Lib.hid (((Q4.out.below hb5).other (a := ⟨w.heap.size + 1, 0, none⟩) hq5 (.int .u64 (hi64 (ρ2 : Int)))).other (a := ⟨w.heap.size + 1, 1, none⟩) hq5 (.int .u64 (lo64 (ρ2 : Int))))
        clear e0 e1 r0 r1 fe0 fe1 fr0 fr1 hsz x0 x1 xz
        obtain ⟨⟨e0, e1⟩, ⟨r0, r1⟩, ⟨fe0, fe1⟩, ⟨fr0, fr1⟩, hsz⟩ := R5'.facts
        clear hb5 R4 Q4 X4 R5' MN hq5
        go_upto_region 12 with fail
        generalize (w5.setCell ⟨w.heap.size + 1, 0, none⟩ (.int .u64 (hi64 (ρ2 : Int)))).setCell ⟨w.heap.size + 1, 1, none⟩ (.int .u64 (lo64 (ρ2 : Int))) = W5 at *
        clear e0 e1 r0 r1 fe0 fe1 fr0 fr1 hsz
        obtain ⟨⟨e0, e1⟩, ⟨r0, r1⟩, ⟨fe0, fe1⟩, ⟨fr0, fr1⟩, hsz⟩ := R5.out.facts
        obtain ⟨q0, q1, qz⟩ := big_facts Q5.out
        go_wp2_with fail
        refine (PL.out _).mono ?_; rintro e w6 ⟨rfl, hb6⟩
        have R6' := R5.out.bel hb6
        have R6 := Lib.hid (R6'.setR (r3 : Int))
        clear e0 e1 r0 r1 fe0 fe1 fr0 fr1 hsz q0 q1 qz
        obtain ⟨⟨e0, e1⟩, ⟨r0, r1⟩, ⟨fe0, fe1⟩, ⟨fr0, fr1⟩, hsz⟩ := R6'.facts
        clear hb6 R5 Q5 R6' PL
        go_wp2_with fail
        go_roundw
        case rel =>
          refine ⟨n + 1, by omega, by congr 1; omega, ?_⟩
          rw [HST.out, HT.out, HR2.out, HP2.out, HR3.out]
          exact R6.out
        case measure => simp [intOf]; omega
    · have hn64 : n = 64 := by omega
      subst hn64
      rw [show (126 - 2 * ((64 : Nat) : Int)) = -2 from rfl]
      obtain ⟨b1, b2⟩ := rootS_end N HN.out
      obtain ⟨ρ, hρ⟩ : ∃ ρ : Nat, (rootS N 64).1 = ρ := ⟨_, rfl⟩
      obtain ⟨r, hr⟩ : ∃ r : Nat, (rootS N 64).2 = r := ⟨_, rfl⟩
      have HV : Hid (rootV N = if r < ρ then r + 1 else r) := by rw [← hρ, ← hr]; exact Lib.hid rfl
      rw [hρ, hr] at R
      rw [hρ] at b1
      rw [hr] at b2
      clear hρ hr d0 u1 hn hlt
      obtain ⟨⟨e0, e1⟩, ⟨r0, r1⟩, ⟨fe0, fe1⟩, ⟨fr0, fr1⟩, hsz⟩ := R.out.facts
      have b2 : r < 18446744073709551616 := by have : (2 : Nat) ^ 64 = 18446744073709551616 := by decide
                                               omega
      by_cases hd : r < ρ
      · have d1 : decide (r < ρ) = true := by simp; omega
        have kr := bits_hl (M := (r : Int)) (by omega) (by omega)
        have k1 := bits_hl (M := (r : Int) + 1) (by omega) (by omega)
        have lr := hilo (r : Int)
        have PL := Lib.hid (fun w => plus_any (hi64 (r : Int)) (lo64 (r : Int)) 0 1 ((r : Int) + 1) w kr.1 kr.2.2.1 kr.2.2.2 (by decide) (by decide) (by decide) (by omega) (by omega))
        have SG := Lib.hid (fun w => signed64_any (hi64 ((r : Int) + 1)) (lo64 ((r : Int) + 1)) false w k1.2.2.1 k1.2.2.2)
        have hs := s64_r64 ((r : Int) + 1) false (by omega) (by omega)
        have HS := Lib.hid hs
        have HV2 : Hid (((rootV N : Nat) : Int) = (r : Int) + 1) := Lib.hid (by rw [HV.out, if_pos hd]; simp)
        clear kr k1 lr hs hd b1 b2
        go_wp2_with fail
        refine (less_any (r : Int) (ρ : Int) _).mono ?_; rintro e w4 ⟨rfl, hb4⟩
        have R4 := Lib.hid (R.out.bel hb4)
        clear hb4 e0 e1 r0 r1 fe0 fe1 fr0 fr1 hsz R
        obtain ⟨⟨e0, e1⟩, ⟨r0, r1⟩, ⟨fe0, fe1⟩, ⟨fr0, fr1⟩, hsz⟩ := R4.out.facts
        go_wp2_with fail
        refine (PL.out _).mono ?_; rintro e w6 ⟨rfl, hb6⟩
        have R6' := R4.out.bel hb6
        have R6 := Lib.hid (R6'.setR ((r : Int) + 1))
        clear e0 e1 r0 r1 fe0 fe1 fr0 fr1 hsz
        obtain ⟨⟨e0, e1⟩, ⟨r0, r1⟩, ⟨fe0, fe1⟩, ⟨fr0, fr1⟩, hsz⟩ := R6'.facts
        clear hb6 R4 R6' PL
        go_upto_region 15 with fail
        generalize (w6.setCell ⟨w.heap.size + 1 + 1, 0, none⟩ (.int .u64 (hi64 ((r : Int) + 1)))).setCell ⟨w.heap.size + 1 + 1, 1, none⟩ (.int .u64 (lo64 ((r : Int) + 1))) = W6 at *
        clear e0 e1 r0 r1 fe0 fe1 fr0 fr1 hsz
        obtain ⟨⟨e0, e1⟩, ⟨r0, r1⟩, ⟨fe0, fe1⟩, ⟨fr0, fr1⟩, hsz⟩ := R6.out.facts
        go_wp2_with fail
        refine (SG.out _).mono ?_; rintro e w7 ⟨rfl, hb7⟩
        have B7 := Lib.hid (R6.out.bel hb7).below
        clear hb7
        go_wp2_with fail
        go_ret2
        refine ⟨?_, B7.out⟩
        rw [HS.out.1, HS.out.2, HV2.out]; rfl
      · have d1 : decide (r < ρ) = false := by simp; omega
        have kr := bits_hl (M := (r : Int)) (by omega) (by omega)
        have SG := Lib.hid (fun w => signed64_any (hi64 (r : Int)) (lo64 (r : Int)) false w kr.2.2.1 kr.2.2.2)
        have hs := s64_r64 (r : Int) false (by omega) (by omega)
        have HS := Lib.hid hs
        have HV2 : Hid (((rootV N : Nat) : Int) = (r : Int)) := Lib.hid (by rw [HV.out, if_neg hd])
        clear kr hs hd b1 b2
        go_wp2_with fail
        refine (less_any (r : Int) (ρ : Int) _).mono ?_; rintro e w4 ⟨rfl, hb4⟩
        have R4 := Lib.hid (R.out.bel hb4)
        clear hb4 e0 e1 r0 r1 fe0 fe1 fr0 fr1 hsz R
        obtain ⟨⟨e0, e1⟩, ⟨r0, r1⟩, ⟨fe0, fe1⟩, ⟨fr0, fr1⟩, hsz⟩ := R4.out.facts
        go_wp2_with fail
        refine (SG.out _).mono ?_; rintro e w7 ⟨rfl, hb7⟩
        have B7 := Lib.hid (R4.out.bel hb7).below
        clear hb7
        go_wp2_with fail
        go_ret2
        refine ⟨?_, B7.out⟩
        rw [HS.out.1, HS.out.2, HV2.out]; rfl
end Go.Proofs.Ytgpnopiinogkmaa
