/- Contracts of the program's functions and plain laws, part 2: they hold for all arguments. -/
import Derived.Test.YtiajjiphknlldaaGreatQ01
import Derived.IntWalk
import Derived.Deep.LoopGhost
import Derived.OrdersHeld
import Derived.StillTail
import Derived.Deep.RegionHeld3
/- Contracts of package wide (6): Round, Div, Shift. -/
/- Contracts of package wide (7): Round, Div, Shift, as numbers. -/
namespace Go.Proofs.YtiajjiphknlldaaGreat
open Go.RowKit
set_option maxRecDepth 100000
def r64F (x : Int) : Bool := decide (-9223372036854775808 ≤ x) && decide (x < 9223372036854775808)
def r64V (x : Int) : Int := if r64F x then x else 0
theorem s64_r64 (M : Int) (neg : Bool) (h0 : 0 ≤ M) (h1 : M < 340282366920938463463374607431768211456) :
    s64F (hi64 M) (lo64 M) neg = r64F (if neg then -M else M) ∧ s64V (hi64 M) (lo64 M) neg = r64V (if neg then -M else M) := by
  have hF : s64F (hi64 M) (lo64 M) neg = r64F (if neg then -M else M) := by
    unfold s64F r64F hi64 lo64
    cases neg <;> simp <;> rw [Bool.eq_iff_iff] <;> simp <;> omega
  refine ⟨hF, ?_⟩
  unfold s64V r64V
  rw [hF]
  by_cases h : r64F (if neg then -M else M) = true
  · rw [if_pos h, if_pos h]
    cases neg <;> simp [r64F] at h ⊢ <;> unfold lo64 <;> omega
  · rw [if_neg h, if_neg h]

theorem abs_any (A : Int) (w : World) (a1 : -170141183460469231731687303715884105728 ≤ A) (a2 : A < 170141183460469231731687303715884105728) :
    Calls Tryz.prog 87 #[.agg #[.int .i64 (hi64 A), .int .u64 (lo64 A)]] w fun e w' =>
      e = .returned (.tuple #[.agg #[.int .u64 (hi64 A.natAbs), .int .u64 (lo64 A.natAbs)], .bool (decide (A < 0))]) ∧ Below w.heap.size w w' := by
  by_cases h : A < 0
  · refine (abs_neg (hi64 A) (lo64 A) w (by unfold hi64; omega) (by unfold hi64; omega) (by unfold lo64; omega) (by unfold lo64; omega)).mono fun e w' h1 => ⟨h1.1.trans ?_, h1.2⟩
    rw [show -(hi64 A * B64 + lo64 A) = (A.natAbs : Int) from by unfold hi64 lo64 B64; omega]
    simp [h]
  · refine (abs_pos (hi64 A) (lo64 A) w (by unfold hi64; omega) (by unfold hi64; omega)).mono fun e w' h1 => ⟨h1.1.trans ?_, h1.2⟩
    rw [show (A.natAbs : Int) = A from by omega]
    simp [h]

theorem bits_hl {M : Int} (h0 : 0 ≤ M) (h1 : M < 340282366920938463463374607431768211456) : 0 ≤ hi64 M ∧ hi64 M < 18446744073709551616 ∧ 0 ≤ lo64 M ∧ lo64 M < 18446744073709551616 := by
  unfold hi64 lo64; omega

/-- wide.Round: the walk. -/
theorem round_walk (A s M H M2 R : Int) (neg : Bool) (w : World) (s0 : 0 < s) (s1 : s ≤ 126)
    (habs : ∀ w, Calls Tryz.prog 87 #[.agg #[.int .i64 (hi64 A), .int .u64 (lo64 A)]] w fun e w' =>
      e = .returned (.tuple #[.agg #[.int .u64 (hi64 M), .int .u64 (lo64 M)], .bool neg]) ∧ Below w.heap.size w w')
    (hshl : ∀ w, Calls Tryz.prog 89 #[.agg #[.int .u64 0, .int .u64 1], .int .i64 (s - 1)] w fun e w' =>
      e = .returned (.agg #[.int .u64 (hi64 H), .int .u64 (lo64 H)]) ∧ Below w.heap.size w w')
    (hplus : ∀ w, Calls Tryz.prog 88 #[.agg #[.int .u64 (hi64 M), .int .u64 (lo64 M)], .agg #[.int .u64 (hi64 H), .int .u64 (lo64 H)]] w fun e w' =>
      e = .returned (.agg #[.int .u64 (hi64 M2), .int .u64 (lo64 M2)]) ∧ Below w.heap.size w w')
    (hshr : ∀ w, Calls Tryz.prog 91 #[.agg #[.int .u64 (hi64 M2), .int .u64 (lo64 M2)], .int .i64 s] w fun e w' =>
      e = .returned (.agg #[.int .u64 (hi64 R), .int .u64 (lo64 R)]) ∧ Below w.heap.size w w')
    (hsg : ∀ w, Calls Tryz.prog 90 #[.agg #[.int .u64 (hi64 R), .int .u64 (lo64 R)], .bool neg] w fun e w' =>
      e = .returned (.tuple #[.int .i64 (s64V (hi64 R) (lo64 R) neg), .bool (s64F (hi64 R) (lo64 R) neg)]) ∧ Below w.heap.size w w') :
    Calls Tryz.prog 64 #[.agg #[.int .i64 (hi64 A), .int .u64 (lo64 A)], .int .i64 s] w fun e w' =>
      e = .returned (.tuple #[.int .i64 (s64V (hi64 R) (lo64 R) neg), .bool (s64F (hi64 R) (lo64 R) neg)]) ∧ Below w.heap.size w w' := by
  have c1 : ¬ s < 0 := by omega
  have c2 : ¬ 126 < s := by omega
  have hw : IntKind.i64.wrap (s - 1) = s - 1 := IntWalk.i64_in _ (by omega)
  have HA := Lib.hid habs
  have HL := Lib.hid hshl
  have HP := Lib.hid hplus
  have HR := Lib.hid hshr
  have HS := Lib.hid hsg
  clear habs hshl hplus hshr hsg
  go_enter Tryz.func64, Tryz.ntmps64
  go_wp2_with fail
  refine (HA.out _).mono ?_; rintro e w1 ⟨rfl, hb1⟩
  have hz : w.heap.size < w1.heap.size := by have := hb1.size; simp at this; omega
  have hb1' : Below w.heap.size w w1 := Below.trans (by (repeat (first | with_reducible exact Below.refl _ _ | with_reducible apply Below.drew | (with_reducible refine below_drewN ?_ _) | (with_reducible refine Below.alloc ?_ (by (try simp) <;> omega) _) | (with_reducible refine Below.setCell ?_ (by (try simp) <;> omega) _)))) (hb1.mono (by simp))
  clear hb1
  go_wp2_with fail
  go_region_with (first | (go_at_call 89; refine (HL.out _).mono ?_; rintro e w2 ⟨rfl, hb2⟩; (obtain ⟨hc2, hf2⟩ := bcell hb2); (have hz2 : w1.heap.size < w2.heap.size := by have := hb2.size; (try simp at this); omega)) | (go_at_call 88; refine (HP.out _).mono ?_; rintro e w3 ⟨rfl, hb3⟩; (obtain ⟨hc3, hf3⟩ := bcell hb3); (have hz3 : w1.heap.size < w3.heap.size := by have := hb3.size; (try simp at this); omega)))
  all_goals
    go_wp2_with fail
    refine (HR.out _).mono ?_; rintro e w4 ⟨rfl, hb4⟩
    have hz4 : w1.heap.size < w4.heap.size := by have := hb4.size; (try simp at this); omega
    go_wp2_with fail
    refine (HS.out _).mono ?_; rintro e w5 ⟨rfl, hb5⟩
    have hz5 : w1.heap.size < w5.heap.size := by have := hb5.size; (try simp at this); omega
    go_wp2_with fail
    go_ret2
    refine ⟨rfl, ?_⟩
    (repeat (first | with_reducible exact Below.refl _ _ | with_reducible assumption | with_reducible apply Below.drew | (with_reducible refine below_drewN ?_ _) | (with_reducible refine Below.alloc ?_ (by (try simp) <;> omega) _) | (with_reducible refine Below.setCell ?_ (by (try simp) <;> omega) _) | (with_reducible refine Below.trans ?_ (Below.mono (by assumption) (by (try simp) <;> omega)))))
end Go.Proofs.YtiajjiphknlldaaGreat
namespace Go.Proofs.YtiajjiphknlldaaGreat
open Go.RowKit
set_option maxRecDepth 100000
theorem round_zero (A M R : Int) (neg : Bool) (w : World)
    (habs : ∀ w, Calls Tryz.prog 87 #[.agg #[.int .i64 (hi64 A), .int .u64 (lo64 A)]] w fun e w' =>
      e = .returned (.tuple #[.agg #[.int .u64 (hi64 M), .int .u64 (lo64 M)], .bool neg]) ∧ Below w.heap.size w w')
    (hshr : ∀ w, Calls Tryz.prog 91 #[.agg #[.int .u64 (hi64 M), .int .u64 (lo64 M)], .int .i64 0] w fun e w' =>
      e = .returned (.agg #[.int .u64 (hi64 R), .int .u64 (lo64 R)]) ∧ Below w.heap.size w w')
    (hsg : ∀ w, Calls Tryz.prog 90 #[.agg #[.int .u64 (hi64 R), .int .u64 (lo64 R)], .bool neg] w fun e w' =>
      e = .returned (.tuple #[.int .i64 (s64V (hi64 R) (lo64 R) neg), .bool (s64F (hi64 R) (lo64 R) neg)]) ∧ Below w.heap.size w w') :
    Calls Tryz.prog 64 #[.agg #[.int .i64 (hi64 A), .int .u64 (lo64 A)], .int .i64 0] w fun e w' =>
      e = .returned (.tuple #[.int .i64 (s64V (hi64 R) (lo64 R) neg), .bool (s64F (hi64 R) (lo64 R) neg)]) ∧ Below w.heap.size w w' := by
  have HA := Lib.hid habs
  have HR := Lib.hid hshr
  have HS := Lib.hid hsg
  clear habs hshr hsg
  go_enter Tryz.func64, Tryz.ntmps64
  go_wp2_with fail
  refine (HA.out _).mono ?_; rintro e w1 ⟨rfl, hb1⟩
  have hz : w.heap.size < w1.heap.size := by have := hb1.size; simp at this; omega
  have hb1' : Below w.heap.size w w1 := Below.trans (by (repeat (first | with_reducible exact Below.refl _ _ | with_reducible apply Below.drew | (with_reducible refine below_drewN ?_ _) | (with_reducible refine Below.alloc ?_ (by (try simp) <;> omega) _) | (with_reducible refine Below.setCell ?_ (by (try simp) <;> omega) _)))) (hb1.mono (by simp))
  clear hb1
  go_wp2_with fail
  refine (HR.out _).mono ?_; rintro e w4 ⟨rfl, hb4⟩
  have hz4 : w1.heap.size < w4.heap.size := by have := hb4.size; (try simp at this); omega
  go_wp2_with fail
  refine (HS.out _).mono ?_; rintro e w5 ⟨rfl, hb5⟩
  have hz5 : w1.heap.size < w5.heap.size := by have := hb5.size; (try simp at this); omega
  go_wp2_with fail
  go_ret2
  refine ⟨rfl, ?_⟩
  (repeat (first | with_reducible exact Below.refl _ _ | with_reducible assumption | with_reducible apply Below.drew | (with_reducible refine below_drewN ?_ _) | (with_reducible refine Below.alloc ?_ (by (try simp) <;> omega) _) | (with_reducible refine Below.setCell ?_ (by (try simp) <;> omega) _) | (with_reducible refine Below.trans ?_ (Below.mono (by assumption) (by (try simp) <;> omega)))))

theorem rsh_pos (a : Int) (k : Nat) : rsh a (k + 1) = if a < 0 then -(((a.natAbs + 2 ^ k) / 2 ^ (k + 1) : Nat) : Int) else (((a.natAbs + 2 ^ k) / 2 ^ (k + 1) : Nat) : Int) := by
  unfold rsh rdiv
  have h2 : ((2 : Int) ^ (k + 1)).natAbs = 2 ^ (k + 1) := by rw [Int.natAbs_pow]; rfl
  have hp : (0 : Int) < 2 ^ (k + 1) := Int.pow_pos (by decide)
  have e : (2 * a.natAbs + 2 ^ (k + 1)) / (2 * 2 ^ (k + 1)) = (a.natAbs + 2 ^ k) / 2 ^ (k + 1) := by
    rw [show 2 * a.natAbs + 2 ^ (k + 1) = 2 * (a.natAbs + 2 ^ k) from by rw [Nat.pow_succ]; omega]
    exact Nat.mul_div_mul_left _ _ (by decide)
  rw [h2, e]
  simp only [hp, eq_iff_iff, iff_true]
  by_cases h : a < 0
  · rw [if_pos h, if_neg (by omega)]
  · rw [if_neg h, if_pos (by omega)]
theorem rsh_zero (a : Int) : rsh a 0 = a := by
  unfold rsh rdiv
  simp
  by_cases h : 0 ≤ a
  · rw [if_pos h]; omega
  · rw [if_neg h]; omega

/-- wide.Round. -/
theorem round_any (A s : Int) (w : World) (s0 : 0 ≤ s) (s1 : s ≤ 126) (a1 : -170141183460469231731687303715884105728 ≤ A) (a2 : A < 170141183460469231731687303715884105728) :
    Calls Tryz.prog 64 #[.agg #[.int .i64 (hi64 A), .int .u64 (lo64 A)], .int .i64 s] w fun e w' =>
      e = .returned (.tuple #[.int .i64 (r64V (rsh A s.toNat)), .bool (r64F (rsh A s.toNat))]) ∧ Below w.heap.size w w' := by
  obtain ⟨n, rfl⟩ := Int.eq_ofNat_of_zero_le s0
  rw [Int.toNat_natCast]
  have hM := bits_hl (M := (A.natAbs : Int)) (by omega) (by omega)
  cases n with
  | zero =>
    have hs := s64_r64 (A.natAbs : Int) (decide (A < 0)) (by omega) (by omega)
    have hv : (if decide (A < 0) = true then -(A.natAbs : Int) else (A.natAbs : Int)) = rsh A 0 := by
      rw [rsh_zero]; by_cases h : A < 0 <;> simp [h] <;> omega
    rw [hv] at hs
    refine (round_zero A A.natAbs A.natAbs (decide (A < 0)) w (fun w => abs_any A w a1 a2)
      (fun w => shr_any _ _ 0 (A.natAbs : Int) _ w hM.1 hM.2.1 hM.2.2.1 hM.2.2.2 (by decide) (by decide) (hilo _) (by simp))
      (fun w => signed64_any _ _ _ w hM.2.2.1 hM.2.2.2)).mono fun e w' h => ⟨h.1.trans (by rw [hs.1, hs.2]), h.2⟩
  | succ k =>
    have hk : k ≤ 125 := by omega
    have hp : (2 : Nat) ^ k ≤ 2 ^ 125 := Nat.pow_le_pow_right (by decide) hk
    have hc : ((2 ^ k : Nat) : Int) = 2 ^ k := by simp
    obtain ⟨H, hH⟩ : ∃ H : Int, ((2 ^ k : Nat) : Int) = H := ⟨_, rfl⟩
    have hH0 : 0 ≤ H := by rw [← hH]; exact Int.natCast_nonneg _
    have hH1 : H < 170141183460469231731687303715884105728 := by
      have : (2 : Nat) ^ 125 = 42535295865117307932921825928971026432 := by decide
      omega
    have hHb := bits_hl (M := H) (by omega) (by omega)
    have hM2 := bits_hl (M := (A.natAbs : Int) + H) (by omega) (by omega)
    obtain ⟨R, hR⟩ : ∃ R : Int, (((A.natAbs + 2 ^ k) / 2 ^ (k + 1) : Nat) : Int) = R := ⟨_, rfl⟩
    have hR0 : 0 ≤ R := by rw [← hR]; exact Int.natCast_nonneg _
    have hR2 : ((A.natAbs : Int) + H) / 2 ^ (k + 1) = R := by rw [← hR, ← hH]; simp
    have hR1 : R ≤ (A.natAbs : Int) + H := by rw [← hR, ← hH]; have := Nat.div_le_self (A.natAbs + 2 ^ k) (2 ^ (k + 1)); omega
    have hRb := bits_hl (M := R) (by omega) (by omega)
    have hs := s64_r64 R (decide (A < 0)) (by omega) (by omega)
    have hv : (if decide (A < 0) = true then -R else R) = rsh A (k + 1) := by
      rw [rsh_pos, hR]; by_cases h : A < 0 <;> simp [h]
    rw [hv] at hs
    refine (round_walk A ((k + 1 : Nat) : Int) A.natAbs H (A.natAbs + H) R (decide (A < 0)) w (by omega) (by omega) (fun w => abs_any A w a1 a2)
      (fun w => shl_any 1 _ H w (by decide) (by decide) (by omega) (by omega) (by rw [show (((k + 1 : Nat) : Int) - 1).toNat = k from by omega, Int.one_mul, ← hc, hH]) (by omega))
      (fun w => plus_any _ _ _ _ _ w hM.1 hM.2.2.1 hM.2.2.2 hHb.1 hHb.2.2.1 hHb.2.2.2 (by have := hilo (A.natAbs : Int); have := hilo H; omega) (by omega))
      (fun w => shr_any _ _ _ ((A.natAbs : Int) + H) _ w hM2.1 hM2.2.1 hM2.2.2.1 hM2.2.2.2 (by omega) (by omega) (hilo _) (by rw [Int.toNat_natCast]; exact hR2))
      (fun w => signed64_any _ _ _ w hRb.2.2.1 hRb.2.2.2)).mono fun e w' h => ⟨h.1.trans (by rw [hs.1, hs.2]), h.2⟩

/-- wide.Div: the walk. -/
theorem wdiv_walk (A d M D Q R q : Int) (neg : Bool) (sg : Bool) (w : World) (d0 : (d == 0) = false) (hx : 0 ≤ hi64 M) (D0 : 0 < D)
    (hsg2 : (!neg == decide (d < 0)) = sg)
    (habs : ∀ w, Calls Tryz.prog 87 #[.agg #[.int .i64 (hi64 A), .int .u64 (lo64 A)]] w fun e w' =>
      e = .returned (.tuple #[.agg #[.int .u64 (hi64 M), .int .u64 (lo64 M)], .bool neg]) ∧ Below w.heap.size w w')
    (hd : ∀ w, Calls Tryz.prog 60 #[.int .i64 d] w fun e w' => e = .returned (.int .u64 D) ∧ w = w')
    (hq1 : IntKind.u64.wrap ((hi64 M).tdiv D) = q) (_hq2 : IntKind.u64.wrap ((hi64 M).tmod D) = hi64 M % D)
    (hdv : ∀ w, Calls Tryz.prog 100 #[.int .u64 (hi64 M % D), .int .u64 (lo64 M), .int .u64 D] w fun e w' =>
      e = .returned (.tuple #[.int .u64 (lo64 Q), .int .u64 R]) ∧ Below w.heap.size w w')
    (hq3 : q = hi64 Q) (D1 : D < 9223372036854775809) (R0 : 0 ≤ R) (R1 : R < D)
    (hfin : ∀ w, Calls Tryz.prog 90 #[.agg #[.int .u64 (hi64 (if D ≤ 2 * R then Q + 1 else Q)), .int .u64 (lo64 (if D ≤ 2 * R then Q + 1 else Q))], .bool sg] w fun e w' =>
      e = .returned (.tuple #[.int .i64 (s64V (hi64 (if D ≤ 2 * R then Q + 1 else Q)) (lo64 (if D ≤ 2 * R then Q + 1 else Q)) sg), .bool (s64F (hi64 (if D ≤ 2 * R then Q + 1 else Q)) (lo64 (if D ≤ 2 * R then Q + 1 else Q)) sg)]) ∧ Below w.heap.size w w')
    (hplus : ∀ w, Calls Tryz.prog 88 #[.agg #[.int .u64 (hi64 Q), .int .u64 (lo64 Q)], .agg #[.int .u64 0, .int .u64 1]] w fun e w' =>
      e = .returned (.agg #[.int .u64 (hi64 (Q + 1)), .int .u64 (lo64 (Q + 1))]) ∧ Below w.heap.size w w') :
    Calls Tryz.prog 95 #[.agg #[.int .i64 (hi64 A), .int .u64 (lo64 A)], .int .i64 d] w fun e w' =>
      e = .returned (.tuple #[.int .i64 (s64V (hi64 (if D ≤ 2 * R then Q + 1 else Q)) (lo64 (if D ≤ 2 * R then Q + 1 else Q)) sg), .bool (s64F (hi64 (if D ≤ 2 * R then Q + 1 else Q)) (lo64 (if D ≤ 2 * R then Q + 1 else Q)) sg)]) ∧ Below w.heap.size w w' := by
  subst hq3
  have hw : IntKind.u64.wrap (D - R) = D - R := by rw [IntKind.wrap_u64]; omega
  have hD : ¬ D = 0 := by omega
  have e3 : (hi64 M).tmod D = hi64 M % D := Int.tmod_eq_emod_of_nonneg hx
  have HA := Lib.hid habs
  have HD := Lib.hid hd
  have HV := Lib.hid hdv
  have HP := Lib.hid hplus
  by_cases hc : D ≤ 2 * R
  · simp only [if_pos hc] at hfin ⊢
    have HS := Lib.hid hfin
    have hc2 : D - R ≤ R := by omega
    clear habs hd hdv hplus hfin D1 hc
    go_enter Tryz.func95, Tryz.ntmps95
    go_wp2_with fail
    refine (HA.out _).mono ?_; rintro e w1 ⟨rfl, hb1⟩
    have hz : w.heap.size < w1.heap.size := by have := hb1.size; simp at this; omega
    have hb1' : Below w.heap.size w w1 := Below.trans (by (repeat (first | with_reducible exact Below.refl _ _ | with_reducible apply Below.drew | (with_reducible refine below_drewN ?_ _) | (with_reducible refine Below.alloc ?_ (by (try simp) <;> omega) _) | (with_reducible refine Below.setCell ?_ (by (try simp) <;> omega) _)))) (hb1.mono (by simp))
    clear hb1
    go_wp2_with fail
    refine (HD.out _).mono ?_; rintro e w2 ⟨rfl, rfl⟩
    go_wp2_with fail
    go_quiet (fail)
    go_wp2_with fail
    refine (HV.out _).mono ?_; rintro e w3 ⟨rfl, hb3⟩
    have hz3 : w1.heap.size < w3.heap.size := by have := hb3.size; (try simp at this); omega
    go_wp2_with fail
    refine (HP.out _).mono ?_; rintro e w4 ⟨rfl, hb4⟩
    have hz4 : w3.heap.size < w4.heap.size := by have := hb4.size; (try simp at this); omega
    obtain ⟨hc4, hf4⟩ := bcell hb4
    go_wp2_with fail
    refine (HS.out _).mono ?_; rintro e w5 ⟨rfl, hb5⟩
    go_wp2_with fail
    go_ret2
    refine ⟨rfl, ?_⟩
    have hz5 : w4.heap.size ≤ w5.heap.size := by have := hb5.size; (try simp at this); omega
    (repeat (first | with_reducible exact Below.refl _ _ | with_reducible assumption | with_reducible apply Below.drew | (with_reducible refine below_drewN ?_ _) | (with_reducible refine Below.alloc ?_ (by (try simp) <;> omega) _) | (with_reducible refine Below.setCell ?_ (by (try simp) <;> omega) _) | (with_reducible refine Below.trans ?_ (Below.mono (by assumption) (by (try simp) <;> omega)))))
  · simp only [if_neg hc] at hfin ⊢
    have HS := Lib.hid hfin
    have hc2 : ¬ D - R ≤ R := by omega
    clear habs hd hdv hplus hfin D1 hc
    go_enter Tryz.func95, Tryz.ntmps95
    go_wp2_with fail
    refine (HA.out _).mono ?_; rintro e w1 ⟨rfl, hb1⟩
    have hz : w.heap.size < w1.heap.size := by have := hb1.size; simp at this; omega
    have hb1' : Below w.heap.size w w1 := Below.trans (by (repeat (first | with_reducible exact Below.refl _ _ | with_reducible apply Below.drew | (with_reducible refine below_drewN ?_ _) | (with_reducible refine Below.alloc ?_ (by (try simp) <;> omega) _) | (with_reducible refine Below.setCell ?_ (by (try simp) <;> omega) _)))) (hb1.mono (by simp))
    clear hb1
    go_wp2_with fail
    refine (HD.out _).mono ?_; rintro e w2 ⟨rfl, rfl⟩
    go_wp2_with fail
    go_quiet (fail)
    go_wp2_with fail
    refine (HV.out _).mono ?_; rintro e w3 ⟨rfl, hb3⟩
    have hz3 : w1.heap.size < w3.heap.size := by have := hb3.size; (try simp at this); omega
    go_wp2_with fail
    refine (HS.out _).mono ?_; rintro e w5 ⟨rfl, hb5⟩
    go_wp2_with fail
    go_ret2
    refine ⟨rfl, ?_⟩
    have hz5 : w3.heap.size ≤ w5.heap.size := by have := hb5.size; (try simp at this); omega
    (repeat (first | with_reducible exact Below.refl _ _ | with_reducible assumption | with_reducible apply Below.drew | (with_reducible refine below_drewN ?_ _) | (with_reducible refine Below.alloc ?_ (by (try simp) <;> omega) _) | (with_reducible refine Below.setCell ?_ (by (try simp) <;> omega) _) | (with_reducible refine Below.trans ?_ (Below.mono (by assumption) (by (try simp) <;> omega)))))
end Go.Proofs.YtiajjiphknlldaaGreat
/- Contracts of package wide (8): Div and Shift, as numbers. -/
namespace Go.Proofs.YtiajjiphknlldaaGreat
open Go.RowKit
set_option maxRecDepth 100000
theorem rdiv_nat (M D : Nat) (hD : 0 < D) : (2 * M + D) / (2 * D) = if D ≤ 2 * (M % D) then M / D + 1 else M / D := by
  have h := Nat.div_add_mod M D
  have hm := Nat.mod_lt M hD
  generalize M / D = q at *
  generalize M % D = r at *
  subst h
  have e : 2 * (D * q + r) + D = (2 * r + D) + 2 * D * q := by rw [Nat.mul_add, Nat.mul_assoc]; omega
  rw [e, Nat.add_mul_div_left _ _ (by omega)]
  by_cases hc : D ≤ 2 * r
  · rw [if_pos hc]
    have : (2 * r + D) / (2 * D) = 1 := Nat.div_eq_of_lt_le (by omega) (by omega)
    omega
  · rw [if_neg hc]
    have : (2 * r + D) / (2 * D) = 0 := Nat.div_eq_of_lt (by omega)
    omega
theorem div_hi (M D : Int) (_h : 0 ≤ M) (hD : 0 < D) : hi64 M / D = hi64 (M / D) := by
  unfold hi64
  rw [Int.ediv_ediv_of_nonneg (by decide), Int.ediv_ediv_of_nonneg (Int.le_of_lt hD), Int.mul_comm]
theorem div_lo (M D : Int) (hD : 0 < D) : (hi64 M % D * 18446744073709551616 + lo64 M) / D = lo64 (M / D) ∧ (hi64 M % D * 18446744073709551616 + lo64 M) % D = M % D := by
  have h := hilo M
  have hq := Int.mul_ediv_add_emod (hi64 M) D
  have hl := lo64_bd M
  have hr0 := Int.emod_nonneg (hi64 M) (Int.ne_of_gt hD)
  have hr1 := Int.emod_lt_of_pos (hi64 M) hD
  generalize hi64 M % D = r at *
  generalize hi64 M / D = q at *
  generalize hi64 M = x at *
  generalize lo64 M = y at *
  have e : M = (r * 18446744073709551616 + y) + D * (q * 18446744073709551616) := by
    rw [← h, ← hq, ← Int.mul_assoc]; omega
  have e1 : M / D = (r * 18446744073709551616 + y) / D + q * 18446744073709551616 := by
    rw [e, Int.add_mul_ediv_left _ _ (Int.ne_of_gt hD)]
  have e2 : M % D = (r * 18446744073709551616 + y) % D := by rw [e, Int.add_mul_emod_self_left]
  have b0 : 0 ≤ (r * 18446744073709551616 + y) / D := Int.ediv_nonneg (by omega) (Int.le_of_lt hD)
  have b1 : (r * 18446744073709551616 + y) / D < 18446744073709551616 := by
    apply Int.ediv_lt_of_lt_mul hD
    have : (r + 1) * 18446744073709551616 ≤ D * 18446744073709551616 := Int.mul_le_mul_of_nonneg_right (by omega) (by decide)
    rw [Int.mul_comm 18446744073709551616]
    omega
  rw [e1, e2]
  refine ⟨?_, rfl⟩
  unfold lo64
  omega

/-- wide.Div, the divisor not nought. -/
theorem wdiv_any (A d : Int) (w : World) (d0 : d ≠ 0) (d1 : -9223372036854775808 ≤ d) (d2 : d < 9223372036854775808) (a1 : -170141183460469231731687303715884105728 ≤ A) (a2 : A < 170141183460469231731687303715884105728) :
    Calls Tryz.prog 95 #[.agg #[.int .i64 (hi64 A), .int .u64 (lo64 A)], .int .i64 d] w fun e w' =>
      e = .returned (.tuple #[.int .i64 (r64V (rdiv A d)), .bool (r64F (rdiv A d))]) ∧ Below w.heap.size w w' := by
  obtain ⟨M, hM⟩ : ∃ M : Nat, A.natAbs = M := ⟨_, rfl⟩
  obtain ⟨D, hD⟩ : ∃ D : Nat, d.natAbs = D := ⟨_, rfl⟩
  have hD0 : 0 < D := by omega
  have hMb := bits_hl (M := (M : Int)) (by omega) (by omega)
  have hdl := div_lo (M : Int) (D : Int) (by omega)
  have hdh := div_hi (M : Int) (D : Int) (by omega) (by omega)
  have hmod0 := Int.emod_nonneg (hi64 (M : Int)) (show (D : Int) ≠ 0 by omega)
  have hmod1 := Int.emod_lt_of_pos (hi64 (M : Int)) (show (0 : Int) < D by omega)
  have hR0 := Int.emod_nonneg (M : Int) (show (D : Int) ≠ 0 by omega)
  have hR1 := Int.emod_lt_of_pos (M : Int) (show (0 : Int) < D by omega)
  have hq0 : (0 : Int) ≤ (M : Int) / D := Int.ediv_nonneg (by omega) (by omega)
  have hq1 : (M : Int) / D ≤ M := Int.ediv_le_self _ (by omega)
  have hQb := bits_hl (M := (M : Int) / D) (by omega) (by omega)
  have hfin : (if (D : Int) ≤ 2 * ((M : Int) % D) then (M : Int) / D + 1 else (M : Int) / D) = (((2 * M + D) / (2 * D) : Nat) : Int) := by
    rw [rdiv_nat M D hD0]
    have e1 : ((M : Int) % D) = ((M % D : Nat) : Int) := by simp
    have e2 : ((M : Int) / D) = ((M / D : Nat) : Int) := by simp
    rw [e1, e2]
    split <;> split <;> omega
  have hFb : (0 : Int) ≤ (((2 * M + D) / (2 * D) : Nat) : Int) ∧ (((2 * M + D) / (2 * D) : Nat) : Int) ≤ (M : Int) + 1 := by
    rw [← hfin]; split <;> omega
  have hFbb := bits_hl hFb.1 (by omega)
  have hs := s64_r64 (((2 * M + D) / (2 * D) : Nat) : Int) (!decide (A < 0) == decide (d < 0)) hFb.1 (by omega)
  have hv : (if (!decide (A < 0) == decide (d < 0)) = true then -(((2 * M + D) / (2 * D) : Nat) : Int) else (((2 * M + D) / (2 * D) : Nat) : Int)) = rdiv A d := by
    unfold rdiv
    rw [hM, hD]
    by_cases h1 : A < 0 <;> by_cases h2 : d < 0
    · have e1 : (0 ≤ A) = False := by simp; omega
      have e2 : (0 < d) = False := by simp; omega
      simp [h1, h2, e1, e2]
    · have e1 : (0 ≤ A) = False := by simp; omega
      have e2 : (0 < d) = True := by simp; omega
      simp [h1, h2, e1, e2]
    · have e1 : (0 ≤ A) = True := by simp; omega
      have e2 : (0 < d) = False := by simp; omega
      simp [h1, h2, e1, e2]
    · have e1 : (0 ≤ A) = True := by simp; omega
      have e2 : (0 < d) = True := by simp; omega
      simp [h1, h2, e1, e2]
  rw [hv] at hs
  have hdiv := hdh
  refine (wdiv_walk A d M D ((M : Int) / D) ((M : Int) % D) _ (decide (A < 0)) _ w (by simp; exact d0) hMb.1 (by omega) rfl
    (fun w => (abs_any A w a1 a2).mono fun e w' h => ⟨h.1.trans (by rw [hM]), h.2⟩)
    (fun w => (abs64_any d w d1 d2).mono fun e w' h => ⟨h.1.trans (by rw [hD]), h.2⟩)
    (by rw [Int.tdiv_eq_ediv_of_nonneg hMb.1, hdh, IntKind.wrap_u64]; exact Int.emod_eq_of_lt hQb.1 hQb.2.1)
    (by rw [Int.tmod_eq_emod_of_nonneg hMb.1, IntKind.wrap_u64]; omega)
    (fun w => (div64_any _ _ _ w hmod0 hmod1 hMb.2.2.1 hMb.2.2.2 (by omega)).mono fun e w' h => ⟨h.1.trans (by rw [hdl.1, hdl.2]), h.2⟩)
    rfl (by omega) hR0 hR1
    (fun w => by rw [hfin]; exact signed64_any _ _ _ w hFbb.2.2.1 hFbb.2.2.2)
    (fun w => plus_any _ _ _ _ _ w hQb.1 hQb.2.2.1 hQb.2.2.2 (by decide) (by decide) (by decide) (by have := hilo ((M : Int) / D); omega) (by omega))).mono fun e w' h => ⟨h.1.trans ?_, h.2⟩
  rw [hfin, hs.1, hs.2]

/-- wide.Shift, within range. -/
theorem shift_walk (a s M T : Int) (neg : Bool) (w : World) (s0 : 0 ≤ s) (s1 : s ≤ 66) (hn : decide (a < 0) = neg) (N : Int)
    (habs : ∀ w, Calls Tryz.prog 60 #[.int .i64 a] w fun e w' => e = .returned (.int .u64 N) ∧ w = w')
    (hshl : ∀ w, Calls Tryz.prog 89 #[.agg #[.int .u64 0, .int .u64 N], .int .i64 s] w fun e w' =>
      e = .returned (.agg #[.int .u64 (hi64 M), .int .u64 (lo64 M)]) ∧ Below w.heap.size w w')
    (hshr : ∀ w, Calls Tryz.prog 91 #[.agg #[.int .u64 (hi64 M), .int .u64 (lo64 M)], .int .i64 s] w fun e w' =>
      e = .returned (.agg #[.int .u64 0, .int .u64 N]) ∧ Below w.heap.size w w')
    (hsg : ∀ w, Calls Tryz.prog 61 #[.agg #[.int .u64 (hi64 M), .int .u64 (lo64 M)], .bool neg] w fun e w' =>
      e = .returned (.tuple #[.agg #[.int .i64 (hi64 T), .int .u64 (lo64 T)], .bool true]) ∧ Below w.heap.size w w') :
    Calls Tryz.prog 71 #[.int .i64 a, .int .i64 s] w fun e w' =>
      e = .returned (.tuple #[.agg #[.int .i64 (hi64 T), .int .u64 (lo64 T)], .bool true]) ∧ Below w.heap.size w w' := by
  have c1 : ¬ s < 0 := by omega
  have c2 : ¬ 127 < s := by omega
  have HA := Lib.hid habs
  have HL := Lib.hid hshl
  have HR := Lib.hid hshr
  have HS := Lib.hid hsg
  clear habs hshl hshr hsg
  go_enter Tryz.func71, Tryz.ntmps71
  go_wp2_with fail
  refine (HA.out _).mono ?_; rintro e w1 ⟨rfl, rfl⟩
  go_wp2_with fail
  refine (HL.out _).mono ?_; rintro e w2 ⟨rfl, hb2⟩
  have hb2z0 : w.heap.size < w2.heap.size := by have := hb2.size; (try simp at this); omega
  have hb2z1 : w.heap.size + 1 < w2.heap.size := by have := hb2.size; (try simp at this); omega
  have hb2c0_0 := hb2.cell (p := ⟨w.heap.size, 0, none⟩) (by (try simp); (try omega))
  have hb2f0_0 := hb2.frozen (p := ⟨w.heap.size, 0, none⟩) (by (try simp); (try omega))
  simp [go_sem, *] at hb2c0_0 hb2f0_0
  have hb2c0_1 := hb2.cell (p := ⟨w.heap.size, 1, none⟩) (by (try simp); (try omega))
  have hb2f0_1 := hb2.frozen (p := ⟨w.heap.size, 1, none⟩) (by (try simp); (try omega))
  simp [go_sem, *] at hb2c0_1 hb2f0_1
  have hb2c1_0 := hb2.cell (p := ⟨w.heap.size + 1, 0, none⟩) (by (try simp); (try omega))
  have hb2f1_0 := hb2.frozen (p := ⟨w.heap.size + 1, 0, none⟩) (by (try simp); (try omega))
  simp [go_sem, *] at hb2c1_0 hb2f1_0
  have hb2c1_1 := hb2.cell (p := ⟨w.heap.size + 1, 1, none⟩) (by (try simp); (try omega))
  have hb2f1_1 := hb2.frozen (p := ⟨w.heap.size + 1, 1, none⟩) (by (try simp); (try omega))
  simp [go_sem, *] at hb2c1_1 hb2f1_1
  go_wp2_with fail
  go_region_held3 (fun w' => w'.cell? ⟨w.heap.size + 1, 0, none⟩ = some (.int .u64 0) ∧ w'.cell? ⟨w.heap.size + 1, 1, none⟩ = some (.int .u64 N) ∧ w'.cell? ⟨w2.heap.size, 0, none⟩ = some (.int .u64 (hi64 M)) ∧ w'.cell? ⟨w2.heap.size, 1, none⟩ = some (.int .u64 (lo64 M))) (simp [go_sem, *]) (first | (go_at_call 91; refine (HR.out _).mono ?_; rintro e w3 ⟨rfl, hb3⟩; (have hb3c := (bcell hb3).1)))
  have hz3 : w2.heap.size < w3.heap.size := by have := hb3.size; (try simp at this); omega
  clear hb3c
  have hb3z0 : w.heap.size < w3.heap.size := by have := hb3.size; (try simp at this); omega
  have hb3z1 : w.heap.size + 1 < w3.heap.size := by have := hb3.size; (try simp at this); omega
  have hb3c0_0 := hb3.cell (p := ⟨w.heap.size, 0, none⟩) (by (try simp); (try omega))
  have hb3f0_0 := hb3.frozen (p := ⟨w.heap.size, 0, none⟩) (by (try simp); (try omega))
  simp [go_sem, *] at hb3c0_0 hb3f0_0
  have hb3c0_1 := hb3.cell (p := ⟨w.heap.size, 1, none⟩) (by (try simp); (try omega))
  have hb3f0_1 := hb3.frozen (p := ⟨w.heap.size, 1, none⟩) (by (try simp); (try omega))
  simp [go_sem, *] at hb3c0_1 hb3f0_1
  go_wp2_with fail
  refine (HS.out _).mono ?_; rintro e w4 ⟨rfl, hb4⟩
  have hb4z0 : w.heap.size < w4.heap.size := by have := hb4.size; (try simp at this); omega
  have hb4z1 : w.heap.size + 1 < w4.heap.size := by have := hb4.size; (try simp at this); omega
  have hb4c0_0 := hb4.cell (p := ⟨w.heap.size, 0, none⟩) (by (try simp); (try omega))
  have hb4f0_0 := hb4.frozen (p := ⟨w.heap.size, 0, none⟩) (by (try simp); (try omega))
  simp [go_sem, *] at hb4c0_0 hb4f0_0
  have hb4c0_1 := hb4.cell (p := ⟨w.heap.size, 1, none⟩) (by (try simp); (try omega))
  have hb4f0_1 := hb4.frozen (p := ⟨w.heap.size, 1, none⟩) (by (try simp); (try omega))
  simp [go_sem, *] at hb4c0_1 hb4f0_1
  go_wp2_with fail
  simp [bodyPost, results, Tryz.results71, go_sem, hb4c0_0, hb4c0_1, hb4z0]
  (repeat (first | with_reducible exact Below.refl _ _ | with_reducible assumption | with_reducible apply Below.drew | (with_reducible refine below_drewN ?_ _) | (with_reducible refine Below.alloc ?_ (by (try simp) <;> omega) _) | (with_reducible refine Below.setCell ?_ (by (try simp) <;> omega) _) | (with_reducible refine Below.trans ?_ (Below.mono (by assumption) (by (try simp) <;> omega)))))
theorem shift_any (a s T : Int) (w : World) (s0 : 0 ≤ s) (s1 : s ≤ 66) (a0 : -1152921504606846976 ≤ a) (a1 : a ≤ 1152921504606846976) (hT : a * 2 ^ s.toNat = T) :
    Calls Tryz.prog 71 #[.int .i64 a, .int .i64 s] w fun e w' =>
      e = .returned (.tuple #[.agg #[.int .i64 (hi64 T), .int .u64 (lo64 T)], .bool true]) ∧ Below w.heap.size w w' := by
  have hp : (0 : Int) < 2 ^ s.toNat := Int.pow_pos (by decide)
  have hp2 : (2 : Int) ^ s.toNat ≤ 73786976294838206464 := by
    have h : (2 : Nat) ^ s.toNat ≤ 2 ^ 66 := Nat.pow_le_pow_right (by decide) (by omega)
    have h2 : ((2 ^ s.toNat : Nat) : Int) = 2 ^ s.toNat := by simp
    have h3 : (2 : Nat) ^ 66 = 73786976294838206464 := by decide
    omega
  obtain ⟨N, hN⟩ : ∃ N : Nat, a.natAbs = N := ⟨_, rfl⟩
  obtain ⟨M, hM⟩ : ∃ M : Int, (N : Int) * 2 ^ s.toNat = M := ⟨_, rfl⟩
  have hM0 : 0 ≤ M := by rw [← hM]; exact Int.mul_nonneg (by omega) (Int.le_of_lt hp)
  have hM1 : M ≤ 1152921504606846976 * 73786976294838206464 := by
    rw [← hM]; exact Int.mul_le_mul (by omega) hp2 (Int.le_of_lt hp) (by decide)
  have hb := bits_hl (M := M) hM0 (by omega)
  have hdiv : M / 2 ^ s.toNat = (N : Int) := by rw [← hM]; exact Int.mul_ediv_cancel _ (Int.ne_of_gt hp)
  have hNh : hi64 (N : Int) = 0 ∧ lo64 (N : Int) = N := by unfold hi64 lo64; omega
  refine shift_walk a s M T _ w s0 s1 rfl N (fun w => (abs64_any a w (by omega) (by omega)).mono fun e w' h => ⟨h.1.trans (by rw [hN]), h.2⟩)
    (fun w => shl_any _ _ _ w (by omega) (by omega) (by omega) (by omega) hM (by omega))
    (fun w => (shr_any _ _ _ M N w hb.1 hb.2.1 hb.2.2.1 hb.2.2.2 (by omega) (by omega) (hilo M) hdiv).mono fun e w' h => ⟨h.1.trans (by rw [hNh.1, hNh.2]), h.2⟩) (fun w => ?_)
  by_cases h : a < 0
  · have e : T = -M := by rw [← hT, ← hM, ← Int.neg_mul, show -(N : Int) = a from by omega]
    rw [show decide (a < 0) = true from by simpa using h]
    refine (signed_neg (hi64 M) (lo64 M) w hb.1 (by unfold hi64; omega) hb.2.2.1 hb.2.2.2).mono fun e w' h => ⟨h.1.trans ?_, h.2⟩
    rw [show -(hi64 M * B64 + lo64 M) = T from by rw [show hi64 M * B64 + lo64 M = M from hilo M]; omega]
  · have e : T = M := by rw [← hT, ← hM, show (N : Int) = a from by omega]
    rw [show decide (a < 0) = false from by simpa using h, e]
    exact signed_pos (hi64 M) (lo64 M) w hb.1 (by unfold hi64; omega)

end Go.Proofs.YtiajjiphknlldaaGreat
/- Contract of wide.Add at lists of W. -/
namespace Go.Proofs.YtiajjiphknlldaaGreat
open Go.RowKit
set_option maxRecDepth 100000
/-- wide.Add at two. -/
theorem wadd2_any (A B S : Int) (p c : Nat) (w : World) (a1 : -170141183460469231731687303715884105728 ≤ A) (a2 : A < 170141183460469231731687303715884105728)
    (b1 : -170141183460469231731687303715884105728 ≤ B) (b2 : B < 170141183460469231731687303715884105728)
    (hS : A + B = S) (s1 : -170141183460469231731687303715884105728 ≤ S) (s2 : S < 170141183460469231731687303715884105728)
    (c0 : w.cell? ⟨p, 0, none⟩ = some (.int .i64 (hi64 A))) (c1 : w.cell? ⟨p, 1, none⟩ = some (.int .u64 (lo64 A)))
    (c2 : w.cell? ⟨p, 2, none⟩ = some (.int .i64 (hi64 B))) (c3 : w.cell? ⟨p, 3, none⟩ = some (.int .u64 (lo64 B))) :
    Calls Tryz.prog 63 #[.slice (some ⟨p, 0, none⟩) 2 c] w fun e w' =>
      e = .returned (.tuple #[.agg #[.int .i64 (hi64 S), .int .u64 (lo64 S)], .bool true]) ∧ Below w.heap.size w w' := by
  have hp : p < w.heap.size := World.block_lt_of_cell? w _ c0
  go_enter Tryz.func63, Tryz.ntmps63
  go_wp2_with fail
  refine wp_loop_rounds 3 ?_
  rw [rounds_succ]
  go_wp2_with fail
  refine (add_any 0 A A _ (by decide) (by decide) a1 a2 (by omega) a1 a2).mono ?_; rintro e w1 ⟨rfl, hb1⟩
  have hpz : p < w.heap.size + 1 := by omega
  have hb1z0 : w.heap.size < w1.heap.size := by have := hb1.size; (try simp at this); omega
  have hb1z1 : w.heap.size + 1 < w1.heap.size := by have := hb1.size; (try simp at this); omega
  have hb1z2 : w.heap.size + 1 + 1 < w1.heap.size := by have := hb1.size; (try simp at this); omega
  have hb1c0_0 := hb1.cell (p := ⟨w.heap.size, 0, none⟩) (by (try simp); (try omega))
  have hb1f0_0 := hb1.frozen (p := ⟨w.heap.size, 0, none⟩) (by (try simp); (try omega))
  simp [go_sem, *] at hb1c0_0 hb1f0_0
  have hb1c0_1 := hb1.cell (p := ⟨w.heap.size, 1, none⟩) (by (try simp); (try omega))
  have hb1f0_1 := hb1.frozen (p := ⟨w.heap.size, 1, none⟩) (by (try simp); (try omega))
  simp [go_sem, *] at hb1c0_1 hb1f0_1
  have hb1c1_0 := hb1.cell (p := ⟨w.heap.size + 1, 0, none⟩) (by (try simp); (try omega))
  have hb1f1_0 := hb1.frozen (p := ⟨w.heap.size + 1, 0, none⟩) (by (try simp); (try omega))
  simp [go_sem, *] at hb1c1_0 hb1f1_0
  have hb1c1_1 := hb1.cell (p := ⟨w.heap.size + 1, 1, none⟩) (by (try simp); (try omega))
  have hb1f1_1 := hb1.frozen (p := ⟨w.heap.size + 1, 1, none⟩) (by (try simp); (try omega))
  simp [go_sem, *] at hb1c1_1 hb1f1_1
  have hb1cp_0 := hb1.cell (p := ⟨p, 0, none⟩) (by (try simp); (try omega))
  have hb1fp_0 := hb1.frozen (p := ⟨p, 0, none⟩) (by (try simp); (try omega))
  simp [go_sem, *] at hb1cp_0 hb1fp_0
  have hb1cp_1 := hb1.cell (p := ⟨p, 1, none⟩) (by (try simp); (try omega))
  have hb1fp_1 := hb1.frozen (p := ⟨p, 1, none⟩) (by (try simp); (try omega))
  simp [go_sem, *] at hb1cp_1 hb1fp_1
  have hb1cp_2 := hb1.cell (p := ⟨p, 2, none⟩) (by (try simp); (try omega))
  have hb1fp_2 := hb1.frozen (p := ⟨p, 2, none⟩) (by (try simp); (try omega))
  simp [go_sem, *] at hb1cp_2 hb1fp_2
  have hb1cp_3 := hb1.cell (p := ⟨p, 3, none⟩) (by (try simp); (try omega))
  have hb1fp_3 := hb1.frozen (p := ⟨p, 3, none⟩) (by (try simp); (try omega))
  simp [go_sem, *] at hb1cp_3 hb1fp_3
  have hp1 : p < w1.heap.size := by omega
  go_wp2_with fail
  rw [rounds_succ]
  go_wp2_with fail
  refine (add_any A B S _ a1 a2 b1 b2 hS s1 s2).mono ?_; rintro e w2 ⟨rfl, hb2⟩
  have hb2z0 : w.heap.size < w2.heap.size := by have := hb2.size; (try simp at this); omega
  have hb2z1 : w.heap.size + 1 < w2.heap.size := by have := hb2.size; (try simp at this); omega
  have hb2z2 : w.heap.size + 1 + 1 < w2.heap.size := by have := hb2.size; (try simp at this); omega
  have hb2c0_0 := hb2.cell (p := ⟨w.heap.size, 0, none⟩) (by (try simp); (try omega))
  have hb2f0_0 := hb2.frozen (p := ⟨w.heap.size, 0, none⟩) (by (try simp); (try omega))
  simp [go_sem, *] at hb2c0_0 hb2f0_0
  have hb2c0_1 := hb2.cell (p := ⟨w.heap.size, 1, none⟩) (by (try simp); (try omega))
  have hb2f0_1 := hb2.frozen (p := ⟨w.heap.size, 1, none⟩) (by (try simp); (try omega))
  simp [go_sem, *] at hb2c0_1 hb2f0_1
  have hb2c1_0 := hb2.cell (p := ⟨w.heap.size + 1, 0, none⟩) (by (try simp); (try omega))
  have hb2f1_0 := hb2.frozen (p := ⟨w.heap.size + 1, 0, none⟩) (by (try simp); (try omega))
  simp [go_sem, *] at hb2c1_0 hb2f1_0
  have hb2c1_1 := hb2.cell (p := ⟨w.heap.size + 1, 1, none⟩) (by (try simp); (try omega))
  have hb2f1_1 := hb2.frozen (p := ⟨w.heap.size + 1, 1, none⟩) (by (try simp); (try omega))
  simp [go_sem, *] at hb2c1_1 hb2f1_1
  go_wp2_with fail
  rw [rounds_succ]
  go_wp2_with fail
  simp [bodyPost, results, Tryz.results63, go_sem, hb2c0_0, hb2c0_1, hb2z0]
  (repeat (first | with_reducible exact Below.refl _ _ | with_reducible assumption | with_reducible apply Below.drew | (with_reducible refine below_drewN ?_ _) | (with_reducible refine Below.alloc ?_ (by (try simp) <;> omega) _) | (with_reducible refine Below.setCell ?_ (by (try simp) <;> omega) _) | (with_reducible refine Below.trans ?_ (Below.mono (by assumption) (by (try simp) <;> omega)))))
end Go.Proofs.YtiajjiphknlldaaGreat
/- Plain numbers (2): Mul, Div, MulDiv as numbers. -/
namespace Go.Proofs.YtiajjiphknlldaaGreat
def mulV (a b s : Int) : Int := if s < 0 ∨ 120 < s then 0 else satV (rsh (satV a * satV b) s.toNat)
def mulH (a b s : Int) : Bool := satH a || satH b || (decide (s < 0 ∨ 120 < s) || satH (rsh (satV a * satV b) s.toNat))
/-- Divided; by nought: the bound on the number's side. -/
def byV (x d : Int) : Int := if d = 0 then (if x = 0 then 0 else if x < 0 then -1152921504606846976 else 1152921504606846976) else satV (rdiv x d)
def byH (x d : Int) : Bool := decide (d = 0) || satH (rdiv x d)
def divV (a b s : Int) : Int := if s < 0 ∨ 66 < s then 0 else byV (satV a * 2 ^ s.toNat) (satV b)
def divH (a b s : Int) : Bool := satH a || satH b || (decide (s < 0 ∨ 66 < s) || byH (satV a * 2 ^ s.toNat) (satV b))
def mdivV (a b d : Int) : Int := byV (satV a * satV b) (satV d)
def mdivH (a b d : Int) : Bool := satH a || satH b || satH d || byH (satV a * satV b) (satV d)
/-- The sum of the products, and whether a number was clamped. -/
def dotS (A B : Nat → Int) : Nat → Int | 0 => 0 | n + 1 => dotS A B n + satV (A n) * satV (B n)
def dotB (A B : Nat → Int) : Nat → Bool | 0 => false | n + 1 => dotB A B n || satH (A n) || satH (B n)
def dotV (s : Int) (A B : Nat → Int) (n : Nat) : Int := if s < 0 ∨ 120 < s then 0 else satV (rsh (dotS A B n) s.toNat)
def dotH (s : Int) (A B : Nat → Int) (n : Nat) : Bool := if s < 0 ∨ 120 < s then true else dotB A B n || satH (rsh (dotS A B n) s.toNat)
/-- The sum of clamped numbers. -/
def sumS (A : Nat → Int) : Nat → Int | 0 => 0 | n + 1 => sumS A n + satV (A n)
def sumB (A : Nat → Int) : Nat → Bool | 0 => false | n + 1 => sumB A n || satH (A n)
theorem sumS_bd (A : Nat → Int) (n : Nat) : -(n * 1152921504606846976 : Int) ≤ sumS A n ∧ sumS A n ≤ (n * 1152921504606846976 : Int) := by
  induction n with
  | zero => simp [sumS]
  | succ n ih =>
    have := satV_bd (A n)
    simp only [sumS]
    omega
theorem prod_bd (a b : Int) : -1329227995784915872903807060280344576 ≤ satV a * satV b ∧ satV a * satV b ≤ 1329227995784915872903807060280344576 := by
  have ha := satV_bd a
  have hb := satV_bd b
  generalize satV a = x at *
  generalize satV b = y at *
  have e : ((x * y).natAbs : Int) ≤ 1152921504606846976 * 1152921504606846976 := by
    rw [Int.natAbs_mul, Int.natCast_mul]
    exact Int.mul_le_mul (by omega) (by omega) (by omega) (by decide)
  omega
theorem dotS_bd (A B : Nat → Int) (n : Nat) : -(n * 1329227995784915872903807060280344576 : Int) ≤ dotS A B n ∧ dotS A B n ≤ (n * 1329227995784915872903807060280344576 : Int) := by
  induction n with
  | zero => simp [dotS]
  | succ n ih =>
    have := prod_bd (A n) (B n)
    simp only [dotS]
    omega
theorem shift_bd (a s : Int) (_s0 : 0 ≤ s) (s1 : s ≤ 66) : -85070591730234615865843651857942052864 ≤ satV a * 2 ^ s.toNat ∧ satV a * 2 ^ s.toNat ≤ 85070591730234615865843651857942052864 := by
  have ha := satV_bd a
  generalize satV a = x at *
  have h : (2 : Nat) ^ s.toNat ≤ 2 ^ 66 := Nat.pow_le_pow_right (by decide) (by omega)
  have h3 : (2 : Nat) ^ 66 = 73786976294838206464 := by decide
  have h2 : ((2 ^ s.toNat : Nat) : Int) = 2 ^ s.toNat := by simp
  have e : ((x * 2 ^ s.toNat).natAbs : Int) ≤ 1152921504606846976 * 73786976294838206464 := by
    rw [Int.natAbs_mul, Int.natCast_mul, ← h2, Int.natAbs_natCast]
    exact Int.mul_le_mul (by omega) (by omega) (Int.natCast_nonneg _) (by decide)
  omega
theorem rdiv_sign (x d : Int) (h : rdiv x d ≠ 0) : rdiv x d < 0 ↔ ¬ ((0 ≤ x) = (0 < d)) := by
  unfold rdiv at *
  have h1 : (0 : Int) ≤ (((2 * x.natAbs + d.natAbs) / (2 * d.natAbs) : Nat) : Int) := Int.natCast_nonneg _
  generalize (((2 * x.natAbs + d.natAbs) / (2 * d.natAbs) : Nat) : Int) = q at *
  by_cases hc : (0 ≤ x) = (0 < d)
  · rw [if_pos hc] at *; simp [hc]; omega
  · rw [if_neg hc] at *; simp [hc]; omega
end Go.Proofs.YtiajjiphknlldaaGreat
/- Contracts of package fx (1): Clamp, Sat, end, round, Mul, Sub. -/
/- Contracts of package fx (2): round, by, Mul, Div, MulDiv. -/
namespace Go.Proofs.YtiajjiphknlldaaGreat
open Go.RowKit
set_option maxRecDepth 100000
theorem clampV_of {a lo hi : Int} (h0 : ¬ hi < lo) (h1 : ¬ a < lo) (h2 : ¬ hi < a) : clampV a lo hi = a ∧ clampH a lo hi = false := by
  simp [clampV, clampH, h0, h1, h2]
theorem clamp_any (c : Addr) (h : Bool) (a lo hi : Int) (w : World) (hc : w.cell? c = some (.bool h)) (hf : w.frozen? c = false) :
    Calls Tryz.prog 36 #[.pointer (some c), .int .i64 a, .int .i64 lo, .int .i64 hi] w fun e w' =>
      e = .returned (.int .i64 (clampV a lo hi)) ∧ w.setCell c (.bool (h || clampH a lo hi)) = w' := by
  by_cases h0 : hi < lo
  · have e1 : clampV a lo hi = lo := by simp [clampV, h0]
    have e2 : (h || clampH a lo hi) = true := by simp [clampH, h0]
    rw [e1, e2]
    clear e1 e2
    go_enter Tryz.func36, Tryz.ntmps36
    go_wp2
    go_ret
    exact ⟨rfl, rfl⟩
  by_cases h1 : a < lo
  · have e1 : clampV a lo hi = lo := by simp [clampV, h1]
    have e2 : (h || clampH a lo hi) = true := by simp [clampH, h1]
    rw [e1, e2]
    clear e1 e2
    go_enter Tryz.func36, Tryz.ntmps36
    go_wp2
    go_ret
    exact ⟨rfl, rfl⟩
  by_cases h2 : hi < a
  · have e1 : clampV a lo hi = hi := by simp [clampV, h0, h1, h2]
    have e2 : (h || clampH a lo hi) = true := by simp [clampH, h2]
    rw [e1, e2]
    clear e1 e2
    go_enter Tryz.func36, Tryz.ntmps36
    go_wp2
    go_ret
    exact ⟨rfl, rfl⟩
  · obtain ⟨e1, e2⟩ := clampV_of h0 h1 h2
    rw [e1, e2, Bool.or_false, setCell_self w c _ hc]
    clear e1 e2
    go_enter Tryz.func36, Tryz.ntmps36
    go_wp2
    go_ret
    exact ⟨rfl, rfl⟩

theorem sat_any (c : Addr) (h : Bool) (a : Int) (w : World) (hc : w.cell? c = some (.bool h)) (hf : w.frozen? c = false) :
    Calls Tryz.prog 15 #[.pointer (some c), .int .i64 a] w fun e w' => e = .returned (.int .i64 (satV a)) ∧ w.setCell c (.bool (h || satH a)) = w' := by
  have H := fun w hc hf => clamp_any c h a (-1152921504606846976) 1152921504606846976 w hc hf
  go_enter Tryz.func15, Tryz.ntmps15
  go_wp2_with (go_at_call 36; refine (clamp_any c h a _ _ _ hc hf).mono ?_; rintro e w' ⟨rfl, rfl⟩)
  go_ret
  exact ⟨rfl, rfl⟩

/-- The bound on a number's side. -/
def signV (neg : Bool) : Int := if neg then -1152921504606846976 else 1152921504606846976
theorem sign_any (neg : Bool) (w : World) : Calls Tryz.prog 94 #[.bool neg] w fun e w' => e = .returned (.int .i64 (signV neg)) ∧ w = w' := by
  cases neg
  all_goals
    go_enter Tryz.func94, Tryz.ntmps94
    go_wp2
    go_ret
    exact ⟨rfl, rfl⟩
theorem end_ok (c : Addr) (h : Bool) (a : Int) (neg : Bool) (w : World) (hc : w.cell? c = some (.bool h)) (hf : w.frozen? c = false) :
    Calls Tryz.prog 74 #[.pointer (some c), .int .i64 a, .bool true, .bool neg] w fun e w' => e = .returned (.int .i64 (satV a)) ∧ w.setCell c (.bool (h || satH a)) = w' := by
  go_enter Tryz.func74, Tryz.ntmps74
  go_wp2_with (go_at_call 15; refine (sat_any c h a _ hc hf).mono ?_; rintro e w' ⟨rfl, rfl⟩)
  go_ret
  exact ⟨rfl, rfl⟩
theorem end_no (c : Addr) (h : Bool) (a : Int) (neg : Bool) (w : World) (hc : w.cell? c = some (.bool h)) (hf : w.frozen? c = false) :
    Calls Tryz.prog 74 #[.pointer (some c), .int .i64 a, .bool false, .bool neg] w fun e w' => e = .returned (.int .i64 (signV neg)) ∧ w.setCell c (.bool true) = w' := by
  go_enter Tryz.func74, Tryz.ntmps74
  go_wp2_with (go_at_call 94; refine (sign_any neg _).mono ?_; rintro e w' ⟨rfl, rfl⟩)
  go_ret
  exact ⟨rfl, rfl⟩
/-- What was reckoned (x), clamped. -/
theorem end_any (c : Addr) (h : Bool) (x : Int) (neg : Bool) (w : World) (hc : w.cell? c = some (.bool h)) (hf : w.frozen? c = false) (hn : ¬ r64F x = true → neg = decide (x < 0)) :
    Calls Tryz.prog 74 #[.pointer (some c), .int .i64 (r64V x), .bool (r64F x), .bool neg] w fun e w' => e = .returned (.int .i64 (satV x)) ∧ w.setCell c (.bool (h || satH x)) = w' := by
  by_cases hx : r64F x = true
  · have : r64V x = x := by simp [r64V, hx]
    rw [hx, this]
    exact end_ok c h x neg w hc hf
  · have h2 : r64F x = false := by simpa using hx
    have h3 := hn hx
    rw [h2]
    refine (end_no c h _ neg w hc hf).mono fun e w' hh => ⟨hh.1.trans (retI ?_), ?_⟩
    · subst h3
      by_cases h0 : x < 0
      · simp [r64F] at h2; simp [signV, satV, clampV, h0]; omega
      · simp [r64F] at h2; simp [signV, satV, clampV, h0]; omega
    · rw [← hh.2]
      have : satH x = true := by simp [r64F] at h2; simp [satH, clampH]; omega
      simp [this]
end Go.Proofs.YtiajjiphknlldaaGreat
namespace Go.Proofs.YtiajjiphknlldaaGreat
open Go.RowKit
set_option maxRecDepth 100000
theorem hi_neg (A : Int) : decide (hi64 A < 0) = decide (A < 0) := by
  rw [Bool.eq_iff_iff]; simp; unfold hi64; omega
theorem rsh_neg (A : Int) (k : Nat) (h : ¬ r64F (rsh A k) = true) : decide (A < 0) = decide (rsh A k < 0) := by
  have hp : (0 : Int) < 2 ^ k := Int.pow_pos (by decide)
  have h0 : rsh A k ≠ 0 := by intro e; rw [e] at h; exact h (by decide)
  have := rdiv_sign A (2 ^ k) h0
  rw [Bool.eq_iff_iff]; simp only [decide_eq_true_eq]
  unfold rsh at *
  rw [this]; simp [hp]
theorem fround_walk (c : Addr) (h : Bool) (x y s v : Int) (ok : Bool) (V : Int) (H : Bool) (w : World) (hc : w.cell? c = some (.bool h)) (hf : w.frozen? c = false) (s0 : 0 ≤ s) (s1 : s ≤ 120)
    (hr : ∀ w, Calls Tryz.prog 64 #[.agg #[.int .i64 x, .int .u64 y], .int .i64 s] w fun e w' => e = .returned (.tuple #[.int .i64 v, .bool ok]) ∧ Below w.heap.size w w')
    (he : ∀ w, w.cell? c = some (.bool h) → w.frozen? c = false → Calls Tryz.prog 74 #[.pointer (some c), .int .i64 v, .bool ok, .bool (decide (x < 0))] w fun e w' => e = .returned (.int .i64 V) ∧ w.setCell c (.bool H) = w') :
    Calls Tryz.prog 75 #[.pointer (some c), .agg #[.int .i64 x, .int .u64 y], .int .i64 s] w fun e w' => e = .returned (.int .i64 V) ∧ Upd c H w w' := by
  have c1 : ¬ s < 0 := by omega
  have c2 : ¬ 120 < s := by omega
  have hcb := World.block_lt_of_cell? w c hc
  have HR := Lib.hid hr
  have HE := Lib.hid he
  clear hr he
  go_enter Tryz.func75, Tryz.ntmps75
  go_wp2_with fail
  refine (HR.out _).mono ?_; rintro e w1 ⟨rfl, hb1⟩
  have hb1z0 : w.heap.size < w1.heap.size := by have := hb1.size; (try simp at this); omega
  have hb1c0_0 := hb1.cell (p := ⟨w.heap.size, 0, none⟩) (by (try simp); (try omega))
  have hb1f0_0 := hb1.frozen (p := ⟨w.heap.size, 0, none⟩) (by (try simp); (try omega))
  simp [go_sem, *] at hb1c0_0 hb1f0_0
  have hb1c0_1 := hb1.cell (p := ⟨w.heap.size, 1, none⟩) (by (try simp); (try omega))
  have hb1f0_1 := hb1.frozen (p := ⟨w.heap.size, 1, none⟩) (by (try simp); (try omega))
  simp [go_sem, *] at hb1c0_1 hb1f0_1
  have k1 : w1.cell? c = some (.bool h) := (hb1.cell (by simp; omega)).trans (by simp [World.cell?_alloc_lt, hcb, hc])
  have k2 : w1.frozen? c = false := (hb1.frozen (by simp; omega)).trans (by rw [frozen?_alloc_cells]; exact hf)
  go_wp2_with fail
  refine (HE.out _ k1 k2).mono ?_; rintro e w2 ⟨rfl, rfl⟩
  go_wp2_with fail
  go_ret
  refine ⟨rfl, ?_⟩
  have hb : Below w.heap.size w w1 := by (repeat (first | with_reducible exact Below.refl _ _ | with_reducible assumption | with_reducible apply Below.drew | (with_reducible refine below_drewN ?_ _) | (with_reducible refine Below.alloc ?_ (by (try simp) <;> omega) _) | (with_reducible refine Below.setCell ?_ (by (try simp) <;> omega) _) | (with_reducible refine Below.trans ?_ (Below.mono (by assumption) (by (try simp) <;> omega)))))
  exact Upd.after hb (Upd.set c H w1)
theorem fround_any (c : Addr) (h : Bool) (A s : Int) (w : World) (hc : w.cell? c = some (.bool h)) (hf : w.frozen? c = false) (s0 : 0 ≤ s) (s1 : s ≤ 120)
    (a1 : -170141183460469231731687303715884105728 ≤ A) (a2 : A < 170141183460469231731687303715884105728) :
    Calls Tryz.prog 75 #[.pointer (some c), .agg #[.int .i64 (hi64 A), .int .u64 (lo64 A)], .int .i64 s] w fun e w' =>
      e = .returned (.int .i64 (satV (rsh A s.toNat))) ∧ Upd c (h || satH (rsh A s.toNat)) w w' :=
  fround_walk c h _ _ s _ _ _ _ w hc hf s0 s1 (fun w => round_any A s w s0 (by omega) a1 a2)
    (fun w k1 k2 => end_any c h (rsh A s.toNat) _ w k1 k2 (fun hn => by rw [hi_neg]; exact rsh_neg A _ hn))
theorem fround_bad (c : Addr) (h : Bool) (x y s : Int) (w : World) (hc : w.cell? c = some (.bool h)) (hf : w.frozen? c = false) (s0 : s < 0 ∨ 120 < s) :
    Calls Tryz.prog 75 #[.pointer (some c), .agg #[.int .i64 x, .int .u64 y], .int .i64 s] w fun e w' => e = .returned (.int .i64 0) ∧ Upd c true w w' := by
  have hcb := World.block_lt_of_cell? w c hc
  have hcn : w.heap.size ≠ c.block := by omega
  have k1 : ∀ o, (w.alloc o).cell? c = some (.bool h) := fun o => by simp [World.cell?_alloc_lt, hcb, hc]
  have k2 : ∀ cs t, (w.alloc (.cells cs t)).frozen? c = false := fun cs t => by rw [frozen?_alloc_cells]; exact hf
  by_cases h1 : s < 0
  · go_enter Tryz.func75, Tryz.ntmps75
    go_wp2_with fail
    go_ret
    refine ⟨rfl, ?_⟩
    exact Upd.after (by (repeat (first | with_reducible exact Below.refl _ _ | with_reducible assumption | with_reducible apply Below.drew | (with_reducible refine below_drewN ?_ _) | (with_reducible refine Below.alloc ?_ (by (try simp) <;> omega) _) | (with_reducible refine Below.setCell ?_ (by (try simp) <;> omega) _) | (with_reducible refine Below.trans ?_ (Below.mono (by assumption) (by (try simp) <;> omega)))))) (Upd.set c true _)
  · have h2 : 120 < s := by omega
    go_enter Tryz.func75, Tryz.ntmps75
    go_wp2_with fail
    go_ret
    refine ⟨rfl, ?_⟩
    exact Upd.after (by (repeat (first | with_reducible exact Below.refl _ _ | with_reducible assumption | with_reducible apply Below.drew | (with_reducible refine below_drewN ?_ _) | (with_reducible refine Below.alloc ?_ (by (try simp) <;> omega) _) | (with_reducible refine Below.setCell ?_ (by (try simp) <;> omega) _) | (with_reducible refine Below.trans ?_ (Below.mono (by assumption) (by (try simp) <;> omega)))))) (Upd.set c true _)
end Go.Proofs.YtiajjiphknlldaaGreat
/- Contracts of package fx (3): Mul, by, Div, MulDiv. -/
namespace Go.Proofs.YtiajjiphknlldaaGreat
open Go.RowKit
set_option maxRecDepth 100000
theorem fmul_walk (c : Addr) (h : Bool) (a b s x y A V : Int) (H : Bool) (w : World) (hc : w.cell? c = some (.bool h)) (hf : w.frozen? c = false)
    (hx : satV a = x) (hy : satV b = y)
    (hm : ∀ w, Calls Tryz.prog 30 #[.int .i64 x, .int .i64 y] w fun e w' => e = .returned (.agg #[.int .i64 (hi64 A), .int .u64 (lo64 A)]) ∧ Below w.heap.size w w')
    (hr : ∀ w, w.cell? c = some (.bool (h || satH a || satH b)) → w.frozen? c = false → Calls Tryz.prog 75 #[.pointer (some c), .agg #[.int .i64 (hi64 A), .int .u64 (lo64 A)], .int .i64 s] w fun e w' =>
      e = .returned (.int .i64 V) ∧ Upd c H w w') :
    Calls Tryz.prog 43 #[.pointer (some c), .int .i64 a, .int .i64 b, .int .i64 s] w fun e w' => e = .returned (.int .i64 V) ∧ Upd c H w w' := by
  have hcb := World.block_lt_of_cell? w c hc
  have c1 : (w.setCell c (.bool (h || satH a))).cell? c = some (.bool (h || satH a)) := World.cell?_setCell_same _ _ _ hc
  have c2 : ((w.setCell c (.bool (h || satH a))).setCell c (.bool (h || satH a || satH b))).cell? c = some (.bool (h || satH a || satH b)) := World.cell?_setCell_same _ _ _ c1
  have HM := Lib.hid hm
  have HR := Lib.hid hr
  have C2 := Lib.hid c2
  clear hm hr c2
  go_enter Tryz.func43, Tryz.ntmps43
  go_wp2_with fail
  refine (sat_any c h a _ hc hf).mono ?_; rintro e w' ⟨rfl, rfl⟩
  go_wp2_with fail
  refine (sat_any c _ b _ c1 (by simp [hf])).mono ?_; rintro e w' ⟨rfl, rfl⟩
  have HW := Lib.hid (Upd.trans (Upd.set c (h || satH a) w) (Upd.set c (h || satH a || satH b) _))
  have F2 : ((w.setCell c (.bool (h || satH a))).setCell c (.bool (h || satH a || satH b))).frozen? c = false := by simp [hf]
  have Z2 := Upd.size HW.out
  obtain ⟨w2, hw2⟩ : ∃ w2, (w.setCell c (.bool (h || satH a))).setCell c (.bool (h || satH a || satH b)) = w2 := ⟨_, rfl⟩
  rw [hw2] at HW C2 F2 Z2 ⊢
  clear hw2 c1 hc hf
  go_wp2_with fail
  refine (HM.out _).mono ?_; rintro e w3 ⟨rfl, hb3⟩
  have k1 : w3.cell? c = some (.bool (h || satH a || satH b)) := (hb3.cell (by omega)).trans C2.out
  have k2 : w3.frozen? c = false := (hb3.frozen (by omega)).trans F2
  have hz := hb3.size
  have k3 : ∀ o, (w3.alloc o).cell? c = some (.bool (h || satH a || satH b)) := fun o => by rw [World.cell?_alloc_lt _ _ _ (by omega)]; exact k1
  have k4 : ∀ cs t, (w3.alloc (.cells cs t)).frozen? c = false := fun cs t => by rw [frozen?_alloc_cells]; exact k2
  go_wp2_with fail
  refine (HR.out _ (k3 _) (k4 _ _)).mono ?_; rintro e w4 ⟨rfl, hu4⟩
  go_wp2_with fail
  go_ret
  refine ⟨rfl, ?_⟩
  exact HW.out.trans (Upd.after hb3 (Upd.after (by (repeat (first | with_reducible exact Below.refl _ _ | with_reducible apply Below.drew | (with_reducible refine below_drewN ?_ _) | (with_reducible refine Below.alloc ?_ (by (try simp) <;> omega) _) | (with_reducible refine Below.setCell ?_ (by (try simp) <;> omega) _)))) hu4))
theorem fmul_any (c : Addr) (h : Bool) (a b s : Int) (w : World) (hc : w.cell? c = some (.bool h)) (hf : w.frozen? c = false) :
    Calls Tryz.prog 43 #[.pointer (some c), .int .i64 a, .int .i64 b, .int .i64 s] w fun e w' => e = .returned (.int .i64 (mulV a b s)) ∧ Upd c (h || mulH a b s) w w' := by
  have ha := satV_bd a
  have hb := satV_bd b
  have hp := prod_bd a b
  by_cases hs : s < 0 ∨ 120 < s
  · have e1 : mulV a b s = 0 := by simp [mulV, hs]
    have e2 : (h || mulH a b s) = true := by simp [mulH, hs]
    rw [e1, e2]
    exact fmul_walk c h a b s _ _ _ _ _ w hc hf rfl rfl (fun w => mul_any _ _ _ w (by omega) (by omega) (by omega) (by omega) rfl (by omega) (by omega))
      (fun w k1 k2 => fround_bad c _ _ _ s w k1 k2 hs)
  · have e1 : mulV a b s = satV (rsh (satV a * satV b) s.toNat) := by simp only [mulV, if_neg hs]
    have e2 : (h || mulH a b s) = ((h || satH a || satH b) || satH (rsh (satV a * satV b) s.toNat)) := by simp [mulH, hs, Bool.or_assoc]
    rw [e1, e2]
    exact fmul_walk c h a b s _ _ _ _ _ w hc hf rfl rfl (fun w => mul_any _ _ _ w (by omega) (by omega) (by omega) (by omega) rfl (by omega) (by omega))
      (fun w k1 k2 => fround_any c _ _ s w k1 k2 (by omega) (by omega) (by omega) (by omega))
theorem rdiv_neg (A d : Int) (hd : d ≠ 0) (h : ¬ r64F (rdiv A d) = true) : (!decide (A < 0) == decide (d < 0)) = decide (rdiv A d < 0) := by
  have h0 : rdiv A d ≠ 0 := by intro e; rw [e] at h; exact h (by decide)
  have := rdiv_sign A d h0
  have e : decide (rdiv A d < 0) = decide (¬ ((0 ≤ A) = (0 < d))) := by rw [Bool.eq_iff_iff]; simp only [decide_eq_true_eq]; exact this
  rw [e]
  by_cases h1 : A < 0 <;> by_cases h2 : d < 0
  · simp [h1, h2, show ¬ 0 ≤ A by omega, show ¬ 0 < d by omega]
  · simp [h1, h2, show ¬ 0 ≤ A by omega, show 0 < d by omega]
  · simp [h1, h2, show 0 ≤ A by omega, show ¬ 0 < d by omega]
  · simp [h1, h2, show 0 ≤ A by omega, show 0 < d by omega]
theorem by_any (c : Addr) (h : Bool) (A d : Int) (w : World) (hc : w.cell? c = some (.bool h)) (hf : w.frozen? c = false)
    (d1 : -9223372036854775808 ≤ d) (d2 : d < 9223372036854775808) (a1 : -170141183460469231731687303715884105728 ≤ A) (a2 : A < 170141183460469231731687303715884105728) :
    Calls Tryz.prog 70 #[.pointer (some c), .agg #[.int .i64 (hi64 A), .int .u64 (lo64 A)], .int .i64 d] w fun e w' =>
      e = .returned (.int .i64 (byV A d)) ∧ Upd c (h || byH A d) w w' := by
  have hcb := World.block_lt_of_cell? w c hc
  have hcn : ∀ o, c ≠ ⟨w.heap.size, o, none⟩ := fun o e => by rw [e] at hcb; simp at hcb
  have k1 : ∀ o, (w.alloc o).cell? c = some (.bool h) := fun o => by simp [World.cell?_alloc_lt, hcb, hc]
  have k2 : ∀ cs t, (w.alloc (.cells cs t)).frozen? c = false := fun cs t => by rw [frozen?_alloc_cells]; exact hf
  by_cases hd : d = 0
  · subst hd
    have e2 : (h || byH A 0) = true := by simp [byH]
    rw [e2]
    by_cases hA : A = 0
    · subst hA
      have e1 : byV 0 0 = 0 := by decide
      have g1 : hi64 0 = 0 := by decide
      have g2 : lo64 0 = 0 := by decide
      rw [e1, g1, g2]
      clear e1 g1 g2 a1 a2 d1 d2
      go_enter Tryz.func70, Tryz.ntmps70
      go_wp2_with fail
      go_ret
      exact ⟨rfl, Upd.after (by (repeat (first | with_reducible exact Below.refl _ _ | with_reducible assumption | with_reducible apply Below.drew | (with_reducible refine below_drewN ?_ _) | (with_reducible refine Below.alloc ?_ (by (try simp) <;> omega) _) | (with_reducible refine Below.setCell ?_ (by (try simp) <;> omega) _) | (with_reducible refine Below.trans ?_ (Below.mono (by assumption) (by (try simp) <;> omega)))))) (Upd.set c true _)⟩
    · have e1 : byV A 0 = signV (decide (hi64 A < 0)) := by
        rw [hi_neg]; by_cases h0 : A < 0 <;> simp [byV, hA, h0, signV]
      have g : hi64 A = 0 → lo64 A = 0 → False := by unfold hi64 lo64; omega
      rw [e1]
      obtain ⟨x, hx⟩ : ∃ x, hi64 A = x := ⟨_, rfl⟩
      obtain ⟨y, hy⟩ : ∃ y, lo64 A = y := ⟨_, rfl⟩
      rw [hx, hy] at g
      rw [hx, hy]
      clear e1 a1 a2 d1 d2 hx hy hA e2
      by_cases hx0 : x = 0
      · subst hx0
        have hy0 : (y == 0) = false := by rw [Bool.eq_false_iff]; intro hh; simp at hh; exact g rfl hh
        clear g
        rw [show decide ((0 : Int) < 0) = false from rfl]
        go_enter Tryz.func70, Tryz.ntmps70
        go_wp2_with fail
        refine (sign_any _ _).mono ?_; rintro e w' ⟨rfl, rfl⟩
        go_wp2_with fail
        go_ret
        exact ⟨rfl, Upd.after (by (repeat (first | with_reducible exact Below.refl _ _ | with_reducible assumption | with_reducible apply Below.drew | (with_reducible refine below_drewN ?_ _) | (with_reducible refine Below.alloc ?_ (by (try simp) <;> omega) _) | (with_reducible refine Below.setCell ?_ (by (try simp) <;> omega) _) | (with_reducible refine Below.trans ?_ (Below.mono (by assumption) (by (try simp) <;> omega)))))) (Upd.set c true _)⟩
      · have hx1 : (x == 0) = false := by simpa using hx0
        clear g
        go_enter Tryz.func70, Tryz.ntmps70
        go_wp2_with fail
        refine (sign_any _ _).mono ?_; rintro e w' ⟨rfl, rfl⟩
        go_wp2_with fail
        go_ret
        exact ⟨rfl, Upd.after (by (repeat (first | with_reducible exact Below.refl _ _ | with_reducible assumption | with_reducible apply Below.drew | (with_reducible refine below_drewN ?_ _) | (with_reducible refine Below.alloc ?_ (by (try simp) <;> omega) _) | (with_reducible refine Below.setCell ?_ (by (try simp) <;> omega) _) | (with_reducible refine Below.trans ?_ (Below.mono (by assumption) (by (try simp) <;> omega)))))) (Upd.set c true _)⟩
  · have e1 : byV A d = satV (rdiv A d) := by simp [byV, hd]
    have e2 : (h || byH A d) = (h || satH (rdiv A d)) := by simp [byH, hd]
    rw [e1, e2]
    have hd0 : (d == 0) = false := by simpa using hd
    have H1 := Lib.hid (fun w => wdiv_any A d w hd d1 d2 a1 a2)
    have H2 := Lib.hid (fun w k1 k2 => end_any c h (rdiv A d) (!decide (hi64 A < 0) == decide (d < 0)) w k1 k2 (fun hn => by rw [hi_neg]; exact rdiv_neg A d hd hn))
    obtain ⟨V, hV⟩ : ∃ V, satV (rdiv A d) = V := ⟨_, rfl⟩
    obtain ⟨H, hH⟩ : ∃ H, (h || satH (rdiv A d)) = H := ⟨_, rfl⟩
    obtain ⟨v, hv⟩ : ∃ v, r64V (rdiv A d) = v := ⟨_, rfl⟩
    obtain ⟨o, ho⟩ : ∃ o, r64F (rdiv A d) = o := ⟨_, rfl⟩
    obtain ⟨x, hx⟩ : ∃ x, hi64 A = x := ⟨_, rfl⟩
    obtain ⟨y, hy⟩ : ∃ y, lo64 A = y := ⟨_, rfl⟩
    rw [hV, hH, hx, hv, ho] at H2
    rw [hv, ho, hx, hy] at H1
    rw [hV, hH, hx, hy]
    clear hV hH hx hy hv ho a1 a2 d1 d2 e1 e2 k1 k2 hd
    go_enter Tryz.func70, Tryz.ntmps70
    go_wp2_with fail
    refine (H1.out _).mono ?_; rintro e w1 ⟨rfl, hb1⟩
    have hb1z0 : w.heap.size < w1.heap.size := by have := hb1.size; (try simp at this); omega
    have hb1c0_0 := hb1.cell (p := ⟨w.heap.size, 0, none⟩) (by (try simp); (try omega))
    have hb1f0_0 := hb1.frozen (p := ⟨w.heap.size, 0, none⟩) (by (try simp); (try omega))
    simp [go_sem, *] at hb1c0_0 hb1f0_0
    have hb1c0_1 := hb1.cell (p := ⟨w.heap.size, 1, none⟩) (by (try simp); (try omega))
    have hb1f0_1 := hb1.frozen (p := ⟨w.heap.size, 1, none⟩) (by (try simp); (try omega))
    simp [go_sem, *] at hb1c0_1 hb1f0_1
    have k1 : w1.cell? c = some (.bool h) := (hb1.cell (by simp; omega)).trans (by simp [World.cell?_alloc_lt, hcb, hc])
    have k2 : w1.frozen? c = false := (hb1.frozen (by simp; omega)).trans (by rw [frozen?_alloc_cells]; exact hf)
    go_wp2_with fail
    refine (H2.out _ k1 k2).mono ?_; rintro e w2 ⟨rfl, rfl⟩
    go_wp2_with fail
    go_ret
    refine ⟨rfl, ?_⟩
    have hb : Below w.heap.size w w1 := by (repeat (first | with_reducible exact Below.refl _ _ | with_reducible assumption | with_reducible apply Below.drew | (with_reducible refine below_drewN ?_ _) | (with_reducible refine Below.alloc ?_ (by (try simp) <;> omega) _) | (with_reducible refine Below.setCell ?_ (by (try simp) <;> omega) _) | (with_reducible refine Below.trans ?_ (Below.mono (by assumption) (by (try simp) <;> omega)))))
    exact Upd.after hb (Upd.set c H w1)
end Go.Proofs.YtiajjiphknlldaaGreat
/- Contracts of package fx (4): Div, MulDiv. -/
namespace Go.Proofs.YtiajjiphknlldaaGreat
open Go.RowKit
set_option maxRecDepth 100000
theorem fdiv_walk (c : Addr) (h : Bool) (a b s x y A V : Int) (H : Bool) (w : World) (hc : w.cell? c = some (.bool h)) (hf : w.frozen? c = false) (s0 : 0 ≤ s) (s1 : s ≤ 66)
    (hx : satV a = x) (hy : satV b = y)
    (hm : ∀ w, Calls Tryz.prog 71 #[.int .i64 x, .int .i64 s] w fun e w' => e = .returned (.tuple #[.agg #[.int .i64 (hi64 A), .int .u64 (lo64 A)], .bool true]) ∧ Below w.heap.size w w')
    (hr : ∀ w, w.cell? c = some (.bool (h || satH a || satH b)) → w.frozen? c = false → Calls Tryz.prog 70 #[.pointer (some c), .agg #[.int .i64 (hi64 A), .int .u64 (lo64 A)], .int .i64 y] w fun e w' =>
      e = .returned (.int .i64 V) ∧ Upd c H w w') :
    Calls Tryz.prog 39 #[.pointer (some c), .int .i64 a, .int .i64 b, .int .i64 s] w fun e w' => e = .returned (.int .i64 V) ∧ Upd c H w w' := by
  have hcb := World.block_lt_of_cell? w c hc
  have n1 : ¬ s < 0 := by omega
  have n2 : ¬ 66 < s := by omega
  have c1 : (w.setCell c (.bool (h || satH a))).cell? c = some (.bool (h || satH a)) := World.cell?_setCell_same _ _ _ hc
  have c2 : ((w.setCell c (.bool (h || satH a))).setCell c (.bool (h || satH a || satH b))).cell? c = some (.bool (h || satH a || satH b)) := World.cell?_setCell_same _ _ _ c1
  have HM := Lib.hid hm
  have HR := Lib.hid hr
  have C2 := Lib.hid c2
  clear hm hr c2
  go_enter Tryz.func39, Tryz.ntmps39
  go_wp2_with fail
  refine (sat_any c h a _ hc hf).mono ?_; rintro e w' ⟨rfl, rfl⟩
  go_wp2_with fail
  refine (sat_any c _ b _ c1 (by simp [hf])).mono ?_; rintro e w' ⟨rfl, rfl⟩
  have HW := Lib.hid (Upd.trans (Upd.set c (h || satH a) w) (Upd.set c (h || satH a || satH b) _))
  have F2 : ((w.setCell c (.bool (h || satH a))).setCell c (.bool (h || satH a || satH b))).frozen? c = false := by simp [hf]
  have Z2 := Upd.size HW.out
  obtain ⟨w2, hw2⟩ : ∃ w2, (w.setCell c (.bool (h || satH a))).setCell c (.bool (h || satH a || satH b)) = w2 := ⟨_, rfl⟩
  rw [hw2] at HW C2 F2 Z2 ⊢
  clear hw2 c1 hc hf
  go_wp2_with fail
  refine (HM.out _).mono ?_; rintro e w3 ⟨rfl, hb3⟩
  have k1 : w3.cell? c = some (.bool (h || satH a || satH b)) := (hb3.cell (by omega)).trans C2.out
  have k2 : w3.frozen? c = false := (hb3.frozen (by omega)).trans F2
  have hz := hb3.size
  have k3 : ∀ o, (w3.alloc o).cell? c = some (.bool (h || satH a || satH b)) := fun o => by rw [World.cell?_alloc_lt _ _ _ (by omega)]; exact k1
  have k4 : ∀ cs t, (w3.alloc (.cells cs t)).frozen? c = false := fun cs t => by rw [frozen?_alloc_cells]; exact k2
  go_wp2_with fail
  refine (HR.out _ (k3 _) (k4 _ _)).mono ?_; rintro e w4 ⟨rfl, hu4⟩
  go_wp2_with fail
  go_ret
  refine ⟨rfl, ?_⟩
  exact HW.out.trans (Upd.after hb3 (Upd.after (by (repeat (first | with_reducible exact Below.refl _ _ | with_reducible apply Below.drew | (with_reducible refine below_drewN ?_ _) | (with_reducible refine Below.alloc ?_ (by (try simp) <;> omega) _) | (with_reducible refine Below.setCell ?_ (by (try simp) <;> omega) _)))) hu4))
theorem fdiv_bad (c : Addr) (h : Bool) (a b s : Int) (w : World) (hc : w.cell? c = some (.bool h)) (hf : w.frozen? c = false) (hs : s < 0 ∨ 66 < s) :
    Calls Tryz.prog 39 #[.pointer (some c), .int .i64 a, .int .i64 b, .int .i64 s] w fun e w' => e = .returned (.int .i64 0) ∧ Upd c true w w' := by
  have c1 : (w.setCell c (.bool (h || satH a))).cell? c = some (.bool (h || satH a)) := World.cell?_setCell_same _ _ _ hc
  have c2 : ((w.setCell c (.bool (h || satH a))).setCell c (.bool (h || satH a || satH b))).cell? c = some (.bool (h || satH a || satH b)) := World.cell?_setCell_same _ _ _ c1
  by_cases h1 : s < 0
  · clear hs
    go_enter Tryz.func39, Tryz.ntmps39
    go_wp2_with fail
    refine (sat_any c h a _ hc hf).mono ?_; rintro e w' ⟨rfl, rfl⟩
    go_wp2_with fail
    refine (sat_any c _ b _ c1 (by simp [hf])).mono ?_; rintro e w' ⟨rfl, rfl⟩
    go_wp2_with fail
    go_ret
    exact ⟨rfl, Upd.trans (Upd.trans (Upd.set c _ w) (Upd.set c _ _)) (Upd.set c true _)⟩
  · have h2 : 66 < s := by omega
    clear hs
    go_enter Tryz.func39, Tryz.ntmps39
    go_wp2_with fail
    refine (sat_any c h a _ hc hf).mono ?_; rintro e w' ⟨rfl, rfl⟩
    go_wp2_with fail
    refine (sat_any c _ b _ c1 (by simp [hf])).mono ?_; rintro e w' ⟨rfl, rfl⟩
    go_wp2_with fail
    go_ret
    exact ⟨rfl, Upd.trans (Upd.trans (Upd.set c _ w) (Upd.set c _ _)) (Upd.set c true _)⟩
theorem fdiv_any (c : Addr) (h : Bool) (a b s : Int) (w : World) (hc : w.cell? c = some (.bool h)) (hf : w.frozen? c = false) :
    Calls Tryz.prog 39 #[.pointer (some c), .int .i64 a, .int .i64 b, .int .i64 s] w fun e w' => e = .returned (.int .i64 (divV a b s)) ∧ Upd c (h || divH a b s) w w' := by
  have ha := satV_bd a
  have hb := satV_bd b
  by_cases hs : s < 0 ∨ 66 < s
  · have e1 : divV a b s = 0 := by simp [divV, hs]
    have e2 : (h || divH a b s) = true := by simp [divH, hs]
    rw [e1, e2]
    exact fdiv_bad c h a b s w hc hf hs
  · have hp := shift_bd a s (by omega) (by omega)
    have e1 : divV a b s = byV (satV a * 2 ^ s.toNat) (satV b) := by simp only [divV, if_neg hs]
    have e2 : (h || divH a b s) = ((h || satH a || satH b) || byH (satV a * 2 ^ s.toNat) (satV b)) := by simp [divH, hs, Bool.or_assoc]
    rw [e1, e2]
    exact fdiv_walk c h a b s _ _ _ _ _ w hc hf (by omega) (by omega) rfl rfl (fun w => shift_any _ _ _ w (by omega) (by omega) (by omega) (by omega) rfl)
      (fun w k1 k2 => by_any c _ _ _ w k1 k2 (by omega) (by omega) (by omega) (by omega))

end Go.Proofs.YtiajjiphknlldaaGreat
/- A region that draws its order, whose last operation (number L, a store that waits for all others) may spoil what the loads read: the condition S is asked behind every operation but that one. -/
namespace Go.Proofs.YtiajjiphknlldaaGreat
open Go
section
variable {P : Program} {ops : Array Oper} {Q : Exit → Act → World → Prop} {md : Region.Mode} {S : World → Prop} {L : Nat}

/-- Whatever order is picked; S holds behind every operation that is carried out, till number L has come up. -/
def wpAnyM (P : Program) (md : Region.Mode) (ops : Array Oper) (Q : Exit → Act → World → Prop) (S : World → Prop) (L : Nat) : Nat → Array Bool → Act → World → Prop
  | 0, listed, a, w => Region.ready md ops listed = [] ∧ Q .normal a w
  | fuel + 1, listed, a, w =>
    (Region.ready md ops listed = [] → Q .normal a w) ∧
    ∀ i ∈ Region.ready md ops listed, wpOp P ops Q i (fun a' w' => ((listed.setIfInBounds i true).getD L false = true ∨ S w') ∧ wpAnyM P md ops Q S L fuel (listed.setIfInBounds i true) a' w') a w

theorem wpAny_of_M : ∀ (fuel : Nat) (listed : Array Bool) (a : Act) (w : World), wpAnyM P md ops Q S L fuel listed a w → wpAny P md ops Q fuel listed a w
  | 0, _, _, _, h => h
  | fuel + 1, _, _, _, h => ⟨h.1, fun i hi => wpOp_mono (fun a' w' h' => wpAny_of_M fuel _ a' w' h'.2) (h.2 i hi)⟩

theorem getD_of_ready {i : Nat} {listed : Array Bool} (h0 : listed.getD i true = false) (h1 : listed.getD i false = true) : False := by
  rcases Nat.lt_or_ge i listed.size with h' | h'
  · simp [h'] at h0 h1; rw [h0] at h1; cases h1
  · simp [Array.getElem?_eq_none h'] at h1

theorem getD_set_ne' {listed : Array Bool} {i L : Nat} (b : Bool) (h : i ≠ L) : (listed.setIfInBounds i true).getD L b = listed.getD L b := getD_set_ne b h

/-- G: in the worlds in which number i is known to yield. -/
theorem wpAnyM_first {G : World → Prop} {i : Nat} {oi : Oper} {v : Value} (hi : ops[i]? = some oi) (hsel : ∀ (j : Nat) (o : Oper) cs b, ops[j]? = some o → o.op ≠ .select cs b)
    (hQ : ∀ c a w, Q (.panic c) (a.put oi.dst v) w → Q (.panic c) a w) (hiL : i ≠ L)
    (hG : (Region.waitsFor md ops L i = true ∧ ∀ w, S w → G w) ∨ ∀ w, G w) :
    ∀ (fuel : Nat) (listed : Array Bool) (a : Act) (w : World), (Region.waitsFor md ops L i = true → listed.getD L false = false) →
      (∀ j oj, ops[j]? = some oj → j ≠ i → listed.getD j true = false → (∀ e ∈ oj.after, Region.binds md e = true → e.on ≠ i) → oi.apart ops oj = true) →
      i ∈ Region.ready md ops listed → YieldsIf P ops G oi v a → G w → (listed.getD L false = true ∨ S w) →
      wpAnyM P md ops Q S L fuel (listed.setIfInBounds i true) (a.put oi.dst v) w → wpAnyM P md ops Q S L (fuel + 1) listed a w := by
  intro fuel
  induction fuel with
  | zero =>
    intro listed a w _ _ hr hy hGw hS H
    refine ⟨fun h => (by rw [h] at hr; cases hr), fun j hj => ?_⟩
    by_cases hji : j = i
    · subst hji; exact hy.wpOp hi hGw ⟨hS.imp (fun h => by rw [getD_set_ne' _ hiL]; exact h) id, H⟩
    · have := ready_mono hj hji
      rw [H.1] at this
      cases this
  | succ fuel ih =>
    intro listed a w hLw hfree hr hy hGw hS H
    refine ⟨fun h => (by rw [h] at hr; cases hr), fun j hj => ?_⟩
    by_cases hji : j = i
    · subst hji; exact hy.wpOp hi hGw ⟨hS.imp (fun h => by rw [getD_set_ne' _ hiL]; exact h) id, H⟩
    · have h1 := H.2 j (ready_mono hj hji)
      obtain ⟨hjun, oj, hoj, hall⟩ := mem_ready.1 hj
      have hiun := (mem_ready.1 hr).1
      have hnot : ∀ e ∈ oj.after, Region.binds md e = true → e.on ≠ i := fun e he hb heq => by
        have h2 := hall e he hb
        rw [heq] at h2
        exact getD_of_ready hiun h2
      have hjL : Region.waitsFor md ops L i = true → j ≠ L := fun hL e => by
        subst e
        obtain ⟨oL, hoL, e, he, hb, hon⟩ := Region.waitsFor_spec hL
        have : oL = oj := Option.some.inj (hoL.symm.trans hoj)
        subst this
        exact hnot e he hb hon
      have h2 := wpOp_putIf hoj (hfree j oj hoj hji hjun hnot) (fun cs b => hsel i oi cs b hi) (fun cs b => hsel j oj cs b hoj) hQ hy h1
      have hfree' : ∀ k ok, ops[k]? = some ok → k ≠ i → (listed.setIfInBounds j true).getD k true = false →
          (∀ e ∈ ok.after, Region.binds md e = true → e.on ≠ i) → oi.apart ops ok = true := fun k ok hk hki hun hno => by
        refine hfree k ok hk hki ?_ hno
        by_cases hjk : j = k
        · subst hjk; exact hjun
        · rw [getD_set_ne true hjk] at hun; exact hun
      refine wpOp_mono (fun a' w' h3 => ?_) h2
      have hS' : (listed.setIfInBounds j true).getD L false = true ∨ S w' := by
        refine h3.2.1.imp (fun h => ?_) id
        rw [Array.setIfInBounds_comm _ _ (Ne.symm hji), getD_set_ne' _ hiL] at h
        exact h
      have hL' : Region.waitsFor md ops L i = true → (listed.setIfInBounds j true).getD L false = false := fun hL => by
        rw [getD_set_ne' _ (hjL hL)]; exact hLw hL
      have hG' : G w' := by
        rcases hG with ⟨hL, hSG⟩ | hG
        · refine hSG w' (hS'.resolve_left fun h => ?_)
          rw [hL' hL] at h; cases h
        · exact hG w'
      refine ⟨hS', ih (listed.setIfInBounds j true) a' w' hL' hfree' (ready_mono hr (Ne.symm hji)) h3.1 hG' hS' ?_⟩
      rw [Array.setIfInBounds_comm _ _ hji]
      exact h3.2.2

/-- Take number i first, number L waiting for it. -/
theorem wpAnyM_take (i : Nat) {oi : Oper} {v : Value} {fuel : Nat} {listed : Array Bool} {a : Act} {w : World} (hi' : ops.toList[i]? = some oi)
    (hk : (Region.noSelect ops && (Region.free md ops listed i && ((Region.ready md ops listed).contains i && (Region.waitsFor md ops L i && (!listed.getD L false && !(i == L)))))) = true)
    (hQ : ∀ c a w, Q (.panic c) (a.put oi.dst v) w → Q (.panic c) a w) (hy : YieldsIf P ops S oi v a) (hS : S w)
    (h : wpAnyM P md ops Q S L fuel (listed.setIfInBounds i true) (a.put oi.dst v) w) : wpAnyM P md ops Q S L (fuel + 1) listed a w := by
  have hi : ops[i]? = some oi := by rwa [Array.getElem?_toList] at hi'
  simp only [Bool.and_eq_true, Bool.not_eq_true'] at hk
  obtain ⟨k1, k2, k3, k4, k5, k6⟩ := hk
  exact wpAnyM_first hi (Region.noSelect_spec k1) hQ (by simpa using k6) (.inl ⟨k4, fun _ h => h⟩) fuel listed a w (fun _ => k5) (Region.free_spec hi k2) (by simpa using k3) hy hS (.inr hS) h

/-- Take number i first: it yields in whatever world. -/
theorem wpAnyM_takeW (i : Nat) {oi : Oper} {v : Value} {fuel : Nat} {listed : Array Bool} {a : Act} {w : World} (hi' : ops.toList[i]? = some oi)
    (hk : (Region.noSelect ops && (Region.free md ops listed i && ((Region.ready md ops listed).contains i && (!Region.waitsFor md ops L i && !(i == L))))) = true)
    (hQ : ∀ c a w, Q (.panic c) (a.put oi.dst v) w → Q (.panic c) a w) (hy : YieldsIf P ops (fun _ => True) oi v a) (hS : listed.getD L false = true ∨ S w)
    (h : wpAnyM P md ops Q S L fuel (listed.setIfInBounds i true) (a.put oi.dst v) w) : wpAnyM P md ops Q S L (fuel + 1) listed a w := by
  have hi : ops[i]? = some oi := by rwa [Array.getElem?_toList] at hi'
  simp only [Bool.and_eq_true, Bool.not_eq_true'] at hk
  obtain ⟨k1, k2, k3, k4, k6⟩ := hk
  exact wpAnyM_first hi (Region.noSelect_spec k1) hQ (by simpa using k6) (.inr fun _ => trivial) fuel listed a w (fun h => by rw [k4] at h; cases h) (Region.free_spec hi k2) (by simpa using k3) hy trivial hS h

/-- Number i alone may come up. -/
theorem wpAnyM_one (i : Nat) {o : Oper} {fuel : Nat} {listed : Array Bool} {a : Act} {w : World} (ho' : ops.toList[i]? = some o) (hr : Region.ready md ops listed = [i])
    (h : ∀ K : Act → World → Prop, Shut (∀ a w, ((listed.setIfInBounds i true).getD L false = true ∨ S w) → (((listed.setIfInBounds i true).getD L false = true ∨ S w) → wpAnyM P md ops Q S L fuel (listed.setIfInBounds i true) a w) → K a w) →
      if Region.wanted o (yielded ops a.tmps) = true then Oper.wp P o a w K Q else K (a.put o.dst undef) w) :
    wpAnyM P md ops Q S L (fuel + 1) listed a w := by
  have ho : ops[i]? = some o := by rwa [Array.getElem?_toList] at ho'
  refine ⟨fun h0 => (by rw [hr] at h0; cases h0), fun j hj => ?_⟩
  rw [hr] at hj
  obtain rfl : j = i := by simpa using hj
  exact wpOp_step ho (fun K' hK => h K' (fun a w hS hW => hK a w ⟨hS, hW hS⟩))

/-- Number i alone may come up; S holds behind it. -/
theorem wpAnyM_oneS (i : Nat) {o : Oper} {fuel : Nat} {listed : Array Bool} {a : Act} {w : World} (ho' : ops.toList[i]? = some o) (hr : Region.ready md ops listed = [i])
    (h : ∀ K : Act → World → Prop, Shut (∀ a w, S w → (S w → wpAnyM P md ops Q S L fuel (listed.setIfInBounds i true) a w) → K a w) →
      if Region.wanted o (yielded ops a.tmps) = true then Oper.wp P o a w K Q else K (a.put o.dst undef) w) :
    wpAnyM P md ops Q S L (fuel + 1) listed a w :=
  wpAnyM_one i ho' hr fun K hK => h K fun a w hS hM => hK a w (.inr hS) fun _ => hM hS

/-- All have come up. -/
theorem wpAnyM_done {listed : Array Bool} {a : Act} {w : World} (hr : Region.ready md ops listed = []) (h : Q .normal a w) : ∀ fuel, wpAnyM P md ops Q S L fuel listed a w
  | 0 => ⟨hr, h⟩
  | _ + 1 => ⟨fun _ => h, by rw [hr]; simp⟩

/-- The beginning. -/
theorem wp_region_M (S : World → Prop) (L : Nat) {id : Nat} {a : Act} {w : World} (hm : P.follows .mixedOrders = true) (hS : S w.drew)
    (h : S w.drew → wpAnyM P .any ops Q S L ops.size (Array.replicate ops.size false) a w.drew) : (Code.region id ops true).wp P Q a w :=
  wp_region_any hm (wpAny_of_M _ _ _ _ (h hS))
end
theorem two_cells {w : World} {b : Nat} {u0 u1 : Value} (h0 : w.cell? ⟨b, 0, none⟩ = some u0) (h1 : w.cell? ⟨b, 1, none⟩ = some u1) (v0 v1 : Value) :
    ((w.setCell ⟨b, 0, none⟩ v0).setCell ⟨b, 1, none⟩ v1).cell? ⟨b, 0, none⟩ = some v0 ∧ ((w.setCell ⟨b, 0, none⟩ v0).setCell ⟨b, 1, none⟩ v1).cell? ⟨b, 1, none⟩ = some v1 := by
  have n : (⟨b, 0, none⟩ : Addr) ≠ ⟨b, 1, none⟩ := by intro e; simp at e
  have k1 : (w.setCell ⟨b, 0, none⟩ v0).cell? ⟨b, 1, none⟩ = some u1 := (World.cell?_setCell_other _ _ _ _ n).trans h1
  exact ⟨(World.cell?_setCell_other _ _ _ _ (Ne.symm n)).trans (World.cell?_setCell_same _ _ _ h0), World.cell?_setCell_same _ _ _ k1⟩
end Go.Proofs.YtiajjiphknlldaaGreat
