/- Contracts of package wide (6): Round, Div, Shift. -/
import Derived.Test.YtomcniampdpnhaaWide4
import Derived.IntWalk
namespace Go.Proofs.Ytomcniampdpnhaa
open Go.RowKit
set_option maxRecDepth 100000
def r64F (x : Int) : Bool := decide (-9223372036854775808 ≤ x) && decide (x < 9223372036854775808)
def r64V (x : Int) : Int := if r64F x then x else 0
theorem s64_r64 (M : Int) (neg : Bool) (h0 : 0 ≤ M) (h1 : M < 340282366920938463463374607431768211456) :
    s64F (hi64 M) (lo64 M) neg = r64F (if neg then -M else M) ∧ s64V (hi64 M) (lo64 M) neg = r64V (if neg then -M else M) := by
  have hF : s64F (hi64 M) (lo64 M) neg = r64F (if neg then -M else M) := by
    unfold s64F r64F hi64 lo64
    cases neg <;> simp <;> rw [Bool.eq_iff_iff] <;> simp <;> omega
  refine ⟨hF, ?_⟩
  unfold s64V r64V
  rw [hF]
  by_cases h : r64F (if neg then -M else M) = true
  · rw [if_pos h, if_pos h]
    cases neg <;> simp [r64F] at h ⊢ <;> unfold lo64 <;> omega
  · rw [if_neg h, if_neg h]

theorem abs_any (A : Int) (w : World) (a1 : -170141183460469231731687303715884105728 ≤ A) (a2 : A < 170141183460469231731687303715884105728) :
    Calls Try.prog 41 #[.agg #[.int .i64 (hi64 A), .int .u64 (lo64 A)]] w fun e w' =>
      e = .returned (.tuple #[.agg #[.int .u64 (hi64 A.natAbs), .int .u64 (lo64 A.natAbs)], .bool (decide (A < 0))]) ∧ Below w.heap.size w w' := by
  by_cases h : A < 0
  · refine (abs_neg (hi64 A) (lo64 A) w (by unfold hi64; omega) (by unfold hi64; omega) (by unfold lo64; omega) (by unfold lo64; omega)).mono fun e w' h1 => ⟨h1.1.trans ?_, h1.2⟩
    rw [show -(hi64 A * B64 + lo64 A) = (A.natAbs : Int) from by unfold hi64 lo64 B64; omega]
    simp [h]
  · refine (abs_pos (hi64 A) (lo64 A) w (by unfold hi64; omega) (by unfold hi64; omega)).mono fun e w' h1 => ⟨h1.1.trans ?_, h1.2⟩
    rw [show (A.natAbs : Int) = A from by omega]
    simp [h]

theorem bits_hl {M : Int} (h0 : 0 ≤ M) (h1 : M < 340282366920938463463374607431768211456) : 0 ≤ hi64 M ∧ hi64 M < 18446744073709551616 ∧ 0 ≤ lo64 M ∧ lo64 M < 18446744073709551616 := by
  unfold hi64 lo64; omega

/-- wide.Round: the walk. -/
theorem round_walk (A s M H M2 R : Int) (neg : Bool) (w : World) (s0 : 0 < s) (s1 : s ≤ 126)
    (habs : ∀ w, Calls Try.prog 41 #[.agg #[.int .i64 (hi64 A), .int .u64 (lo64 A)]] w fun e w' =>
      e = .returned (.tuple #[.agg #[.int .u64 (hi64 M), .int .u64 (lo64 M)], .bool neg]) ∧ Below w.heap.size w w')
    (hshl : ∀ w, Calls Try.prog 36 #[.agg #[.int .u64 0, .int .u64 1], .int .i64 (s - 1)] w fun e w' =>
      e = .returned (.agg #[.int .u64 (hi64 H), .int .u64 (lo64 H)]) ∧ Below w.heap.size w w')
    (hplus : ∀ w, Calls Try.prog 42 #[.agg #[.int .u64 (hi64 M), .int .u64 (lo64 M)], .agg #[.int .u64 (hi64 H), .int .u64 (lo64 H)]] w fun e w' =>
      e = .returned (.agg #[.int .u64 (hi64 M2), .int .u64 (lo64 M2)]) ∧ Below w.heap.size w w')
    (hshr : ∀ w, Calls Try.prog 37 #[.agg #[.int .u64 (hi64 M2), .int .u64 (lo64 M2)], .int .i64 s] w fun e w' =>
      e = .returned (.agg #[.int .u64 (hi64 R), .int .u64 (lo64 R)]) ∧ Below w.heap.size w w')
    (hsg : ∀ w, Calls Try.prog 43 #[.agg #[.int .u64 (hi64 R), .int .u64 (lo64 R)], .bool neg] w fun e w' =>
      e = .returned (.tuple #[.int .i64 (s64V (hi64 R) (lo64 R) neg), .bool (s64F (hi64 R) (lo64 R) neg)]) ∧ Below w.heap.size w w') :
    Calls Try.prog 33 #[.agg #[.int .i64 (hi64 A), .int .u64 (lo64 A)], .int .i64 s] w fun e w' =>
      e = .returned (.tuple #[.int .i64 (s64V (hi64 R) (lo64 R) neg), .bool (s64F (hi64 R) (lo64 R) neg)]) ∧ Below w.heap.size w w' := by
  have c1 : ¬ s < 0 := by omega
  have c2 : ¬ 126 < s := by omega
  have hw : IntKind.i64.wrap (s - 1) = s - 1 := IntWalk.i64_in _ (by omega)
  have HA := Lib.hid habs
  have HL := Lib.hid hshl
  have HP := Lib.hid hplus
  have HR := Lib.hid hshr
  have HS := Lib.hid hsg
  clear habs hshl hplus hshr hsg
  go_enter Try.func33, Try.ntmps33
  go_wp2_with fail
  refine (HA.out _).mono ?_; rintro e w1 ⟨rfl, hb1⟩
  have hz : w.heap.size < w1.heap.size := by have := hb1.size; simp at this; omega
  have hb1' : Below w.heap.size w w1 := Below.trans (by (repeat (first | with_reducible exact Below.refl _ _ | with_reducible apply Below.drew | (with_reducible refine below_drewN ?_ _) | (with_reducible refine Below.alloc ?_ (by (try simp) <;> omega) _) | (with_reducible refine Below.setCell ?_ (by (try simp) <;> omega) _)))) (hb1.mono (by simp))
  clear hb1
  go_wp2_with fail
  go_region_with (first | (go_at_call 36; refine (HL.out _).mono ?_; rintro e w2 ⟨rfl, hb2⟩; (obtain ⟨hc2, hf2⟩ := bcell hb2); (have hz2 : w1.heap.size < w2.heap.size := by have := hb2.size; (try simp at this); omega)) | (go_at_call 42; refine (HP.out _).mono ?_; rintro e w3 ⟨rfl, hb3⟩; (obtain ⟨hc3, hf3⟩ := bcell hb3); (have hz3 : w1.heap.size < w3.heap.size := by have := hb3.size; (try simp at this); omega)))
  all_goals
    go_wp2_with fail
    refine (HR.out _).mono ?_; rintro e w4 ⟨rfl, hb4⟩
    have hz4 : w1.heap.size < w4.heap.size := by have := hb4.size; (try simp at this); omega
    go_wp2_with fail
    refine (HS.out _).mono ?_; rintro e w5 ⟨rfl, hb5⟩
    have hz5 : w1.heap.size < w5.heap.size := by have := hb5.size; (try simp at this); omega
    go_wp2_with fail
    go_ret2
    refine ⟨rfl, ?_⟩
    (repeat (first | with_reducible exact Below.refl _ _ | with_reducible assumption | with_reducible apply Below.drew | (with_reducible refine below_drewN ?_ _) | (with_reducible refine Below.alloc ?_ (by (try simp) <;> omega) _) | (with_reducible refine Below.setCell ?_ (by (try simp) <;> omega) _) | (with_reducible refine Below.trans ?_ (Below.mono (by assumption) (by (try simp) <;> omega)))))
end Go.Proofs.Ytomcniampdpnhaa
