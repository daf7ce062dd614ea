/- Contracts of package wide (5): products and sums. -/
import Derived.Test.YtcbklolfibdffaaDiv2
namespace Go.Proofs.Ytcbklolfibdffaa
open Go.RowKit
set_option maxRecDepth 100000

theorem mul64_any (x y : Nat) (M : Int) (w : World) (hx : x < 18446744073709551616) (hy : y < 18446744073709551616) (hM : ((x * y : Nat) : Int) = M) :
    Calls Try.prog 33 #[.int .u64 x, .int .u64 y] w fun e w' => e = .returned (.tuple #[.int .u64 (hi64 M), .int .u64 (lo64 M)]) ∧ w = w' :=
  (bits_Mul64 x y hx hy w).mono fun e w' h => ⟨h.1.trans (by subst hM; rfl), h.2.symm⟩

theorem mul_walk (a b M : Int) (neg : Bool) (x y : Int) (w : World) (a1 : -9223372036854775808 ≤ a) (a2 : a < 9223372036854775808) (b1 : -9223372036854775808 ≤ b) (b2 : b < 9223372036854775808)
    (hs : (!decide (a < 0) == decide (b < 0)) = neg) (hM : ((a.natAbs * b.natAbs : Nat) : Int) = M)
    (hsg : ∀ w, Calls Try.prog 35 #[.agg #[.int .u64 (hi64 M), .int .u64 (lo64 M)], .bool neg] w fun e w' =>
      e = .returned (.tuple #[.agg #[.int .i64 x, .int .u64 y], .bool true]) ∧ Below w.heap.size w w') :
    Calls Try.prog 23 #[.int .i64 a, .int .i64 b] w fun e w' => e = .returned (.agg #[.int .i64 x, .int .u64 y]) ∧ Below w.heap.size w w' := by
  have HM := Lib.hid hM
  have A1 := Lib.hid a1
  have A2 := Lib.hid a2
  have B1 := Lib.hid b1
  have B2 := Lib.hid b2
  clear a1 a2 b1 b2 hM
  go_enter Try.func23, Try.ntmps23
  go_wp2_with fail
  refine (abs64_any _ _ A1.out A2.out).mono ?_; rintro e w' ⟨rfl, rfl⟩
  go_wp2_with fail
  refine (abs64_any _ _ B1.out B2.out).mono ?_; rintro e w' ⟨rfl, rfl⟩
  go_wp2_with fail
  refine (mul64_any _ _ M _ (by have := A1.out; have := A2.out; omega) (by have := B1.out; have := B2.out; omega) HM.out).mono ?_; rintro e w' ⟨rfl, rfl⟩
  go_wp2_with fail
  refine (hsg _).mono ?_; rintro e w1 ⟨rfl, hb1⟩
  obtain ⟨hc, hf⟩ := bcell hb1
  have hz : w.heap.size < w1.heap.size := by have := hb1.size; simp at this; omega
  go_wp2_with fail
  simp [bodyPost, results, Try.results23, go_sem, hc, hz]
  have hb2 : Below w.heap.size w w1 := Below.trans (by (repeat (first | with_reducible exact Below.refl _ _ | with_reducible apply Below.drew | (with_reducible refine below_drewN ?_ _) | (with_reducible refine Below.alloc ?_ (by (try simp) <;> omega) _) | (with_reducible refine Below.setCell ?_ (by (try simp) <;> omega) _)))) (hb1.mono (by simp))
  (repeat (first | exact hb2 | (refine Below.alloc ?_ (by (try simp) <;> omega) _) | (refine Below.setCell ?_ (by (try simp) <;> omega) _)))
/-- wide.Mul. -/
theorem mul_any (a b T : Int) (w : World) (a1 : -9223372036854775808 ≤ a) (a2 : a < 9223372036854775808) (b1 : -9223372036854775808 ≤ b) (b2 : b < 9223372036854775808)
    (hT : a * b = T) (t1 : -170141183460469231731687303715884105728 < T) (t2 : T < 170141183460469231731687303715884105728) :
    Calls Try.prog 23 #[.int .i64 a, .int .i64 b] w fun e w' => e = .returned (.agg #[.int .i64 (hi64 T), .int .u64 (lo64 T)]) ∧ Below w.heap.size w w' := by
  by_cases ha : a < 0 <;> by_cases hb : b < 0
  · have hM : ((a.natAbs * b.natAbs : Nat) : Int) = T := by
      rw [Int.natCast_mul, show (a.natAbs : Int) = -a from by omega, show (b.natAbs : Int) = -b from by omega, Int.neg_mul_neg, hT]
    have h0 : 0 ≤ T := by omega
    exact mul_walk a b T false _ _ w a1 a2 b1 b2 (by simp [ha, hb]) hM (fun w => signed_pos _ _ w (by unfold hi64; omega) (by unfold hi64; omega))
  · have hM : ((a.natAbs * b.natAbs : Nat) : Int) = -T := by
      rw [Int.natCast_mul, show (a.natAbs : Int) = -a from by omega, show (b.natAbs : Int) = b from by omega, Int.neg_mul, hT]
    have h0 : T ≤ 0 := by omega
    refine mul_walk a b (-T) true _ _ w a1 a2 b1 b2 (by simp [ha, hb]) hM (fun w => (signed_neg _ _ w (by unfold hi64; omega) (by unfold hi64; omega) (by unfold lo64; omega) (by unfold lo64; omega)).mono fun e w' h => ⟨h.1.trans ?_, h.2⟩)
    rw [show -(hi64 (-T) * B64 + lo64 (-T)) = T from by unfold hi64 lo64 B64; omega]
  · have hM : ((a.natAbs * b.natAbs : Nat) : Int) = -T := by
      rw [Int.natCast_mul, show (a.natAbs : Int) = a from by omega, show (b.natAbs : Int) = -b from by omega, Int.mul_neg, hT]
    have h0 : T ≤ 0 := by omega
    refine mul_walk a b (-T) true _ _ w a1 a2 b1 b2 (by simp [ha, hb]) hM (fun w => (signed_neg _ _ w (by unfold hi64; omega) (by unfold hi64; omega) (by unfold lo64; omega) (by unfold lo64; omega)).mono fun e w' h => ⟨h.1.trans ?_, h.2⟩)
    rw [show -(hi64 (-T) * B64 + lo64 (-T)) = T from by unfold hi64 lo64 B64; omega]
  · have hM : ((a.natAbs * b.natAbs : Nat) : Int) = T := by
      rw [Int.natCast_mul, show (a.natAbs : Int) = a from by omega, show (b.natAbs : Int) = b from by omega, hT]
    have h0 : 0 ≤ T := by omega
    exact mul_walk a b T false _ _ w a1 a2 b1 b2 (by simp [ha, hb]) hM (fun w => signed_pos _ _ w (by unfold hi64; omega) (by unfold hi64; omega))

/-- wide.add, the sum in range. -/
theorem add_walk (x y u v S : Int) (w : World) (x0 : -9223372036854775808 ≤ x) (x1 : x < 9223372036854775808) (u0 : -9223372036854775808 ≤ u) (u1 : u < 9223372036854775808)
    (y0 : 0 ≤ y) (y1 : y < 18446744073709551616) (v0 : 0 ≤ v) (v1 : v < 18446744073709551616)
    (hS : (x + u) * 18446744073709551616 + y + v = S) (s1 : -170141183460469231731687303715884105728 ≤ S) (s2 : S < 170141183460469231731687303715884105728) :
    Calls Try.prog 36 #[.agg #[.int .i64 x, .int .u64 y], .agg #[.int .i64 u, .int .u64 v]] w fun e w' =>
      e = .returned (.tuple #[.agg #[.int .i64 (hi64 S), .int .u64 (lo64 S)], .bool true]) ∧ Below w.heap.size w w' := by
  have a1 := fun w => add64_0 y v y0 v0 w
  have c1 : 0 ≤ hi64 (y + v) ∧ hi64 (y + v) ≤ 1 := by unfold hi64; omega
  have a2 := fun w => add64 (IntKind.u64.wrap x) (IntKind.u64.wrap u) (hi64 (y + v)) (by rw [IntKind.wrap_u64]; omega) (by rw [IntKind.wrap_u64]; omega) c1.1 c1.2 w
  have r1 : wrap64 (lo64 (IntKind.u64.wrap x + IntKind.u64.wrap u + hi64 (y + v))) = hi64 S := by
    simp only [IntKind.wrap_u64, wrap64]; unfold hi64 lo64; omega
  have r2 : lo64 (y + v) = lo64 S := by unfold lo64; omega
  have sg : (x < 0 ∧ u < 0 → hi64 S < 0) ∧ (0 ≤ x ∧ 0 ≤ u → 0 ≤ hi64 S) := by unfold hi64; omega
  obtain ⟨g1, g2⟩ := sg
  have G1 := Lib.hid g1
  have G2 := Lib.hid g2
  clear g1 g2 c1 x0 x1 u0 u1 y0 y1 v0 v1 hS s1 s2
  by_cases hx : x < 0 <;> by_cases hu : u < 0
  · have hs : hi64 S < 0 := G1.out ⟨hx, hu⟩
    have d1 : decide (x < 0) = true := by simpa using hx
    have d2 : decide (u < 0) = true := by simpa using hu
    have d3 : decide (hi64 S < 0) = true := by simpa using hs
    go_enter Try.func36, Try.ntmps36
    go_wp2_with fail
    go_region
    go_wp2
    simp [bodyPost, results, Try.results36, go_sem]
    (repeat (first | with_reducible exact Below.refl _ _ | with_reducible apply Below.drew | (with_reducible refine below_drewN ?_ _) | (with_reducible refine Below.alloc ?_ (by (try simp) <;> omega) _) | (with_reducible refine Below.setCell ?_ (by (try simp) <;> omega) _)))
  · have d1 : decide (x < 0) = true := by simpa using hx
    have d2 : decide (u < 0) = false := by simpa using hu
    go_enter Try.func36, Try.ntmps36
    go_wp2_with fail
    go_region
    go_wp2
    simp [bodyPost, results, Try.results36, go_sem]
    (repeat (first | with_reducible exact Below.refl _ _ | with_reducible apply Below.drew | (with_reducible refine below_drewN ?_ _) | (with_reducible refine Below.alloc ?_ (by (try simp) <;> omega) _) | (with_reducible refine Below.setCell ?_ (by (try simp) <;> omega) _)))
  · have d1 : decide (x < 0) = false := by simpa using hx
    have d2 : decide (u < 0) = true := by simpa using hu
    go_enter Try.func36, Try.ntmps36
    go_wp2_with fail
    go_region
    go_wp2
    simp [bodyPost, results, Try.results36, go_sem]
    (repeat (first | with_reducible exact Below.refl _ _ | with_reducible apply Below.drew | (with_reducible refine below_drewN ?_ _) | (with_reducible refine Below.alloc ?_ (by (try simp) <;> omega) _) | (with_reducible refine Below.setCell ?_ (by (try simp) <;> omega) _)))
  · have hs : 0 ≤ hi64 S := G2.out (by omega)
    have d1 : decide (x < 0) = false := by simpa using hx
    have d2 : decide (u < 0) = false := by simpa using hu
    have d3 : decide (hi64 S < 0) = false := by simpa using hs
    go_enter Try.func36, Try.ntmps36
    go_wp2_with fail
    go_region
    go_wp2
    simp [bodyPost, results, Try.results36, go_sem]
    (repeat (first | with_reducible exact Below.refl _ _ | with_reducible apply Below.drew | (with_reducible refine below_drewN ?_ _) | (with_reducible refine Below.alloc ?_ (by (try simp) <;> omega) _) | (with_reducible refine Below.setCell ?_ (by (try simp) <;> omega) _)))
/-- wide.add. -/
theorem add_any (A B S : Int) (w : World) (a1 : -170141183460469231731687303715884105728 ≤ A) (a2 : A < 170141183460469231731687303715884105728)
    (b1 : -170141183460469231731687303715884105728 ≤ B) (b2 : B < 170141183460469231731687303715884105728)
    (hS : A + B = S) (s1 : -170141183460469231731687303715884105728 ≤ S) (s2 : S < 170141183460469231731687303715884105728) :
    Calls Try.prog 36 #[.agg #[.int .i64 (hi64 A), .int .u64 (lo64 A)], .agg #[.int .i64 (hi64 B), .int .u64 (lo64 B)]] w fun e w' =>
      e = .returned (.tuple #[.agg #[.int .i64 (hi64 S), .int .u64 (lo64 S)], .bool true]) ∧ Below w.heap.size w w' :=
  add_walk _ _ _ _ S w (by unfold hi64; omega) (by unfold hi64; omega) (by unfold hi64; omega) (by unfold hi64; omega) (by unfold lo64; omega) (by unfold lo64; omega) (by unfold lo64; omega) (by unfold lo64; omega)
    (by unfold hi64 lo64; omega) s1 s2
end Go.Proofs.Ytcbklolfibdffaa
