/- Contracts of package wide. -/
/- Contracts of package wide (2). -/
/- Contracts of package wide (3). -/
import Derived.Test.YtcbklolfibdffaaProg
import Derived.Test.YtcbklolfibdffaaBase
import Derived.Test.YtcbklolfibdffaaPlain
import Derived.Outline
import Derived.BigRegion
import Derived.BigQuiet
import Derived.Deep.QuietTactic
import Derived.Deep.RegionHeld3
namespace Go.Proofs.Ytcbklolfibdffaa
open Go.RowKit

theorem not64 (x : Int) (h0 : 0 ≤ x) (h1 : x < 18446744073709551616) : bits .xor .u64 IntKind.u64.max x = nt x := by
  obtain ⟨a, rfl⟩ := Int.eq_ofNat_of_zero_le h0
  show IntKind.u64.wrap ((BitVec.ofInt 64 IntKind.u64.max ^^^ BitVec.ofInt 64 (a : Int)).toNat : Int) = _
  have h1 : BitVec.ofInt 64 IntKind.u64.max = BitVec.allOnes 64 := by decide
  rw [h1, BitVec.allOnes_xor, BitVec.toNat_not, ofInt_u64 a (by omega), IntKind.wrap_u64]
  unfold nt
  omega
theorem add64 (x y c : Int) (hx : 0 ≤ x) (hy : 0 ≤ y) (hc0 : 0 ≤ c) (hc : c ≤ 1) (w : World) : (callFunc 46 #[.int .u64 x, .int .u64 y, .int .u64 c]).run Try.prog w =
    .ok (.value (.tuple #[.int .u64 (lo64 (x + y + c)), .int .u64 (hi64 (x + y + c))])) w := by
  rw [run_callFunc_extern Try.func46 (by kernel_rfl) (by kernel_rfl) (by kernel_rfl) (e := add64Entry) (by kernel_rfl), run_add64 x y c hx hy hc0 hc]
  rfl
theorem add64_0 (x y : Int) (hx : 0 ≤ x) (hy : 0 ≤ y) (w : World) : (callFunc 46 #[.int .u64 x, .int .u64 y, .int .u64 0]).run Try.prog w =
    .ok (.value (.tuple #[.int .u64 (lo64 (x + y)), .int .u64 (hi64 (x + y))])) w := by
  simpa using add64 x y 0 hx hy (Int.le_refl 0) (by decide) w

theorem abs64_any (a : Int) (w : World) (h1 : -9223372036854775808 ≤ a) (h2 : a < 9223372036854775808) :
    Calls Try.prog 34 #[.int .i64 a] w fun e w' => e = .returned (.int .u64 (a.natAbs : Int)) ∧ w = w' := by
  by_cases h : a < 0
  · go_enter Try.func34, Try.ntmps34
    go_wp2
    go_ret
    exact ⟨retI (by simp only [IntKind.wrap_u64]; omega), rfl⟩
  · go_enter Try.func34, Try.ntmps34
    go_wp2
    go_ret
    exact ⟨retI (by omega), rfl⟩


set_option maxRecDepth 100000
theorem signed_pos (x y : Int) (w : World) (x0 : 0 ≤ x) (x1 : x < 9223372036854775808) :
    Calls Try.prog 35 #[.agg #[.int .u64 x, .int .u64 y], .bool false] w fun e w' =>
      e = .returned (.tuple #[.agg #[.int .i64 x, .int .u64 y], .bool true]) ∧ Below w.heap.size w w' := by
  have hd : ((x / 9223372036854775808 : Int) == 0) = true := by rw [beq_iff_eq]; omega
  go_enter Try.func35, Try.ntmps35
  go_wp2_with fail
  go_region
  go_wp2
  refine bodyPost_ret (v := .tuple #[.agg #[.int .i64 x, .int .u64 y], .bool true]) (by simp [results, Try.results35, go_sem]) rfl ⟨rfl, ?_⟩
  (repeat (first | with_reducible exact Below.refl _ _ | with_reducible apply Below.drew | (with_reducible refine below_drewN ?_ _) | (with_reducible refine Below.alloc ?_ (by (try simp) <;> omega) _) | (with_reducible refine Below.setCell ?_ (by (try simp) <;> omega) _)))

theorem neg_parts (x y : Int) (x0 : 0 ≤ x) (x1 : x < 9223372036854775808) (y0 : 0 ≤ y) (y1 : y < 18446744073709551616) :
    wrap64 (IntKind.u64.wrap (nt x + hi64 (nt y + 1))) = hi64 (-(x * B64 + y)) ∧ lo64 (nt y + 1) = lo64 (-(x * B64 + y)) := by
  simp only [IntKind.wrap_u64, wrap64]
  unfold hi64 lo64 nt B64
  omega

theorem signed_neg (x y : Int) (w : World) (x0 : 0 ≤ x) (x1 : x < 9223372036854775808) (y0 : 0 ≤ y) (y1 : y < 18446744073709551616) :
    Calls Try.prog 35 #[.agg #[.int .u64 x, .int .u64 y], .bool true] w fun e w' =>
      e = .returned (.tuple #[.agg #[.int .i64 (hi64 (-(x * B64 + y))), .int .u64 (lo64 (-(x * B64 + y)))], .bool true]) ∧ Below w.heap.size w w' := by
  have n1 := not64 y y0 y1
  have n2 := not64 x x0 (by omega)
  have b1 := (nt_bd y0 y1).1
  have a1 := fun w => add64_0 (nt y) 1 b1 (by decide) w
  obtain ⟨e1, e2⟩ := neg_parts x y x0 x1 y0 y1
  by_cases hz : x = 0 ∧ y = 0
  · obtain ⟨rfl, rfl⟩ := hz
    have z1 : decide (hi64 0 < 0) = false := by simp [hi64]
    go_enter Try.func35, Try.ntmps35
    go_wp2_with fail
    go_region
    go_wp2
    refine bodyPost_ret (v := .tuple #[.agg #[.int .i64 (hi64 0), .int .u64 (lo64 0)], .bool true]) (by simp [results, Try.results35, go_sem]) rfl ⟨by simp, ?_⟩
    (repeat (first | with_reducible exact Below.refl _ _ | with_reducible apply Below.drew | (with_reducible refine below_drewN ?_ _) | (with_reducible refine Below.alloc ?_ (by (try simp) <;> omega) _) | (with_reducible refine Below.setCell ?_ (by (try simp) <;> omega) _)))
  · have z1 : hi64 (-(x * B64 + y)) < 0 := by unfold hi64 B64; omega
    clear y0 y1
    go_enter Try.func35, Try.ntmps35
    go_wp2_with fail
    go_region
    go_wp2
    refine bodyPost_ret (v := .tuple #[.agg #[.int .i64 (hi64 (-(x * B64 + y))), .int .u64 (lo64 (-(x * B64 + y)))], .bool true]) (by simp [results, Try.results35, go_sem]) rfl ⟨rfl, ?_⟩
    (repeat (first | with_reducible exact Below.refl _ _ | with_reducible apply Below.drew | (with_reducible refine below_drewN ?_ _) | (with_reducible refine Below.alloc ?_ (by (try simp) <;> omega) _) | (with_reducible refine Below.setCell ?_ (by (try simp) <;> omega) _)))

end Go.Proofs.Ytcbklolfibdffaa
namespace Go.Proofs.Ytcbklolfibdffaa
open Go.RowKit
set_option maxRecDepth 100000
/-- A W. -/
def Wv (x : Int) : Value := .agg #[.int .i64 (hi64 x), .int .u64 (lo64 x)]

theorem abs_pos (x y : Int) (w : World) (x0 : 0 ≤ x) (x1 : x < 9223372036854775808) :
    Calls Try.prog 37 #[.agg #[.int .i64 x, .int .u64 y]] w fun e w' =>
      e = .returned (.tuple #[.agg #[.int .u64 x, .int .u64 y], .bool false]) ∧ Below w.heap.size w w' := by
  go_enter Try.func37, Try.ntmps37
  go_wp2_with fail
  simp [bodyPost, results, Try.results37, go_sem]
  (repeat (first | with_reducible exact Below.refl _ _ | with_reducible apply Below.drew | (with_reducible refine below_drewN ?_ _) | (with_reducible refine Below.alloc ?_ (by (try simp) <;> omega) _) | (with_reducible refine Below.setCell ?_ (by (try simp) <;> omega) _)))
theorem abs_neg (x y : Int) (w : World) (x0 : x < 0) (x1 : -9223372036854775808 ≤ x) (y0 : 0 ≤ y) (y1 : y < 18446744073709551616) :
    Calls Try.prog 37 #[.agg #[.int .i64 x, .int .u64 y]] w fun e w' =>
      e = .returned (.tuple #[.agg #[.int .u64 (hi64 (-(x * B64 + y))), .int .u64 (lo64 (-(x * B64 + y)))], .bool true]) ∧ Below w.heap.size w w' := by
  have n1 := not64 y y0 y1
  have n2 := not64 (IntKind.u64.wrap x) (by simp only [IntKind.wrap_u64]; omega) (by simp only [IntKind.wrap_u64]; omega)
  have b1 := (nt_bd y0 y1).1
  have a1 := fun w => add64_0 (nt y) 1 b1 (by decide) w
  have hy : 0 ≤ y ∧ y < B64 := ⟨y0, y1⟩
  clear y0 y1
  go_enter Try.func37, Try.ntmps37
  go_wp2_with fail
  simp [bodyPost, results, Try.results37, go_sem]
  refine ⟨?_, ?_⟩
  · simp only [IntKind.wrap_u64]
    unfold hi64 lo64 nt B64
    clear n1 n2 b1 a1
    obtain ⟨y0, y1⟩ := hy
    unfold B64 at y1
    omega
  · (repeat (first | with_reducible exact Below.refl _ _ | with_reducible apply Below.drew | (with_reducible refine below_drewN ?_ _) | (with_reducible refine Below.alloc ?_ (by (try simp) <;> omega) _) | (with_reducible refine Below.setCell ?_ (by (try simp) <;> omega) _)))

end Go.Proofs.Ytcbklolfibdffaa
namespace Go.Proofs.Ytcbklolfibdffaa
open Go.RowKit
set_option maxRecDepth 100000
def s64F (x y : Int) (neg : Bool) : Bool := decide (x = 0) && (if neg then decide (y ≤ 9223372036854775808) else decide (y ≤ 9223372036854775807))
def s64V (x y : Int) (neg : Bool) : Int := if s64F x y neg then (if neg then -y else y) else 0
theorem s64_big {x y : Int} {neg : Bool} (h : ¬ x = 0) : s64F x y neg = false ∧ s64V x y neg = 0 := by
  have : s64F x y neg = false := by simp [s64F, h]
  exact ⟨this, by simp [s64V, this]⟩
theorem s64_in {y : Int} {neg : Bool} (h : y < 9223372036854775808) : s64F 0 y neg = true ∧ s64V 0 y neg = if neg then -y else y := by
  have : s64F 0 y neg = true := by cases neg <;> simp [s64F] <;> omega
  exact ⟨this, by simp [s64V, this]⟩
theorem s64_out {y : Int} {neg : Bool} (h : 9223372036854775808 < y) : s64F 0 y neg = false ∧ s64V 0 y neg = 0 := by
  have : s64F 0 y neg = false := by cases neg <;> simp [s64F] <;> omega
  exact ⟨this, by simp [s64V, this]⟩

theorem signed64_any (x y : Int) (neg : Bool) (w : World) (y0 : 0 ≤ y) (y1 : y < 18446744073709551616) :
    Calls Try.prog 40 #[.agg #[.int .u64 x, .int .u64 y], .bool neg] w fun e w' =>
      e = .returned (.tuple #[.int .i64 (s64V x y neg), .bool (s64F x y neg)]) ∧ Below w.heap.size w w' := by
  by_cases hx : x = 0
  · subst hx
    by_cases h1 : y < 9223372036854775808
    · obtain ⟨e1, e2⟩ := s64_in (neg := neg) h1
      rw [e1, e2]
      clear e1 e2
      cases neg
      · have h2 : ¬ 9223372036854775807 < y := by omega
        go_enter Try.func40, Try.ntmps40
        go_wp2
        simp [bodyPost, results, Try.results40, go_sem]
        (repeat (first | with_reducible exact Below.refl _ _ | with_reducible apply Below.drew | (with_reducible refine below_drewN ?_ _) | (with_reducible refine Below.alloc ?_ (by (try simp) <;> omega) _) | (with_reducible refine Below.setCell ?_ (by (try simp) <;> omega) _)))
      · have h2 : ¬ 9223372036854775808 < y := by omega
        go_enter Try.func40, Try.ntmps40
        go_wp2
        simp [bodyPost, results, Try.results40, go_sem]
        refine ⟨?_, ?_⟩
        · simp only [IntKind.wrap_u64, wrap64]; omega
        · (repeat (first | with_reducible exact Below.refl _ _ | with_reducible apply Below.drew | (with_reducible refine below_drewN ?_ _) | (with_reducible refine Below.alloc ?_ (by (try simp) <;> omega) _) | (with_reducible refine Below.setCell ?_ (by (try simp) <;> omega) _)))
    · by_cases h3 : 9223372036854775808 < y
      · obtain ⟨e1, e2⟩ := s64_out (neg := neg) h3
        rw [e1, e2]
        clear e1 e2
        cases neg
        · have h2 : 9223372036854775807 < y := by omega
          go_enter Try.func40, Try.ntmps40
          go_wp2
          simp [bodyPost, results, Try.results40, go_sem]
          (repeat (first | with_reducible exact Below.refl _ _ | with_reducible apply Below.drew | (with_reducible refine below_drewN ?_ _) | (with_reducible refine Below.alloc ?_ (by (try simp) <;> omega) _) | (with_reducible refine Below.setCell ?_ (by (try simp) <;> omega) _)))
        · go_enter Try.func40, Try.ntmps40
          go_wp2
          simp [bodyPost, results, Try.results40, go_sem]
          (repeat (first | with_reducible exact Below.refl _ _ | with_reducible apply Below.drew | (with_reducible refine below_drewN ?_ _) | (with_reducible refine Below.alloc ?_ (by (try simp) <;> omega) _) | (with_reducible refine Below.setCell ?_ (by (try simp) <;> omega) _)))
      · have h4 : y = 9223372036854775808 := by omega
        subst h4
        cases neg
        · have e1 : s64F 0 9223372036854775808 false = false := by decide
          have e2 : s64V 0 9223372036854775808 false = 0 := by decide
          rw [e1, e2]
          clear e1 e2
          go_enter Try.func40, Try.ntmps40
          go_wp2
          simp [bodyPost, results, Try.results40, go_sem]
          (repeat (first | with_reducible exact Below.refl _ _ | with_reducible apply Below.drew | (with_reducible refine below_drewN ?_ _) | (with_reducible refine Below.alloc ?_ (by (try simp) <;> omega) _) | (with_reducible refine Below.setCell ?_ (by (try simp) <;> omega) _)))
        · have e1 : s64F 0 9223372036854775808 true = true := by decide
          have e2 : s64V 0 9223372036854775808 true = -9223372036854775808 := by decide
          rw [e1, e2]
          clear e1 e2
          go_enter Try.func40, Try.ntmps40
          go_wp2
          simp [bodyPost, results, Try.results40, go_sem]
          refine ⟨?_, ?_⟩
          · simp only [IntKind.wrap_u64, wrap64]; omega
          · (repeat (first | with_reducible exact Below.refl _ _ | with_reducible apply Below.drew | (with_reducible refine below_drewN ?_ _) | (with_reducible refine Below.alloc ?_ (by (try simp) <;> omega) _) | (with_reducible refine Below.setCell ?_ (by (try simp) <;> omega) _)))
  · obtain ⟨e1, e2⟩ := s64_big (y := y) (neg := neg) hx
    rw [e1, e2]
    clear e1 e2
    have hx' : (x == 0) = false := by simpa using hx
    go_enter Try.func40, Try.ntmps40
    go_wp2
    simp [bodyPost, results, Try.results40, go_sem]
    (repeat (first | with_reducible exact Below.refl _ _ | with_reducible apply Below.drew | (with_reducible refine below_drewN ?_ _) | (with_reducible refine Below.alloc ?_ (by (try simp) <;> omega) _) | (with_reducible refine Below.setCell ?_ (by (try simp) <;> omega) _)))
end Go.Proofs.Ytcbklolfibdffaa
