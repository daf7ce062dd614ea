/- Contracts of package wide (3). -/
import Derived.Test.YtomcniampdpnhaaWide1
namespace Go.Proofs.Ytomcniampdpnhaa
open Go.RowKit
set_option maxRecDepth 100000
def s64F (x y : Int) (neg : Bool) : Bool := decide (x = 0) && (if neg then decide (y ≤ 9223372036854775808) else decide (y ≤ 9223372036854775807))
def s64V (x y : Int) (neg : Bool) : Int := if s64F x y neg then (if neg then -y else y) else 0
theorem s64_big {x y : Int} {neg : Bool} (h : ¬ x = 0) : s64F x y neg = false ∧ s64V x y neg = 0 := by
  have : s64F x y neg = false := by simp [s64F, h]
  exact ⟨this, by simp [s64V, this]⟩
theorem s64_in {y : Int} {neg : Bool} (h : y < 9223372036854775808) : s64F 0 y neg = true ∧ s64V 0 y neg = if neg then -y else y := by
  have : s64F 0 y neg = true := by cases neg <;> simp [s64F] <;> omega
  exact ⟨this, by simp [s64V, this]⟩
theorem s64_out {y : Int} {neg : Bool} (h : 9223372036854775808 < y) : s64F 0 y neg = false ∧ s64V 0 y neg = 0 := by
  have : s64F 0 y neg = false := by cases neg <;> simp [s64F] <;> omega
  exact ⟨this, by simp [s64V, this]⟩

theorem signed64_any (x y : Int) (neg : Bool) (w : World) (y0 : 0 ≤ y) (y1 : y < 18446744073709551616) :
    Calls Try.prog 43 #[.agg #[.int .u64 x, .int .u64 y], .bool neg] w fun e w' =>
      e = .returned (.tuple #[.int .i64 (s64V x y neg), .bool (s64F x y neg)]) ∧ Below w.heap.size w w' := by
  by_cases hx : x = 0
  · subst hx
    by_cases h1 : y < 9223372036854775808
    · obtain ⟨e1, e2⟩ := s64_in (neg := neg) h1
      rw [e1, e2]
      clear e1 e2
      cases neg
      · have h2 : ¬ 9223372036854775807 < y := by omega
        go_enter Try.func43, Try.ntmps43
        go_wp2
        simp [bodyPost, results, Try.results43, go_sem]
        (repeat (first | with_reducible exact Below.refl _ _ | with_reducible apply Below.drew | (with_reducible refine below_drewN ?_ _) | (with_reducible refine Below.alloc ?_ (by (try simp) <;> omega) _) | (with_reducible refine Below.setCell ?_ (by (try simp) <;> omega) _)))
      · have h2 : ¬ 9223372036854775808 < y := by omega
        go_enter Try.func43, Try.ntmps43
        go_wp2
        simp [bodyPost, results, Try.results43, go_sem]
        refine ⟨?_, ?_⟩
        · simp only [IntKind.wrap_u64, wrap64]; omega
        · (repeat (first | with_reducible exact Below.refl _ _ | with_reducible apply Below.drew | (with_reducible refine below_drewN ?_ _) | (with_reducible refine Below.alloc ?_ (by (try simp) <;> omega) _) | (with_reducible refine Below.setCell ?_ (by (try simp) <;> omega) _)))
    · by_cases h3 : 9223372036854775808 < y
      · obtain ⟨e1, e2⟩ := s64_out (neg := neg) h3
        rw [e1, e2]
        clear e1 e2
        cases neg
        · have h2 : 9223372036854775807 < y := by omega
          go_enter Try.func43, Try.ntmps43
          go_wp2
          simp [bodyPost, results, Try.results43, go_sem]
          (repeat (first | with_reducible exact Below.refl _ _ | with_reducible apply Below.drew | (with_reducible refine below_drewN ?_ _) | (with_reducible refine Below.alloc ?_ (by (try simp) <;> omega) _) | (with_reducible refine Below.setCell ?_ (by (try simp) <;> omega) _)))
        · go_enter Try.func43, Try.ntmps43
          go_wp2
          simp [bodyPost, results, Try.results43, go_sem]
          (repeat (first | with_reducible exact Below.refl _ _ | with_reducible apply Below.drew | (with_reducible refine below_drewN ?_ _) | (with_reducible refine Below.alloc ?_ (by (try simp) <;> omega) _) | (with_reducible refine Below.setCell ?_ (by (try simp) <;> omega) _)))
      · have h4 : y = 9223372036854775808 := by omega
        subst h4
        cases neg
        · have e1 : s64F 0 9223372036854775808 false = false := by decide
          have e2 : s64V 0 9223372036854775808 false = 0 := by decide
          rw [e1, e2]
          clear e1 e2
          go_enter Try.func43, Try.ntmps43
          go_wp2
          simp [bodyPost, results, Try.results43, go_sem]
          (repeat (first | with_reducible exact Below.refl _ _ | with_reducible apply Below.drew | (with_reducible refine below_drewN ?_ _) | (with_reducible refine Below.alloc ?_ (by (try simp) <;> omega) _) | (with_reducible refine Below.setCell ?_ (by (try simp) <;> omega) _)))
        · have e1 : s64F 0 9223372036854775808 true = true := by decide
          have e2 : s64V 0 9223372036854775808 true = -9223372036854775808 := by decide
          rw [e1, e2]
          clear e1 e2
          go_enter Try.func43, Try.ntmps43
          go_wp2
          simp [bodyPost, results, Try.results43, go_sem]
          refine ⟨?_, ?_⟩
          · simp only [IntKind.wrap_u64, wrap64]; omega
          · (repeat (first | with_reducible exact Below.refl _ _ | with_reducible apply Below.drew | (with_reducible refine below_drewN ?_ _) | (with_reducible refine Below.alloc ?_ (by (try simp) <;> omega) _) | (with_reducible refine Below.setCell ?_ (by (try simp) <;> omega) _)))
  · obtain ⟨e1, e2⟩ := s64_big (y := y) (neg := neg) hx
    rw [e1, e2]
    clear e1 e2
    have hx' : (x == 0) = false := by simpa using hx
    go_enter Try.func43, Try.ntmps43
    go_wp2
    simp [bodyPost, results, Try.results43, go_sem]
    (repeat (first | with_reducible exact Below.refl _ _ | with_reducible apply Below.drew | (with_reducible refine below_drewN ?_ _) | (with_reducible refine Below.alloc ?_ (by (try simp) <;> omega) _) | (with_reducible refine Below.setCell ?_ (by (try simp) <;> omega) _)))
end Go.Proofs.Ytomcniampdpnhaa
