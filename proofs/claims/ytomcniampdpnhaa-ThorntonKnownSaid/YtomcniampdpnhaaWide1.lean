/- Contracts of package wide (2). -/
import Derived.Test.YtomcniampdpnhaaWide0
namespace Go.Proofs.Ytomcniampdpnhaa
open Go.RowKit
set_option maxRecDepth 100000
/-- A W. -/
def Wv (x : Int) : Value := .agg #[.int .i64 (hi64 x), .int .u64 (lo64 x)]

theorem abs_pos (x y : Int) (w : World) (x0 : 0 ≤ x) (x1 : x < 9223372036854775808) :
    Calls Try.prog 41 #[.agg #[.int .i64 x, .int .u64 y]] w fun e w' =>
      e = .returned (.tuple #[.agg #[.int .u64 x, .int .u64 y], .bool false]) ∧ Below w.heap.size w w' := by
  go_enter Try.func41, Try.ntmps41
  go_wp2_with fail
  simp [bodyPost, results, Try.results41, go_sem]
  (repeat (first | with_reducible exact Below.refl _ _ | with_reducible apply Below.drew | (with_reducible refine below_drewN ?_ _) | (with_reducible refine Below.alloc ?_ (by (try simp) <;> omega) _) | (with_reducible refine Below.setCell ?_ (by (try simp) <;> omega) _)))
theorem abs_neg (x y : Int) (w : World) (x0 : x < 0) (x1 : -9223372036854775808 ≤ x) (y0 : 0 ≤ y) (y1 : y < 18446744073709551616) :
    Calls Try.prog 41 #[.agg #[.int .i64 x, .int .u64 y]] w fun e w' =>
      e = .returned (.tuple #[.agg #[.int .u64 (hi64 (-(x * B64 + y))), .int .u64 (lo64 (-(x * B64 + y)))], .bool true]) ∧ Below w.heap.size w w' := by
  have n1 := not64 y y0 y1
  have n2 := not64 (IntKind.u64.wrap x) (by simp only [IntKind.wrap_u64]; omega) (by simp only [IntKind.wrap_u64]; omega)
  have b1 := (nt_bd y0 y1).1
  have a1 := fun w => add64_0 (nt y) 1 b1 (by decide) w
  have hy : 0 ≤ y ∧ y < B64 := ⟨y0, y1⟩
  clear y0 y1
  go_enter Try.func41, Try.ntmps41
  go_wp2_with fail
  simp [bodyPost, results, Try.results41, go_sem]
  refine ⟨?_, ?_⟩
  · simp only [IntKind.wrap_u64]
    unfold hi64 lo64 nt B64
    clear n1 n2 b1 a1
    obtain ⟨y0, y1⟩ := hy
    unfold B64 at y1
    omega
  · (repeat (first | with_reducible exact Below.refl _ _ | with_reducible apply Below.drew | (with_reducible refine below_drewN ?_ _) | (with_reducible refine Below.alloc ?_ (by (try simp) <;> omega) _) | (with_reducible refine Below.setCell ?_ (by (try simp) <;> omega) _)))

end Go.Proofs.Ytomcniampdpnhaa
