/- Contracts of package wide. -/
import Derived.Test.YtomcniampdpnhaaProg
import Derived.Test.YtomcniampdpnhaaBase
import Derived.Test.YtomcniampdpnhaaPlain
import Derived.Outline
import Derived.BigRegion
import Derived.BigQuiet
import Derived.Deep.QuietTactic
import Derived.Deep.RegionHeld3
namespace Go.Proofs.Ytomcniampdpnhaa
open Go.RowKit

theorem not64 (x : Int) (h0 : 0 ≤ x) (h1 : x < 18446744073709551616) : bits .xor .u64 IntKind.u64.max x = nt x := by
  obtain ⟨a, rfl⟩ := Int.eq_ofNat_of_zero_le h0
  show IntKind.u64.wrap ((BitVec.ofInt 64 IntKind.u64.max ^^^ BitVec.ofInt 64 (a : Int)).toNat : Int) = _
  have h1 : BitVec.ofInt 64 IntKind.u64.max = BitVec.allOnes 64 := by decide
  rw [h1, BitVec.allOnes_xor, BitVec.toNat_not, ofInt_u64 a (by omega), IntKind.wrap_u64]
  unfold nt
  omega
theorem add64 (x y c : Int) (hx : 0 ≤ x) (hy : 0 ≤ y) (hc0 : 0 ≤ c) (hc : c ≤ 1) (w : World) : (callFunc 40 #[.int .u64 x, .int .u64 y, .int .u64 c]).run Try.prog w =
    .ok (.value (.tuple #[.int .u64 (lo64 (x + y + c)), .int .u64 (hi64 (x + y + c))])) w := by
  rw [run_callFunc_extern Try.func40 (by kernel_rfl) (by kernel_rfl) (by kernel_rfl) (e := add64Entry) (by kernel_rfl), run_add64 x y c hx hy hc0 hc]
  rfl
theorem add64_0 (x y : Int) (hx : 0 ≤ x) (hy : 0 ≤ y) (w : World) : (callFunc 40 #[.int .u64 x, .int .u64 y, .int .u64 0]).run Try.prog w =
    .ok (.value (.tuple #[.int .u64 (lo64 (x + y)), .int .u64 (hi64 (x + y))])) w := by
  simpa using add64 x y 0 hx hy (Int.le_refl 0) (by decide) w

theorem abs64_any (a : Int) (w : World) (h1 : -9223372036854775808 ≤ a) (h2 : a < 9223372036854775808) :
    Calls Try.prog 31 #[.int .i64 a] w fun e w' => e = .returned (.int .u64 (a.natAbs : Int)) ∧ w = w' := by
  by_cases h : a < 0
  · go_enter Try.func31, Try.ntmps31
    go_wp2
    go_ret
    exact ⟨retI (by simp only [IntKind.wrap_u64]; omega), rfl⟩
  · go_enter Try.func31, Try.ntmps31
    go_wp2
    go_ret
    exact ⟨retI (by omega), rfl⟩


set_option maxRecDepth 100000
theorem signed_pos (x y : Int) (w : World) (x0 : 0 ≤ x) (x1 : x < 9223372036854775808) :
    Calls Try.prog 32 #[.agg #[.int .u64 x, .int .u64 y], .bool false] w fun e w' =>
      e = .returned (.tuple #[.agg #[.int .i64 x, .int .u64 y], .bool true]) ∧ Below w.heap.size w w' := by
  have hd : ((x / 9223372036854775808 : Int) == 0) = true := by rw [beq_iff_eq]; omega
  go_enter Try.func32, Try.ntmps32
  go_wp2_with fail
  go_region
  go_wp2
  refine bodyPost_ret (v := .tuple #[.agg #[.int .i64 x, .int .u64 y], .bool true]) (by simp [results, Try.results32, go_sem]) rfl ⟨rfl, ?_⟩
  (repeat (first | with_reducible exact Below.refl _ _ | with_reducible apply Below.drew | (with_reducible refine below_drewN ?_ _) | (with_reducible refine Below.alloc ?_ (by (try simp) <;> omega) _) | (with_reducible refine Below.setCell ?_ (by (try simp) <;> omega) _)))

theorem neg_parts (x y : Int) (x0 : 0 ≤ x) (x1 : x < 9223372036854775808) (y0 : 0 ≤ y) (y1 : y < 18446744073709551616) :
    wrap64 (IntKind.u64.wrap (nt x + hi64 (nt y + 1))) = hi64 (-(x * B64 + y)) ∧ lo64 (nt y + 1) = lo64 (-(x * B64 + y)) := by
  simp only [IntKind.wrap_u64, wrap64]
  unfold hi64 lo64 nt B64
  omega

theorem signed_neg (x y : Int) (w : World) (x0 : 0 ≤ x) (x1 : x < 9223372036854775808) (y0 : 0 ≤ y) (y1 : y < 18446744073709551616) :
    Calls Try.prog 32 #[.agg #[.int .u64 x, .int .u64 y], .bool true] w fun e w' =>
      e = .returned (.tuple #[.agg #[.int .i64 (hi64 (-(x * B64 + y))), .int .u64 (lo64 (-(x * B64 + y)))], .bool true]) ∧ Below w.heap.size w w' := by
  have n1 := not64 y y0 y1
  have n2 := not64 x x0 (by omega)
  have b1 := (nt_bd y0 y1).1
  have a1 := fun w => add64_0 (nt y) 1 b1 (by decide) w
  obtain ⟨e1, e2⟩ := neg_parts x y x0 x1 y0 y1
  by_cases hz : x = 0 ∧ y = 0
  · obtain ⟨rfl, rfl⟩ := hz
    have z1 : decide (hi64 0 < 0) = false := by simp [hi64]
    go_enter Try.func32, Try.ntmps32
    go_wp2_with fail
    go_region
    go_wp2
    refine bodyPost_ret (v := .tuple #[.agg #[.int .i64 (hi64 0), .int .u64 (lo64 0)], .bool true]) (by simp [results, Try.results32, go_sem]) rfl ⟨by simp, ?_⟩
    (repeat (first | with_reducible exact Below.refl _ _ | with_reducible apply Below.drew | (with_reducible refine below_drewN ?_ _) | (with_reducible refine Below.alloc ?_ (by (try simp) <;> omega) _) | (with_reducible refine Below.setCell ?_ (by (try simp) <;> omega) _)))
  · have z1 : hi64 (-(x * B64 + y)) < 0 := by unfold hi64 B64; omega
    clear y0 y1
    go_enter Try.func32, Try.ntmps32
    go_wp2_with fail
    go_region
    go_wp2
    refine bodyPost_ret (v := .tuple #[.agg #[.int .i64 (hi64 (-(x * B64 + y))), .int .u64 (lo64 (-(x * B64 + y)))], .bool true]) (by simp [results, Try.results32, go_sem]) rfl ⟨rfl, ?_⟩
    (repeat (first | with_reducible exact Below.refl _ _ | with_reducible apply Below.drew | (with_reducible refine below_drewN ?_ _) | (with_reducible refine Below.alloc ?_ (by (try simp) <;> omega) _) | (with_reducible refine Below.setCell ?_ (by (try simp) <;> omega) _)))

end Go.Proofs.Ytomcniampdpnhaa
