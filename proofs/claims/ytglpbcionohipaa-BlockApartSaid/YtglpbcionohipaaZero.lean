/- The great noughts by name, where the program's own form does not name them. -/
import Derived.Test.YtglpbcionohipaaProg
import Derived.WalkKit
import Derived.WalkSpells
import Derived.WalkLawsBesides
import Derived.KernelRfl
namespace Go.Proofs.Ytglpbcionohipaa
open Go
def Try.zeroCells29 : Array Value := Array.replicate 300 (.int .i64 0)
@[simp] theorem Try.zeroValue29 (w : World) : (zeroValue 29).run Try.prog w = .ok (.agg Try.zeroCells29) w := by kernel_rfl
@[simp] theorem Try.zeroCells29_size : Try.zeroCells29.size = 300 := by kernel_rfl
@[simp] theorem Try.zeroCells29_ne : Try.zeroCells29 ≠ #[] := fun h => by have := Try.zeroCells29_size; rw [h] at this; cases this
def Try.zeroCells64 : Array Value := Array.replicate 576 (.int .i64 0)
@[simp] theorem Try.zeroValue64 (w : World) : (zeroValue 64).run Try.prog w = .ok (.agg Try.zeroCells64) w := by kernel_rfl
@[simp] theorem Try.zeroCells64_size : Try.zeroCells64.size = 576 := by kernel_rfl
@[simp] theorem Try.zeroCells64_ne : Try.zeroCells64 ≠ #[] := fun h => by have := Try.zeroCells64_size; rw [h] at this; cases this
def Try.zeroCells101 : Array Value := Array.replicate 1152 (.int .i64 0)
@[simp] theorem Try.zeroValue101 (w : World) : (zeroValue 101).run Try.prog w = .ok (.agg Try.zeroCells101) w := by kernel_rfl
@[simp] theorem Try.zeroCells101_size : Try.zeroCells101.size = 1152 := by kernel_rfl
@[simp] theorem Try.zeroCells101_ne : Try.zeroCells101 ≠ #[] := fun h => by have := Try.zeroCells101_size; rw [h] at this; cases this
end Go.Proofs.Ytglpbcionohipaa
