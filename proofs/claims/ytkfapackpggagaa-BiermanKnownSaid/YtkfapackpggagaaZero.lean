/- The great noughts by name, where the program's own form does not name them. -/
import Derived.Test.YtkfapackpggagaaProg
import Derived.WalkKit
import Derived.WalkSpells
import Derived.WalkLawsBesides
import Derived.KernelRfl
namespace Go.Proofs.Ytkfapackpggagaa
open Go
def Try.zeroCells25 : Array Value := Array.replicate 300 (.int .i64 0)
@[simp] theorem Try.zeroValue25 (w : World) : (zeroValue 25).run Try.prog w = .ok (.agg Try.zeroCells25) w := by kernel_rfl
@[simp] theorem Try.zeroCells25_size : Try.zeroCells25.size = 300 := by kernel_rfl
@[simp] theorem Try.zeroCells25_ne : Try.zeroCells25 ≠ #[] := fun h => by have := Try.zeroCells25_size; rw [h] at this; cases this
end Go.Proofs.Ytkfapackpggagaa
