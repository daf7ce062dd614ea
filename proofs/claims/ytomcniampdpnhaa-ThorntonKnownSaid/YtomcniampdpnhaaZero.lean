/- The great noughts by name, where the program's own form does not name them. -/
import Derived.Test.YtomcniampdpnhaaProg
import Derived.WalkKit
import Derived.WalkSpells
import Derived.WalkLawsBesides
import Derived.KernelRfl
namespace Go.Proofs.Ytomcniampdpnhaa
open Go
def Try.zeroCells25 : Array Value := Array.replicate 300 (.int .i64 0)
@[simp] theorem Try.zeroValue25 (w : World) : (zeroValue 25).run Try.prog w = .ok (.agg Try.zeroCells25) w := by kernel_rfl
@[simp] theorem Try.zeroCells25_size : Try.zeroCells25.size = 300 := by kernel_rfl
@[simp] theorem Try.zeroCells25_ne : Try.zeroCells25 ≠ #[] := fun h => by have := Try.zeroCells25_size; rw [h] at this; cases this
def Try.zeroCells27 : Array Value := Array.replicate 576 (.int .i64 0)
@[simp] theorem Try.zeroValue27 (w : World) : (zeroValue 27).run Try.prog w = .ok (.agg Try.zeroCells27) w := by kernel_rfl
@[simp] theorem Try.zeroCells27_size : Try.zeroCells27.size = 576 := by kernel_rfl
@[simp] theorem Try.zeroCells27_ne : Try.zeroCells27 ≠ #[] := fun h => by have := Try.zeroCells27_size; rw [h] at this; cases this
def Try.zeroCells61 : Array Value := Array.replicate 1152 (.int .i64 0)
@[simp] theorem Try.zeroValue61 (w : World) : (zeroValue 61).run Try.prog w = .ok (.agg Try.zeroCells61) w := by kernel_rfl
@[simp] theorem Try.zeroCells61_size : Try.zeroCells61.size = 1152 := by kernel_rfl
@[simp] theorem Try.zeroCells61_ne : Try.zeroCells61 ≠ #[] := fun h => by have := Try.zeroCells61_size; rw [h] at this; cases this
end Go.Proofs.Ytomcniampdpnhaa
