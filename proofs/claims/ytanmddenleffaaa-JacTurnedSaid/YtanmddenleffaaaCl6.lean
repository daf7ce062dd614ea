/- The covariance that factors tell: exactly, by At, by a run. No program beyond the numbers' names. -/
import Derived.Test.YtanmddenleffaaaCl5
namespace Go.Proofs.Ytanmddenleffaaa
theorem uV_low {f : Nat → Int} {a p : Nat} (h : p < a) : uV f a p = 0 := by unfold uV; rw [if_neg (by omega), if_neg (by omega)]
theorem uV_self (f : Nat → Int) (a : Nat) : uV f a a = 1073741824 := by unfold uV; rw [if_pos rfl]
theorem uV_up {f : Nat → Int} {a p : Nat} (h : a < p) : uV f a p = f (pl a p) := by unfold uV; rw [if_neg (by omega), if_pos h]
section
variable {W e f : Nat → Int} {P : Nat → Prop} (H : RunH W e P) (O : RunO W e f)
end
end Go.Proofs.Ytanmddenleffaaa
