/- thornton.Step of variances alone: place by velocity (plain law, 2): the numbers that come out. No program. -/
import Derived.Test.YtanmddenleffaaaMoveP
namespace Go.Proofs.Ytanmddenleffaaa
section
variable {f : Nat → Int} (hf : DiagF f) {a b : Nat} (ha : a < 24) (hb : b < 24) (hab : a ≠ b) {t : Int} (ht : SB t)
end
end Go.Proofs.Ytanmddenleffaaa
