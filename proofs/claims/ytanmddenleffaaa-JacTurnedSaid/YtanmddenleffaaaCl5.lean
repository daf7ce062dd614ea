/- What a run puts out, and what At tells of it. No program beyond the numbers' names. -/
import Derived.Test.YtanmddenleffaaaCl4
import Derived.Test.YtanmddenleffaaaMoveP
namespace Go.Proofs.Ytanmddenleffaaa
/-- The numbers of a run, and of At. -/
structure RunO (W e f : Nat → Int) : Prop where
  d : ∀ j, j < 24 → f (276 + j) = DD W e (23 - j)
  u : ∀ i l, i < l → l < 24 → f (pl i l) = UU W e i (23 - l)
end Go.Proofs.Ytanmddenleffaaa
