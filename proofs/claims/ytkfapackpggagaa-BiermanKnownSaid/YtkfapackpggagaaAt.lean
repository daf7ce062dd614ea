/- Contract of tri.At: a number of the covariance. -/
import Derived.Test.YtkfapackpggagaaApp
import Derived.Test.YtkfapackpggagaaMoveP
import Derived.Test.YtkfapackpggagaaLaw
import Derived.Test.YtkfapackpggagaaSub
import Derived.Outline
namespace Go.Proofs.Ytkfapackpggagaa
open Go.RowKit
set_option maxRecDepth 100000
theorem ownBlock_lt {w : World} {B T : Nat} {v : Value} {n : Nat} {L : Nat → Int} (h : Own w B T v n L) {g : Nat} (e : v.ownBlock = some g) : B ≤ g ∧ g < w.heap.size := World.ownsRow.lt h g e
theorem snoc_fun {n : Nat} {L : Nat → Int} {y : Int} (e : y = L n) : ∀ i, i < n + 1 → upd L n y i = L i := fun i _ => by
  unfold upd; split
  · rename_i h; rw [h, e]
  · rfl
end Go.Proofs.Ytkfapackpggagaa
