/- Contract of thornton.rows. -/
import Derived.Test.YtkfapackpggagaaThOne
namespace Go.Proofs.Ytkfapackpggagaa
open Go.RowKit
set_option maxRecDepth 100000
end Go.Proofs.Ytkfapackpggagaa
