/- The great noughts by name, where the program's own form does not name them. -/
import Derived.Test.YtcbklolfibdffaaProg
import Derived.WalkKit
import Derived.WalkSpells
import Derived.WalkLawsBesides
import Derived.KernelRfl
namespace Go.Proofs.Ytcbklolfibdffaa
open Go
end Go.Proofs.Ytcbklolfibdffaa
