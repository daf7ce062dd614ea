/- A fall of so many steps: how far from gravity's (plain law). No program. -/
import Derived.Test.YtnnjcdbliaecgaaUpr5
namespace Go.Proofs.Ytnnjcdbliaecgaa
end Go.Proofs.Ytnnjcdbliaecgaa
