/- A fall: one step, and so many (plain law). No program. -/
import Derived.Test.YtnnjcdbliaecgaaUpr4
namespace Go.Proofs.Ytnnjcdbliaecgaa
end Go.Proofs.Ytnnjcdbliaecgaa
