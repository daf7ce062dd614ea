/- thornton.Step of variances alone, One and one number more: what comes out (plain law, 1). No program. -/
import Derived.Test.YtanmddenleffaaaS01
namespace Go.Proofs.Ytanmddenleffaaa
end Go.Proofs.Ytanmddenleffaaa
