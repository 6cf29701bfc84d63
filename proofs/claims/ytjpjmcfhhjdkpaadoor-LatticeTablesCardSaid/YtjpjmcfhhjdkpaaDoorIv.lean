/- Lattices: what is below what; the ends; does a map keep joins. -/
import Derived.Test.YtjpjmcfhhjdkpaaDoorIr
import Derived.Test.YtjpjmcfhhjdkpaaDoorIp
set_option linter.unusedSimpArgs false
set_option linter.unusedVariables false
set_option maxRecDepth 20000
namespace Go.Proofs.YtjpjmcfhhjdkpaaDoor
attribute [local irreducible] QOp aL aC qL
end Go.Proofs.YtjpjmcfhhjdkpaaDoor
