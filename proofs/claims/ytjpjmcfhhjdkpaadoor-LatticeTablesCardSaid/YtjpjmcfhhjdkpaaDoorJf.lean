/- The lattice of sets: the program's word. -/
import Derived.Test.YtjpjmcfhhjdkpaaDoorJe
set_option linter.unusedSimpArgs false
set_option linter.unusedVariables false
set_option maxRecDepth 20000
namespace Go.Proofs.YtjpjmcfhhjdkpaaDoor
attribute [local irreducible] QOp aL aC qL
attribute [local irreducible] FOp POp hL xH zL mrow mtab plc
end Go.Proofs.YtjpjmcfhhjdkpaaDoor
