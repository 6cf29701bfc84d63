/- What is wrong with a lattice: the reference's word. -/
import Derived.Test.YtdieojemgkfklaaDoorIs
set_option linter.unusedSimpArgs false
set_option linter.unusedVariables false
set_option maxRecDepth 20000
namespace Go.Proofs.YtdieojemgkfklaaDoor
attribute [local irreducible] QOp aL aC qL
end Go.Proofs.YtdieojemgkfklaaDoor
