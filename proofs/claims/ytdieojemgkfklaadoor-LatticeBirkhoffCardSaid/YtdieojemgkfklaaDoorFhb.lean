/- Are two lists of numbers the same (parted from Fh). -/
import Derived.Test.YtdieojemgkfklaaDoorFe
set_option linter.unusedSimpArgs false
set_option linter.unusedVariables false
set_option maxRecDepth 20000
namespace Go.Proofs.YtdieojemgkfklaaDoor
attribute [local irreducible] QOp aL aC qL
end Go.Proofs.YtdieojemgkfklaaDoor
