/- Ideals of the order turned over (plain). -/
import Derived.Test.YtajpfjmmhcbjkaaDoorGf
set_option linter.unusedSimpArgs false
set_option linter.unusedVariables false
set_option linter.unusedSectionVars false
set_option maxRecDepth 20000
namespace Go.Proofs.YtajpfjmmhcbjkaaDoor
attribute [local irreducible] QOp aL aC qL
end Go.Proofs.YtajpfjmmhcbjkaaDoor
