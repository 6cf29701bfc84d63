/- Are two lists of pairs the same. -/
import Derived.Test.YtajpfjmmhcbjkaaDoorFm
set_option linter.unusedSimpArgs false
set_option linter.unusedVariables false
set_option linter.unusedSectionVars false
set_option maxRecDepth 20000
namespace Go.Proofs.YtajpfjmmhcbjkaaDoor
attribute [local irreducible] QOp aL aC qL
end Go.Proofs.YtajpfjmmhcbjkaaDoor
