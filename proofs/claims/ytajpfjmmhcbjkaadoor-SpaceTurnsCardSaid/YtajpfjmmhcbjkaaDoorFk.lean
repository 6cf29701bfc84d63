/- Heights with their error; the start of the chapter; are the numbers that are told those that are wanted. -/
import Derived.Test.YtajpfjmmhcbjkaaDoorFj
import Derived.Test.YtajpfjmmhcbjkaaDoorFh
import Derived.Test.YtajpfjmmhcbjkaaDoorFkb
set_option linter.unusedSimpArgs false
set_option linter.unusedVariables false
set_option linter.unusedSectionVars false
set_option maxRecDepth 20000
namespace Go.Proofs.YtajpfjmmhcbjkaaDoor
attribute [local irreducible] QOp aL aC qL
end Go.Proofs.YtajpfjmmhcbjkaaDoor
