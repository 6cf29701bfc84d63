/- Are two slices of numbers the same; the order's own start. -/
import Derived.Test.YtkbcbahpcnemmaaFg
import Derived.Test.YtkbcbahpcnemmaaFhb
set_option linter.unusedSimpArgs false
set_option linter.unusedVariables false
set_option linter.unusedSectionVars false
set_option maxRecDepth 20000
namespace Go.Proofs.Ytkbcbahpcnemmaa
attribute [local irreducible] QOp aL aC qL
end Go.Proofs.Ytkbcbahpcnemmaa
