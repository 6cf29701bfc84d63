/- Mu by the reference; sums over what is below: the program's word and the reference's; Euler. -/
import Derived.Test.YtkbcbahpcnemmaaRd
import Derived.Test.YtkbcbahpcnemmaaGd
import Derived.Test.YtkbcbahpcnemmaaQu
import Derived.Test.YtkbcbahpcnemmaaEngZe
set_option linter.unusedSimpArgs false
set_option linter.unusedVariables false
set_option linter.unusedSectionVars false
set_option maxRecDepth 20000
namespace Go.Proofs.Ytkbcbahpcnemmaa
attribute [local irreducible] QOp aL aC qL
attribute [local irreducible] FOp POp hL xH zL
end Go.Proofs.Ytkbcbahpcnemmaa
