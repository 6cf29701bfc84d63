/- The heights, walked: the program's and the reference's. -/
import Derived.Test.YtkackilhfkicoaaDoorFi
set_option linter.unusedSimpArgs false
set_option linter.unusedVariables false
set_option linter.unusedSectionVars false
set_option maxRecDepth 20000
namespace Go.Proofs.YtkackilhfkicoaaDoor
attribute [local irreducible] QOp aL aC qL
end Go.Proofs.YtkackilhfkicoaaDoor
