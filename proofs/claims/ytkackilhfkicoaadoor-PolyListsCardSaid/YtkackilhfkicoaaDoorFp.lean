/- The reference's word on weights that rise; is a truth the one that is wanted. -/
import Derived.Test.YtkackilhfkicoaaDoorFo
set_option linter.unusedSimpArgs false
set_option linter.unusedVariables false
set_option linter.unusedSectionVars false
set_option maxRecDepth 20000
namespace Go.Proofs.YtkackilhfkicoaaDoor
attribute [local irreducible] QOp aL aC qL
end Go.Proofs.YtkackilhfkicoaaDoor
