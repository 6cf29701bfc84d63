/- The reference's OrderOf; are two orders the same; is an order the one that is wanted. -/
import Derived.Test.YtkackilhfkicoaaDoorGa
import Derived.Test.YtkackilhfkicoaaDoorFh
import Derived.Test.YtkackilhfkicoaaDoorFkb
set_option linter.unusedSimpArgs false
set_option linter.unusedVariables false
set_option linter.unusedSectionVars false
set_option maxRecDepth 20000
namespace Go.Proofs.YtkackilhfkicoaaDoor
attribute [local irreducible] QOp aL aC qL
end Go.Proofs.YtkackilhfkicoaaDoor
