/- Heights with their error; the start of the chapter; are the numbers that are told those that are wanted. -/
import Derived.Test.YtkackilhfkicoaaDoorFj
import Derived.Test.YtkackilhfkicoaaDoorFh
import Derived.Test.YtkackilhfkicoaaDoorFkb
set_option linter.unusedSimpArgs false
set_option linter.unusedVariables false
set_option linter.unusedSectionVars false
set_option maxRecDepth 20000
namespace Go.Proofs.YtkackilhfkicoaaDoor
attribute [local irreducible] QOp aL aC qL
end Go.Proofs.YtkackilhfkicoaaDoor
