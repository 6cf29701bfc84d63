/- Calls that only read and give back two values, where an order is drawn. -/
import Derived.Test.YtkackilhfkicoaaDoorEngT
set_option linter.unusedSimpArgs false
set_option linter.unusedVariables false
set_option linter.unusedSectionVars false
namespace Go.Proofs.YtkackilhfkicoaaDoor
open Go.RowKit
section
variable {P : Program} {st : St} {ty : TypeId} {pos : String} {af : Array Edge}
end
end Go.Proofs.YtkackilhfkicoaaDoor
