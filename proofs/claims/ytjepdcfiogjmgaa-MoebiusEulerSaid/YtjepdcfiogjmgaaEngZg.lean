/- Calls that only read and give back two values, where an order is drawn. -/
import Derived.Test.YtjepdcfiogjmgaaEngT
set_option linter.unusedSimpArgs false
set_option linter.unusedVariables false
namespace Go.Proofs.Ytjepdcfiogjmgaa
open Go.RowKit
section
variable {P : Program} {st : St} {ty : TypeId} {pos : String} {af : Array Edge}
end
end Go.Proofs.Ytjepdcfiogjmgaa
