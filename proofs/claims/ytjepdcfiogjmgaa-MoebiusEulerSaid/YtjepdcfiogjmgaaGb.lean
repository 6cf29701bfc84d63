/- The reference's OrderOf; are two orders the same; is an order the one that is wanted. -/
import Derived.Test.YtjepdcfiogjmgaaGa
import Derived.Test.YtjepdcfiogjmgaaFh
import Derived.Test.YtjepdcfiogjmgaaFkb
set_option linter.unusedSimpArgs false
set_option linter.unusedVariables false
set_option maxRecDepth 20000
namespace Go.Proofs.Ytjepdcfiogjmgaa
attribute [local irreducible] QOp aL aC qL
end Go.Proofs.Ytjepdcfiogjmgaa
