/- Heights with their error; the start of the chapter; are the numbers that are told those that are wanted. -/
import Derived.Test.YtjepdcfiogjmgaaFj
import Derived.Test.YtjepdcfiogjmgaaFh
import Derived.Test.YtjepdcfiogjmgaaFkb
set_option linter.unusedSimpArgs false
set_option linter.unusedVariables false
set_option maxRecDepth 20000
namespace Go.Proofs.Ytjepdcfiogjmgaa
attribute [local irreducible] QOp aL aC qL
end Go.Proofs.Ytjepdcfiogjmgaa
