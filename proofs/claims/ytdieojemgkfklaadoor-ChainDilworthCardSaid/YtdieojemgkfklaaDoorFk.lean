/- Heights with their error; the start of the chapter; are the numbers that are told those that are wanted. -/
import Derived.Test.YtdieojemgkfklaaDoorFj
import Derived.Test.YtdieojemgkfklaaDoorFh
import Derived.Test.YtdieojemgkfklaaDoorFkb
set_option linter.unusedSimpArgs false
set_option linter.unusedVariables false
set_option maxRecDepth 20000
namespace Go.Proofs.YtdieojemgkfklaaDoor
attribute [local irreducible] QOp aL aC qL
end Go.Proofs.YtdieojemgkfklaaDoor
