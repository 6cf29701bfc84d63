/- The reference's OrderOf; are two orders the same; is an order the one that is wanted. -/
import Derived.Test.YtmfhmpdpebpijaaGa
import Derived.Test.YtmfhmpdpebpijaaFh
import Derived.Test.YtmfhmpdpebpijaaFkb
set_option linter.unusedSimpArgs false
set_option linter.unusedVariables false
namespace Go.Proofs.Ytmfhmpdpebpijaa
attribute [local irreducible] QOp aL aC qL
end Go.Proofs.Ytmfhmpdpebpijaa
