/- The reference's OrderOf; are two orders the same; is an order the one that is wanted. -/
import Derived.Test.YtmfhmpdpebpijaaGa
import Derived.Test.YtmfhmpdpebpijaaFh
set_option linter.unusedSimpArgs false
set_option linter.unusedVariables false
namespace Go.Proofs.Ytmfhmpdpebpijaa
attribute [local irreducible] QOp aL aC qL
abbrev ordv (N : Int) (l : List Int) : AV := .agg [.val (.int .i64 N), ints l]
end Go.Proofs.Ytmfhmpdpebpijaa
