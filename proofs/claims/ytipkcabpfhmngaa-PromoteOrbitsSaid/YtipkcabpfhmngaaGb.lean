/- The reference's OrderOf; are two orders the same; is an order the one that is wanted. -/
import Derived.Test.YtipkcabpfhmngaaGa
import Derived.Test.YtipkcabpfhmngaaFh
set_option linter.unusedSimpArgs false
set_option linter.unusedVariables false
namespace Go.Proofs.Ytipkcabpfhmngaa
attribute [local irreducible] QOp aL aC qL
abbrev ordv (N : Int) (l : List Int) : AV := .agg [.val (.int .i64 N), ints l]
end Go.Proofs.Ytipkcabpfhmngaa
