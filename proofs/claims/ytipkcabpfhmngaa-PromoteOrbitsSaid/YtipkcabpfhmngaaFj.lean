/- The heights, walked: the program's and the reference's. -/
import Derived.Test.YtipkcabpfhmngaaFi
set_option linter.unusedSimpArgs false
set_option linter.unusedVariables false
namespace Go.Proofs.Ytipkcabpfhmngaa
attribute [local irreducible] QOp aL aC qL
end Go.Proofs.Ytipkcabpfhmngaa
