/- Are two slices of numbers the same; the order's own start. -/
import Derived.Test.YtmfhmpdpebpijaaFg
import Derived.Test.YtmfhmpdpebpijaaFhb
set_option linter.unusedSimpArgs false
set_option linter.unusedVariables false
namespace Go.Proofs.Ytmfhmpdpebpijaa
attribute [local irreducible] QOp aL aC qL
end Go.Proofs.Ytmfhmpdpebpijaa
