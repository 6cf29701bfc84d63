/- The heights, walked: the program's and the reference's. -/
import Derived.Test.YteingglnhmfieaaFi
set_option linter.unusedSimpArgs false
set_option linter.unusedVariables false
namespace Go.Proofs.Yteingglnhmfieaa
attribute [local irreducible] QOp aL aC qL
end Go.Proofs.Yteingglnhmfieaa
