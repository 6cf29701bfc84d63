/- Heights with their error; the start of the chapter; are the numbers that are told those that are wanted. -/
import Derived.Test.YteingglnhmfieaaFj
import Derived.Test.YteingglnhmfieaaFh
import Derived.Test.YteingglnhmfieaaFkb
set_option linter.unusedSimpArgs false
set_option linter.unusedVariables false
namespace Go.Proofs.Yteingglnhmfieaa
attribute [local irreducible] QOp aL aC qL
end Go.Proofs.Yteingglnhmfieaa
