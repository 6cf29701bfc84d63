import Derived.Test.YtbgecpjlopdkfaaDoorWja
import Derived.Test.YtbgecpjlopdkfaaDoorWna
set_option linter.unusedSimpArgs false
set_option linter.unusedVariables false
set_option linter.unusedSectionVars false
set_option maxRecDepth 20000
namespace Go.Proofs.YtbgecpjlopdkfaaDoor
attribute [local irreducible] QOp aL aC qL
def zgQ (ns : List Nat) (a b c d : Nat) : Bool := zgA ns [a, b, c, d]
end Go.Proofs.YtbgecpjlopdkfaaDoor
