import Derived.Test.YtbgecpjlopdkfaaDoorFe
import Derived.Test.YtbgecpjlopdkfaaDoorFi
set_option linter.unusedSimpArgs false
set_option linter.unusedVariables false
set_option linter.unusedSectionVars false
set_option maxRecDepth 20000
namespace Go.Proofs.YtbgecpjlopdkfaaDoor
attribute [local irreducible] QOp aL aC qL
abbrev ordv (N : Int) (l : List Int) : AV := .agg [.val (.int .i64 N), ints l]
def uptoB (ns : List Nat) (a b : Nat) : Bool := decide (a = b) || lt ns a b
end Go.Proofs.YtbgecpjlopdkfaaDoor
