import Derived.Test.YtdkkalplgfhpdaaDoorWk
set_option linter.unusedSimpArgs false
set_option linter.unusedVariables false
set_option linter.unusedSectionVars false
set_option maxRecDepth 20000
namespace Go.Proofs.YtdkkalplgfhpdaaDoor
attribute [local irreducible] QOp aL aC qL
def frQ (ns : List Nat) (d x : Nat) : Bool := !lt ns x d && !lt ns d x
def thQ (ns : List Nat) (a b c d : Nat) : Bool := lt ns a b && lt ns b c && frQ ns d a && frQ ns d b && frQ ns d c
end Go.Proofs.YtdkkalplgfhpdaaDoor
