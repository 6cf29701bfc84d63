import Derived.Test.YtbgecpjlopdkfaaDoorKo
set_option linter.unusedSimpArgs false
set_option linter.unusedVariables false
set_option linter.unusedSectionVars false
set_option maxRecDepth 20000
namespace Go.Proofs.YtbgecpjlopdkfaaDoor
attribute [local irreducible] QOp aL aC qL
def modP (M J : List (List Nat)) (x y z : Nat) : Bool := decide (ta M x z = x) && decide (ta J x (ta M y z) ≠ ta M (ta J x y) z)
def alkP (M J : List (List Nat)) (x y z : Nat) : Bool := decide (ta M x z = ta M y z) && decide (ta J x z = ta J y z)
def penP (M J : List (List Nat)) (x y z : Nat) : Bool := decide (x ≠ y) && decide (ta M x y = x) && alkP M J x y z
def diaP (M J : List (List Nat)) (x y z : Nat) : Bool := decide (x ≠ y) && decide (y ≠ z) && decide (x ≠ z) && alkP M J x y z && alkP M J y z x
end Go.Proofs.YtbgecpjlopdkfaaDoor
