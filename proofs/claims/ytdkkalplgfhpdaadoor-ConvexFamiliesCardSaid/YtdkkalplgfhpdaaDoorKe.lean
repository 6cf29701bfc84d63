import Derived.Test.YtdkkalplgfhpdaaDoorFb
import Derived.Test.YtdkkalplgfhpdaaDoorFkb
set_option linter.unusedSimpArgs false
set_option linter.unusedVariables false
set_option linter.unusedSectionVars false
set_option maxRecDepth 20000
namespace Go.Proofs.YtdkkalplgfhpdaaDoor
attribute [local irreducible] QOp aL aC qL
def sch (N : Int) (l : List Int) (set : Int) : Int := if chk N l ≠ 0 then chk N l else if 0 ≤ set ∧ set < ((2 ^ N.toNat : Nat) : Int) then 0 else 3
end Go.Proofs.YtdkkalplgfhpdaaDoor
