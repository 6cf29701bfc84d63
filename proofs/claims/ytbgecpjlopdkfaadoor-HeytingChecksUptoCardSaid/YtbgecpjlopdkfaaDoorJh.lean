import Derived.Test.YtbgecpjlopdkfaaDoorJg
import Derived.Test.YtbgecpjlopdkfaaDoorIv
import Derived.Test.YtbgecpjlopdkfaaDoorEngT
set_option linter.unusedSimpArgs false
set_option linter.unusedVariables false
set_option linter.unusedSectionVars false
set_option maxRecDepth 20000
namespace Go.Proofs.YtbgecpjlopdkfaaDoor
attribute [local irreducible] QOp aL aC qL
/-- The irreducible ones of the first k. -/
def irT (n : Nat) (M : List (List Nat)) (k : Nat) : List Nat := (List.range k).filter fun x => decide (nc (fun y => decide (CovP n (ta M) x y)) n = 1)
/-- A lattice, told by its tables. -/
structure La (n : Nat) (M J : List (List Nat)) : Prop where
  n1 : 1 ≤ n
  n2 : n ≤ 40
  sM : Sq n M
  sJ : Sq n J
  A : Lt n (ta M) (ta J)
end Go.Proofs.YtbgecpjlopdkfaaDoor
