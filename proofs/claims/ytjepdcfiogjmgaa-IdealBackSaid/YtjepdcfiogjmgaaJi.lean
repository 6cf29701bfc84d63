import Derived.Test.YtjepdcfiogjmgaaJh
set_option linter.unusedSimpArgs false
set_option linter.unusedVariables false
set_option maxRecDepth 20000
namespace Go.Proofs.Ytjepdcfiogjmgaa
attribute [local irreducible] QOp aL aC qL
/-- So is it for all below z. -/
def acc (c : Nat → Bool) : Nat → Bool
  | 0 => true
  | z + 1 => acc c z && c z
def cvB (M : List (List Nat)) (x y : Nat) : Bool := decide (y ≠ x) && decide (ta M y x = y)
def cvC (M : List (List Nat)) (x y z : Nat) : Bool := decide (z = x) || decide (z = y) || !decide (ta M y z = y) || !decide (ta M z x = z)
end Go.Proofs.Ytjepdcfiogjmgaa
