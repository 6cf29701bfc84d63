import Derived.Test.YtdkkalplgfhpdaaDoorGc
import Derived.Test.YtdkkalplgfhpdaaDoorEngA
set_option linter.unusedSimpArgs false
set_option linter.unusedVariables false
set_option linter.unusedSectionVars false
set_option maxRecDepth 20000
namespace Go.Proofs.YtdkkalplgfhpdaaDoor
attribute [local irreducible] QOp aL aC qL
/-- Is something between two points, below k. -/
def btw (ns : List Nat) (a b k : Nat) : Bool := (List.range k).any fun c => lt ns a c && lt ns c b
def rowTo (f : Nat → Nat → Bool) (a b : Nat) : List (Nat × Nat) := ((List.range b).filter (f a)).map fun b => (a, b)
def prsTo (n : Nat) (f : Nat → Nat → Bool) (a : Nat) : List (Nat × Nat) := (List.range a).flatMap fun a => rowTo f a n
/-- The pairs that Pairs tells. -/
def pf (n : Nat) (ns : List Nat) (cv : Bool) (a b : Nat) : Bool := lt ns a b && (!cv || !btw ns a b n)
end Go.Proofs.YtdkkalplgfhpdaaDoor
