import Derived.Test.YtkapohfnoflhlaaDoorGc
set_option linter.unusedSimpArgs false
set_option linter.unusedVariables false
set_option linter.unusedSectionVars false
set_option maxRecDepth 20000
namespace Go.Proofs.YtkapohfnoflhlaaDoor
attribute [local irreducible] QOp aL aC qL
/-- The first thing that is wrong with orders. -/
def chks : List (Int × List Int) → Int
  | [] => 0
  | p :: r => if chk p.1 p.2 ≠ 0 then chk p.1 p.2 else chks r
def timesP (m : Nat) (ns ms : List Nat) (x y : Nat) : Bool := decide (x ≠ y) && uptoB ns (x / m) (y / m) && uptoB ms (x % m) (y % m)
end Go.Proofs.YtkapohfnoflhlaaDoor
