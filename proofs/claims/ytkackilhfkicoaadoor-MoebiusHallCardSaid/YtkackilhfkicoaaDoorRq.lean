import Derived.Test.YtkackilhfkicoaaDoorRa
set_option linter.unusedSimpArgs false
set_option linter.unusedVariables false
set_option linter.unusedSectionVars false
set_option maxRecDepth 20000
namespace Go.Proofs.YtkackilhfkicoaaDoor
/-- What is below what of pairs. -/
def prL (m : Nat) (L K : Nat → Nat → Bool) (p q : Nat) : Bool := decide (p ≠ q) && (decide (p / m = q / m) || L (p / m) (q / m)) && (decide (p % m = q % m) || K (p % m) (q % m))
end Go.Proofs.YtkackilhfkicoaaDoor
