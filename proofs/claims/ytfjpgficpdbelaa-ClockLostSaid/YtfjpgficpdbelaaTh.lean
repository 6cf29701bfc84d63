import Derived.Test.YtfjpgficpdbelaaFb
set_option linter.unusedSimpArgs false
set_option linter.unusedVariables false
set_option linter.unusedSectionVars false
set_option maxRecDepth 20000
namespace Go.Proofs.Ytfjpgficpdbelaa
attribute [local irreducible] QOp aL aC qL
/-- How many of the first k numbers. -/
def cqN (p : Nat → Bool) : Nat → Nat
  | 0 => 0
  | k + 1 => if p k = true then cqN p k + 1 else cqN p k
def sqN (f : Nat → Nat) : Nat → Nat
  | 0 => 0
  | k + 1 => sqN f k + f k
end Go.Proofs.Ytfjpgficpdbelaa
