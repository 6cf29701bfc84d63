import Derived.Test.YtjepdcfiogjmgaaFq
set_option linter.unusedSimpArgs false
set_option linter.unusedVariables false
set_option maxRecDepth 20000
namespace Go.Proofs.Ytjepdcfiogjmgaa
attribute [local irreducible] QOp aL aC qL
theorem mod_succ (x j : Nat) : x % 2 ^ (j + 1) = x % 2 ^ j + 2 ^ j * (x / 2 ^ j % 2) := by
  rw [Nat.pow_succ, Nat.mod_mul]
end Go.Proofs.Ytjepdcfiogjmgaa
