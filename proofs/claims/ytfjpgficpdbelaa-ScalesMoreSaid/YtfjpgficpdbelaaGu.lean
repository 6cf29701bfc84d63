import Derived.Test.YtfjpgficpdbelaaGn
import Derived.Test.YtfjpgficpdbelaaFq
import Derived.Test.YtfjpgficpdbelaaEngA
set_option linter.unusedSimpArgs false
set_option linter.unusedVariables false
set_option linter.unusedSectionVars false
set_option maxRecDepth 20000
namespace Go.Proofs.Ytfjpgficpdbelaa
attribute [local irreducible] QOp aL aC qL
/-- What has been summed up for a set, of the first p points. -/
def acc (n : Nat) (may : Nat → Nat → Bool) (s p : Nat) : Nat := (if s = 2 ^ n - 1 then 1 else 0) + sumTo (term n may s) p
/-- The table while a set is summed up. -/
def tby (n : Nat) (may : Nat → Nat → Bool) (s p : Nat) : List Nat := (tbl n may (s + 1)).set s (acc n may s p)
structure Tby (n : Nat) (may : Nat → Nat → Bool) (s p : Nat) (Y : List Nat) : Prop where
  len : Y.length = 2 ^ n
  at' : Y.getD s 0 ≤ 200000000000
  up : p < n → s.testBit p = false → Y.getD (s ||| 2 ^ p) 0 ≤ 10000000000
  keep : may s p = false → tby n may s (p + 1) = Y
  grow : p < n → may s p = true → tby n may s (p + 1) = Y.set s (Y.getD s 0 + Y.getD (s ||| 2 ^ p) 0)
  fin : p = n → Y = tbl n may s
end Go.Proofs.Ytfjpgficpdbelaa
