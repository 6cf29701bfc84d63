import Derived.Test.YtdkkalplgfhpdaaDoorUc
import Derived.Test.YtdkkalplgfhpdaaDoorGa
import Derived.Test.YtdkkalplgfhpdaaDoorFq
import Derived.Test.YtdkkalplgfhpdaaDoorKe
set_option linter.unusedSimpArgs false
set_option linter.unusedVariables false
set_option linter.unusedSectionVars false
set_option maxRecDepth 20000
namespace Go.Proofs.YtdkkalplgfhpdaaDoor
attribute [local irreducible] QOp aL aC qL
theorem pow_le_bit {s p : Nat} (h : s.testBit p = true) : 2 ^ p ≤ s := by
  rcases Nat.lt_or_ge s (2 ^ p) with h1 | h1
  · rw [Nat.testBit_lt_two_pow h1] at h; cases h
  · exact h1
/-- Which of the first k sets are there. -/
def tbF (n : Nat) (S : List Nat) (k : Nat) : List Bool := (List.range (2 ^ n)).map fun x => (S.take k).contains x
def inB (n : Nat) (S : List Nat) : List Bool := (List.range (2 ^ n)).map fun x => decide (x ∈ S)
/-! The whole. -/
def ouT (S : List Nat) : Nat → Nat
  | 0 => 0
  | k + 1 => ouT S k ||| S.getD k 0
/-! Hulls and corners. -/
def hlP (n : Nat) (S : List Nat) (set p : Nat) : Bool := (List.range S.length).all fun i => !sub set (2 ^ n - 1 - S.getD i 0) || (2 ^ n - 1 - S.getD i 0).testBit p
end Go.Proofs.YtdkkalplgfhpdaaDoor
