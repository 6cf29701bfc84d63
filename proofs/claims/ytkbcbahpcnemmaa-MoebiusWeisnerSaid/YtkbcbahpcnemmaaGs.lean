import Derived.Test.YtkbcbahpcnemmaaFv
import Derived.Test.YtkbcbahpcnemmaaGr
set_option linter.unusedSimpArgs false
set_option linter.unusedVariables false
set_option linter.unusedSectionVars false
set_option maxRecDepth 20000
namespace Go.Proofs.Ytkbcbahpcnemmaa
attribute [local irreducible] QOp aL aC qL
/-- With whom the first k of a set may go. -/
def orTo (to : List Nat) (s : Nat) : Nat → Nat
  | 0 => 0
  | k + 1 => if s.testBit k = true then orTo to s k ||| to.getD k 0 else orTo to s k
def wTo (to : List Nat) (s j : Nat) : Nat → Bool
  | 0 => false
  | k + 1 => wTo to s j k || (s.testBit k && (to.getD k 0).testBit j)
/-! Lacks. -/
def lackB (l : Nat) (to : List Nat) (s : Nat) : Bool := decide (pcTo (orTo to s l) 10 < pcTo s 10)
def lackO (l : Nat) (to : List Nat) : Option Nat := (List.range (2 ^ l)).find? (lackB l to)
end Go.Proofs.Ytkbcbahpcnemmaa
