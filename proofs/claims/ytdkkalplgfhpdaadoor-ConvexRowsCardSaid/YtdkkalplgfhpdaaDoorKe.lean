import Derived.Test.YtdkkalplgfhpdaaDoorKa
import Derived.Test.YtdkkalplgfhpdaaDoorGa
import Derived.Test.YtdkkalplgfhpdaaDoorFq
import Derived.Test.YtdkkalplgfhpdaaDoorFkb
import Derived.Test.YtdkkalplgfhpdaaDoorFb
set_option linter.unusedSimpArgs false
set_option linter.unusedVariables false
set_option linter.unusedSectionVars false
set_option maxRecDepth 20000
namespace Go.Proofs.YtdkkalplgfhpdaaDoor
attribute [local irreducible] QOp aL aC qL
def upB (ns : List Nat) (a b : Nat) : Bool := decide (a = b) || lt ns a b
/-- Is i above all of a set, or one of it; below all of it. -/
def bndP (n : Nat) (ns : List Nat) (set : Nat) (up : Bool) (i : Nat) : Bool := (List.range n).all fun k => !set.testBit k || (if up = true then upB ns k i else upB ns i k)
/-- Below all of the first k of a list. -/
def lwT (n : Nat) (ns L : List Nat) : Nat → Nat
  | 0 => 2 ^ n - 1
  | k + 1 => lwT n ns L k &&& (ns.getD (L.getD k 0) 0 ||| 2 ^ L.getD k 0)
end Go.Proofs.YtdkkalplgfhpdaaDoor
set_option linter.unusedSimpArgs false
set_option linter.unusedVariables false
set_option linter.unusedSectionVars false
set_option maxRecDepth 20000
namespace Go.Proofs.YtdkkalplgfhpdaaDoor
attribute [local irreducible] QOp aL aC qL
def sch (N : Int) (l : List Int) (set : Int) : Int := if chk N l ≠ 0 then chk N l else if 0 ≤ set ∧ set < ((2 ^ N.toNat : Nat) : Int) then 0 else 3
end Go.Proofs.YtdkkalplgfhpdaaDoor
