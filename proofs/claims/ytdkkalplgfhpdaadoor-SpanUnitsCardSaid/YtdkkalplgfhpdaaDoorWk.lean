import Derived.Test.YtdkkalplgfhpdaaDoorWj
set_option linter.unusedSimpArgs false
set_option linter.unusedVariables false
set_option linter.unusedSectionVars false
set_option maxRecDepth 20000
namespace Go.Proofs.YtdkkalplgfhpdaaDoor
attribute [local irreducible] QOp aL aC qL
/-- What is asked which point is lower. -/
def lwF (n : Nat) (ns : List Nat) : AV := .clo 93 [.rpt [.val (.int .i64 n), .sl 1 (intc (nl ns))] 0]
/-- Two pairs. -/
def twQ (ns : List Nat) (a b c d : Nat) : Bool := lt ns a b && lt ns c d && !lt ns a d && !lt ns c b
end Go.Proofs.YtdkkalplgfhpdaaDoor
