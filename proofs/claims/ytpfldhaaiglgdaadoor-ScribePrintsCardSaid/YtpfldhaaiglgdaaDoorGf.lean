import Derived.Test.YtpfldhaaiglgdaaDoorGe
import Derived.Test.YtpfldhaaiglgdaaDoorEngT
set_option linter.unusedSimpArgs false
set_option linter.unusedVariables false
set_option linter.unusedSectionVars false
set_option maxRecDepth 20000
namespace Go.Proofs.YtpfldhaaiglgdaaDoor
attribute [local irreducible] QOp aL aC qL
/-! Turned over. -/
def dualP (ns : List Nat) (a b : Nat) : Bool := lt ns b a
def turnP (l : List (Nat × Nat)) (k : Nat) (a b : Nat) : Bool := (l.take k).contains (b, a)
end Go.Proofs.YtpfldhaaiglgdaaDoor
