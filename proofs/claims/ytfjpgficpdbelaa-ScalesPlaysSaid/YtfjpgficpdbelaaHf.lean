import Derived.Test.YtfjpgficpdbelaaHe
set_option linter.unusedSimpArgs false
set_option linter.unusedVariables false
set_option linter.unusedSectionVars false
set_option maxRecDepth 20000
namespace Go.Proofs.Ytfjpgficpdbelaa
attribute [local irreducible] QOp aL aC qL
def rkT (n : Nat) (ns r : List Nat) (i : Nat) : Nat := sumTo (term n (mayO ns) (rsN r i)) (r.getD i 0)
def rkN (n : Nat) (ns r : List Nat) (i : Nat) : Nat := sumTo (rkT n ns r) i
end Go.Proofs.Ytfjpgficpdbelaa
