import Derived.Test.YtajpfjmmhcbjkaaDoorSm
import Derived.Test.YtajpfjmmhcbjkaaDoorSc
set_option linter.unusedSimpArgs false
set_option linter.unusedVariables false
set_option linter.unusedSectionVars false
set_option maxRecDepth 20000
namespace Go.Proofs.YtajpfjmmhcbjkaaDoor
attribute [local irreducible] QOp aL aC qL
/-- What the walk knows: no piece yet, or that of a point of this piece. -/
def ToI (S : Nat) (T F : List Nat) (to : Int) : Prop := to = -1 ∨ ∃ j q, to = ((j : Nat) : Int) ∧ j < T.length ∧ S.testBit q = true ∧ (T.getD j 0).testBit (F.getD q 0) = true
theorem opN_fml (n : Nat) (ns : List Nat) : Fml n (opN n ns) := ⟨opN_rise n ns, fun x hx => (opN_mem.1 hx).1⟩
end Go.Proofs.YtajpfjmmhcbjkaaDoor
