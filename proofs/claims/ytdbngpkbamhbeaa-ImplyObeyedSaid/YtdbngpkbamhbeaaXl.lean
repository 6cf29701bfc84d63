import Derived.Test.YtdbngpkbamhbeaaXe
import Derived.Test.YtdbngpkbamhbeaaFr
set_option linter.unusedSimpArgs false
set_option linter.unusedVariables false
set_option linter.unusedSectionVars false
set_option maxRecDepth 20000
namespace Go.Proofs.Ytdbngpkbamhbeaa
attribute [local irreducible] QOp aL aC qL
def obT (l : List (Nat × Nat)) (s k : Nat) : List Nat := (List.range k).filter fun t => sub s t && oba l t
def alT (L : List Nat) (i m : Nat) : Bool := (L.take m).all fun t => t.testBit i
end Go.Proofs.Ytdbngpkbamhbeaa
set_option linter.unusedSimpArgs false
set_option linter.unusedVariables false
set_option linter.unusedSectionVars false
set_option maxRecDepth 20000
namespace Go.Proofs.Ytdbngpkbamhbeaa
attribute [local irreducible] QOp aL aC qL
def cloT (n : Nat) (l : List (Nat × Nat)) (k : Nat) : List Nat := (List.range k).map (clo n l)
theorem cloT_get {n : Nat} {l : List (Nat × Nat)} {k i : Nat} (h : i < k) : (cloT n l k).getD i 0 = clo n l i := by simp [cloT, List.getD_eq_getElem?_getD, h]
end Go.Proofs.Ytdbngpkbamhbeaa
