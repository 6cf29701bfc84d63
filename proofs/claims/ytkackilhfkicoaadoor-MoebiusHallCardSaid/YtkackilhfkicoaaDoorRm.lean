import Derived.Test.YtkackilhfkicoaaDoorRl
set_option linter.unusedSimpArgs false
set_option linter.unusedVariables false
set_option linter.unusedSectionVars false
set_option maxRecDepth 20000
namespace Go.Proofs.YtkackilhfkicoaaDoor
attribute [local irreducible] QOp aL aC qL
attribute [local irreducible] FOp POp hL xH zL
def atN (n : Nat) (ns : List Nat) (s : Nat) : Bool := (List.range n).all fun i => (List.range n).all fun k => !(s.testBit i && s.testBit k && lt ns i k)
def stW (n : Nat) (ns : List Nat) (s t : Nat) : Bool := atN n ns (ndiff t s)
def srT (n : Nat) (ns : List Nat) (k : Nat) : Nat := wI (idS n ns) (stW n ns) k ((idS n ns).length - 1)
/-! The reference's. -/
def pM (n : Nat) (ns : List Nat) (c : Bool) (s t : Nat) : Bool := !c || atN n ns (ndiff t s)
/-! The start of the chapter. -/
end Go.Proofs.YtkackilhfkicoaaDoor
