import Derived.Test.YtbgecpjlopdkfaaDoorFe
set_option linter.unusedSimpArgs false
set_option linter.unusedVariables false
set_option linter.unusedSectionVars false
set_option maxRecDepth 20000
namespace Go.Proofs.YtbgecpjlopdkfaaDoor
attribute [local irreducible] QOp aL aC qL
def stA (l : List (Nat × Nat)) (i : Nat) (ns : List Nat) : List Nat := ns.set (l.getD i (0, 0)).2 (ns.getD (l.getD i (0, 0)).2 0 ||| 2 ^ (l.getD i (0, 0)).1)
def stB (k b : Nat) (ns : List Nat) : List Nat := if lt ns k b = true then ns.set b (ns.getD b 0 ||| ns.getD k 0) else ns
def rowB (n k : Nat) (ns : List Nat) : List Nat := iterN n (stB k) ns
def clos (n : Nat) (l : List (Nat × Nat)) : List Nat := iterN n (rowB n) (iterN l.length (stA l) (List.replicate n 0))
def irr (n : Nat) (ns : List Nat) : Bool := (List.range n).all fun b => !lt ns b b

end Go.Proofs.YtbgecpjlopdkfaaDoor
