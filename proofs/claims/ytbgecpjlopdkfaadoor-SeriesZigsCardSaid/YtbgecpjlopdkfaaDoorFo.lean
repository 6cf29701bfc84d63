import Derived.Test.YtbgecpjlopdkfaaDoorFn
set_option linter.unusedSimpArgs false
set_option linter.unusedVariables false
set_option linter.unusedSectionVars false
set_option maxRecDepth 20000
namespace Go.Proofs.YtbgecpjlopdkfaaDoor
attribute [local irreducible] QOp aL aC qL
def sub (a b : Nat) : Bool := ndiff a b == 0
def risesP (n : Nat) (f : List Int) : Bool := (List.range (2 ^ n)).all fun s => (List.range n).all fun p => !decide (f.getD (s ||| 2 ^ p) 0 < f.getD s 0)
def rising (n : Nat) (f : List Int) : Bool := (List.range (2 ^ n)).all fun a => (List.range (2 ^ n)).all fun b => !(sub a b && decide (f.getD a 0 > f.getD b 0))

/-! Walked. -/
end Go.Proofs.YtbgecpjlopdkfaaDoor
