import Derived.Test.YtfjpgficpdbelaaGu
set_option linter.unusedSimpArgs false
set_option linter.unusedVariables false
set_option linter.unusedSectionVars false
set_option maxRecDepth 20000
namespace Go.Proofs.Ytfjpgficpdbelaa
attribute [local irreducible] QOp aL aC qL
/-- The set of the first of a list. -/
def rsN (l : List Nat) : Nat → Nat
  | 0 => 0
  | k + 1 => rsN l k ||| 2 ^ l.getD k 0
def okAt (n : Nat) (ns : List Nat) (l : List Int) (j : Nat) : Bool := (decide (0 ≤ l.getD j 0) && decide (l.getD j 0 < (n : Int))) && mayO ns (rsN (l.map Int.toNat) j) (l.getD j 0).toNat
def isRow (n : Nat) (ns : List Nat) (l : List Int) : Bool := (List.range l.length).all (okAt n ns l) && decide (l.length = n)
/-- A row told in numbers that are not negative. -/
structure RowN (n : Nat) (ns : List Nat) (l : List Nat) : Prop where
  len : l.length = n
  lt : ∀ j, j < n → l.getD j 0 < n
  may : ∀ j, j < n → mayO ns (rsN l j) (l.getD j 0) = true
end Go.Proofs.Ytfjpgficpdbelaa
