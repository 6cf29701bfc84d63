import Derived.Test.YtdbngpkbamhbeaaFb
set_option linter.unusedSimpArgs false
set_option linter.unusedVariables false
set_option linter.unusedSectionVars false
set_option maxRecDepth 20000
namespace Go.Proofs.Ytdbngpkbamhbeaa
attribute [local irreducible] QOp aL aC qL
/-- a is below b. -/
def lt (ns : List Nat) (a b : Nat) : Bool := (ns.getD b 0).testBit a
def okPair (ns : List Nat) (b a : Nat) : Bool := !lt ns a b || ndiff (ns.getD a 0) (ns.getD b 0) == 0
def okRow (N : Nat) (ns : List Nat) (b : Nat) : Bool := !lt ns b b && (List.range N).all (okPair ns b)
/-- No point is below itself, and what is below something below a point is below it. -/
def okB (N : Nat) (ns : List Nat) : Bool := (List.range N).all (okRow N ns)
def chk (N : Int) (l : List Int) : Int :=
  if N < 0 ∨ 10 < N then 2 else if (l.length : Int) ≠ N then 1 else if ∃ x ∈ l, x < 0 ∨ x / 2 ^ N.toNat ≠ 0 then 3 else if okB N.toNat (l.map Int.toNat) then 0 else 4

end Go.Proofs.Ytdbngpkbamhbeaa
set_option linter.unusedSimpArgs false
set_option linter.unusedVariables false
set_option linter.unusedSectionVars false
set_option maxRecDepth 20000
namespace Go.Proofs.Ytdbngpkbamhbeaa
attribute [local irreducible] QOp aL aC qL
def trip (ns : List Nat) (i j k : Nat) : Bool := lt ns j k && (lt ns k i && !lt ns j i)

end Go.Proofs.Ytdbngpkbamhbeaa
set_option linter.unusedSimpArgs false
set_option linter.unusedVariables false
set_option linter.unusedSectionVars false
set_option maxRecDepth 20000
namespace Go.Proofs.Ytdbngpkbamhbeaa
attribute [local irreducible] QOp aL aC qL
def stA (l : List (Nat × Nat)) (i : Nat) (ns : List Nat) : List Nat := ns.set (l.getD i (0, 0)).2 (ns.getD (l.getD i (0, 0)).2 0 ||| 2 ^ (l.getD i (0, 0)).1)
def stB (k b : Nat) (ns : List Nat) : List Nat := if lt ns k b = true then ns.set b (ns.getD b 0 ||| ns.getD k 0) else ns
def rowB (n k : Nat) (ns : List Nat) : List Nat := iterN n (stB k) ns
def clos (n : Nat) (l : List (Nat × Nat)) : List Nat := iterN n (rowB n) (iterN l.length (stA l) (List.replicate n 0))
def irr (n : Nat) (ns : List Nat) : Bool := (List.range n).all fun b => !lt ns b b

end Go.Proofs.Ytdbngpkbamhbeaa
