import Derived.Test.YtfjpgficpdbelaaFb
set_option linter.unusedSimpArgs false
set_option linter.unusedVariables false
set_option linter.unusedSectionVars false
set_option maxRecDepth 20000
namespace Go.Proofs.Ytfjpgficpdbelaa
attribute [local irreducible] QOp aL aC qL
/-- a is below b. -/
def lt (ns : List Nat) (a b : Nat) : Bool := (ns.getD b 0).testBit a
def okPair (ns : List Nat) (b a : Nat) : Bool := !lt ns a b || ndiff (ns.getD a 0) (ns.getD b 0) == 0
def okRow (N : Nat) (ns : List Nat) (b : Nat) : Bool := !lt ns b b && (List.range N).all (okPair ns b)
/-- No point is below itself, and what is below something below a point is below it. -/
def okB (N : Nat) (ns : List Nat) : Bool := (List.range N).all (okRow N ns)
def chk (N : Int) (l : List Int) : Int :=
  if N < 0 ∨ 10 < N then 2 else if (l.length : Int) ≠ N then 1 else if ∃ x ∈ l, x < 0 ∨ x / 2 ^ N.toNat ≠ 0 then 3 else if okB N.toNat (l.map Int.toNat) then 0 else 4

end Go.Proofs.Ytfjpgficpdbelaa
