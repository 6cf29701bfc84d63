import Derived.Test.YtfjpgficpdbelaaGv
set_option linter.unusedSimpArgs false
set_option linter.unusedVariables false
set_option linter.unusedSectionVars false
set_option maxRecDepth 20000
namespace Go.Proofs.Ytfjpgficpdbelaa
attribute [local irreducible] QOp aL aC qL
/-- Which comes next behind a set, of the rows ahead of which k others come. -/
def pkB (n : Nat) (may : Nat → Nat → Bool) (s k p : Nat) : Bool := decide (k < sumTo (term n may s) (p + 1))
def pk (n : Nat) (may : Nat → Nat → Bool) (s k : Nat) : Nat := ((List.range n).find? (pkB n may s k)).getD 0
def nst (n : Nat) (may : Nat → Nat → Bool) (k0 : Nat) : Nat → Nat × Nat × List Nat
  | 0 => (0, k0, [])
  | j + 1 => ((nst n may k0 j).1 ||| 2 ^ pk n may (nst n may k0 j).1 (nst n may k0 j).2.1, (nst n may k0 j).2.1 - sumTo (term n may (nst n may k0 j).1) (pk n may (nst n may k0 j).1 (nst n may k0 j).2.1), (nst n may k0 j).2.2 ++ [pk n may (nst n may k0 j).1 (nst n may k0 j).2.1])
structure Nst (n : Nat) (may : Nat → Nat → Bool) (j : Nat) (q : Nat × Nat × List Nat) : Prop where
  hs : q.1 < 2 ^ n
  mis : mis n q.1 + j = n
  hk : q.2.1 < rest n may q.1
  len : q.2.2.length = j
def nthN (n : Nat) (ns : List Nat) (k : Nat) : List Nat := (nst n (mayO ns) k n).2.2
end Go.Proofs.Ytfjpgficpdbelaa
