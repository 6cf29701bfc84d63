import Derived.Test.YtbgecpjlopdkfaaDoorFe
set_option linter.unusedSimpArgs false
set_option linter.unusedVariables false
set_option linter.unusedSectionVars false
set_option maxRecDepth 20000
namespace Go.Proofs.YtbgecpjlopdkfaaDoor

/-- How many are below. -/
def rk (n : Nat) (ns : List Nat) (b : Nat) : Nat := (List.range n).countP fun a => lt ns a b
/-- One step of the greatest. -/
def mx (p : Nat → Bool) (g : Nat → Nat) (j h : Nat) : Nat := if p j = true then max h (g j + 1) else h
def hF (n : Nat) (ns : List Nat) : Nat → Nat → Nat
  | 0, _ => 0
  | f + 1, b => iterN n (mx (fun j => lt ns j b) (hF n ns f)) 0
def hgt (n : Nat) (ns : List Nat) (b : Nat) : Nat := hF n ns (n + 1) b

/-! Rounds. -/
def rlx (ns : List Nat) (b a : Nat) (out : List Nat) : List Nat := if lt ns a b = true then out.set b (max (out.getD b 0) (out.getD a 0 + 1)) else out
def rlxB (n : Nat) (ns : List Nat) (b : Nat) (out : List Nat) : List Nat := iterN n (rlx ns b) out
def rlxR (n : Nat) (ns : List Nat) (_ : Nat) (out : List Nat) : List Nat := iterN n (rlxB n ns) out
def htP (n : Nat) (ns : List Nat) : List Nat := iterN n (rlxR n ns) (List.replicate n 0)

structure Hts (n : Nat) (ns : List Nat) (out : List Nat) : Prop where
  len : out.length = n
  le : ∀ b, b < n → out.getD b 0 ≤ hgt n ns b

end Go.Proofs.YtbgecpjlopdkfaaDoor
set_option linter.unusedSimpArgs false
set_option linter.unusedVariables false
set_option linter.unusedSectionVars false
set_option maxRecDepth 20000
namespace Go.Proofs.YtbgecpjlopdkfaaDoor
attribute [local irreducible] QOp aL aC qL
abbrev ordv (N : Int) (l : List Int) : AV := .agg [.val (.int .i64 N), ints l]
def uptoB (ns : List Nat) (a b : Nat) : Bool := decide (a = b) || lt ns a b
end Go.Proofs.YtbgecpjlopdkfaaDoor
