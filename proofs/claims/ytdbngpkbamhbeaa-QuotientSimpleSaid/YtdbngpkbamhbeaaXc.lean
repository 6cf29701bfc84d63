import Derived.Test.YtdbngpkbamhbeaaFm
import Derived.Test.YtdbngpkbamhbeaaEngT
set_option linter.unusedSimpArgs false
set_option linter.unusedVariables false
set_option linter.unusedSectionVars false
set_option maxRecDepth 20000
namespace Go.Proofs.Ytdbngpkbamhbeaa
attribute [local irreducible] QOp aL aC qL
def badLen (n : Nat) (f : List Int) : Bool := decide ((f.length : Int) ≠ ((2 ^ n : Nat) : Int))
def badW (w : Int) : Bool := decide (w < 0) || decide (w > 1000)
def wchk (N : Int) (ls : List (List Int)) : Int := if N < 0 ∨ 6 < N then 2 else if ls.any (badLen N.toNat) = true then 1 else if ls.any (fun f => f.any badW) = true then 3 else 0

/-! The reference. -/
/-- Is one of the first k bad. -/
def anyTo {α : Type} (p : α → Bool) (l : List α) (k : Nat) : Bool := (l.take k).any p
end Go.Proofs.Ytdbngpkbamhbeaa
set_option linter.unusedSimpArgs false
set_option linter.unusedVariables false
set_option linter.unusedSectionVars false
set_option maxRecDepth 20000
namespace Go.Proofs.Ytdbngpkbamhbeaa
attribute [local irreducible] QOp aL aC qL
def sub (a b : Nat) : Bool := ndiff a b == 0
def risesP (n : Nat) (f : List Int) : Bool := (List.range (2 ^ n)).all fun s => (List.range n).all fun p => !decide (f.getD (s ||| 2 ^ p) 0 < f.getD s 0)
def rising (n : Nat) (f : List Int) : Bool := (List.range (2 ^ n)).all fun a => (List.range (2 ^ n)).all fun b => !(sub a b && decide (f.getD a 0 > f.getD b 0))

/-! Walked. -/
end Go.Proofs.Ytdbngpkbamhbeaa
set_option linter.unusedSimpArgs false
set_option linter.unusedVariables false
set_option linter.unusedSectionVars false
set_option maxRecDepth 20000
namespace Go.Proofs.Ytdbngpkbamhbeaa
attribute [local irreducible] QOp aL aC qL
def obl (s : Nat) (r : Nat × Nat) : Bool := !sub r.1 s || sub r.2 s
def oba (l : List (Nat × Nat)) (s : Nat) : Bool := l.all (obl s)
/-- Rules of n marks. -/
structure Rls (n : Nat) (l : List (Nat × Nat)) : Prop where
  hn : n ≤ 10
  len : l.length ≤ 60
  lt : ∀ r ∈ l, r.1 < 2 ^ n ∧ r.2 < 2 ^ n
/-- What is the least that obeys. -/
structure IsCl (l : List (Nat × Nat)) (s r : Nat) : Prop where
  sup : sub s r = true
  ob : oba l r = true
  least : ∀ t, sub s t = true → oba l t = true → sub r t = true
def clo (n : Nat) (l : List (Nat × Nat)) (s : Nat) : Nat := ((List.range (2 ^ n)).filter fun t => sub s t && oba l t).foldl (fun x y => x &&& y) (2 ^ n - 1)
/-! What is wrong with rules. -/
def rlw (n : Int) (r : Int × Int) : Bool := decide (r.1 < 0 ∨ ((2 ^ n.toNat : Nat) : Int) ≤ r.1 ∨ r.2 < 0 ∨ ((2 ^ n.toNat : Nat) : Int) ≤ r.2)
def rlck (n : Int) (l : List (Int × Int)) : Int := if n < 0 ∨ 10 < n ∨ 60 < l.length then 2 else if l.any (rlw n) = true then 3 else 0
end Go.Proofs.Ytdbngpkbamhbeaa
