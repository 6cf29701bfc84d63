import Derived.Test.YtdbngpkbamhbeaaFx
import Derived.Test.YtdbngpkbamhbeaaFf
set_option linter.unusedSimpArgs false
set_option linter.unusedVariables false
set_option linter.unusedSectionVars false
set_option maxRecDepth 20000
namespace Go.Proofs.Ytdbngpkbamhbeaa
attribute [local irreducible] QOp aL aC qL
def nx (m : Nat) (ns : List Nat) (set : Nat) : Nat → Option Nat
  | 0 => none
  | s + 1 => if lec set s = true ∧ (∀ y, nx m ns set s = some y → lec y s = false) ∧ closC m ns s = true then some s else nx m ns set s
def nextO (m : Nat) (ns : List Nat) (set : Nat) : Option Nat := nx m ns set (2 ^ m)
/-! The reference. -/
def rb (l : List (Nat × Nat)) (set : Nat) : Nat → Option Nat
  | 0 => none
  | i + 1 => if lec set (l.getD i (0, 0)).2 = true ∧ (∀ y, rb l set i = some y → lec (l.getD i (0, 0)).2 y = true) then some (l.getD i (0, 0)).2 else rb l set i
def encO : Option Nat → Int
  | none => -1
  | some x => (x : Int)
def inC (T M : Int) (l : List Int) (set : Int) (b : Bool) : Int := if cchk T M l ≠ 0 then cchk T M l else if 0 ≤ set ∧ set < ((2 ^ (if b = true then M.toNat else T.toNat) : Nat) : Int) then 0 else 3
end Go.Proofs.Ytdbngpkbamhbeaa
set_option linter.unusedSimpArgs false
set_option linter.unusedVariables false
set_option linter.unusedSectionVars false
set_option maxRecDepth 20000
namespace Go.Proofs.Ytdbngpkbamhbeaa
attribute [local irreducible] QOp aL aC qL
/-- The set of the points below k of which p holds. -/
def bs (p : Nat → Bool) : Nat → Nat
  | 0 => 0
  | k + 1 => if p k = true then bs p k + 2 ^ k else bs p k
/-- The order of n points by what is below what. -/
def ofTo (n : Nat) (p : Nat → Nat → Bool) (k : Nat) : List Nat := (List.range k).map fun b => bs (fun a => p a b) n
def ofn (n : Nat) (p : Nat → Nat → Bool) : List Nat := ofTo n p n
end Go.Proofs.Ytdbngpkbamhbeaa
