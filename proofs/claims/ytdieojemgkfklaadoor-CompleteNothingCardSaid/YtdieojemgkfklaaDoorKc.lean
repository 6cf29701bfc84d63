import Derived.Test.YtdieojemgkfklaaDoorIr
import Derived.Test.YtdieojemgkfklaaDoorIp
import Derived.Test.YtdieojemgkfklaaDoorEngZg
set_option linter.unusedSimpArgs false
set_option linter.unusedVariables false
set_option maxRecDepth 20000
namespace Go.Proofs.YtdieojemgkfklaaDoor
attribute [local irreducible] QOp aL aC qL
/-- The first of the first k of which f tells something. -/
def fstK {α : Type} (f : Nat → Option α) : Nat → Option α
  | 0 => none
  | k + 1 => match fstK f k with
    | some a => some a
    | none => f k
def tri3 (h : Nat → Nat → Nat → Bool) (x y z : Nat) : Option (List Nat) := if h x y z = true then some [x, y, z] else none
def tri2 (n : Nat) (h : Nat → Nat → Nat → Bool) (x y : Nat) : Option (List Nat) := fstK (tri3 h x y) n
def tri1 (n : Nat) (h : Nat → Nat → Nat → Bool) (x : Nat) : Option (List Nat) := fstK (tri2 n h x) n
def triF (n : Nat) (h : Nat → Nat → Nat → Bool) : Option (List Nat) := fstK (tri1 n h) n
def triL (n : Nat) (h : Nat → Nat → Nat → Bool) : List Nat := (triF n h).getD []
def triB (n : Nat) (h : Nat → Nat → Nat → Bool) : Bool := (triF n h).isSome
end Go.Proofs.YtdieojemgkfklaaDoor
