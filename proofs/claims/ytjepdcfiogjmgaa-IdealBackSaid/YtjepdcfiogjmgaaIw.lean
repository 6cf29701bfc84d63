import Derived.Test.YtjepdcfiogjmgaaIu
import Derived.Test.YtjepdcfiogjmgaaIv
import Derived.Test.YtjepdcfiogjmgaaEngZg
set_option linter.unusedSimpArgs false
set_option linter.unusedVariables false
set_option maxRecDepth 20000
namespace Go.Proofs.Ytjepdcfiogjmgaa
attribute [local irreducible] QOp aL aC qL
/-- The map of a list. -/
abbrev fa (F : List Nat) (x : Nat) : Nat := F.getD x 0
section
variable {P : Program} {st : St} {d : Option Tmp} {ty : TypeId} {pos : String} {af : Array Edge} {g : Option (Nat × Bool)}
structure Mp (n k : Nat) (F : List Nat) : Prop where
  len : F.length = n
  lt : ∀ x, x < n → fa F x < k
end
abbrev keepsB (n : Nat) (M J : List (List Nat)) (k : Nat) (M' J' : List (List Nat)) (F : List Nat) : Bool := decide (KeepsP n (endE (ta M) n) (endE (ta M') k) (ta J) (ta J') (fa F))
end Go.Proofs.Ytjepdcfiogjmgaa
