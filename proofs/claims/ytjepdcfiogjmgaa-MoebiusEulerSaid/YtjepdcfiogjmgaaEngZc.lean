/- Operations on unsigned numbers of 64 bits. -/
import Derived.Test.YtjepdcfiogjmgaaEngT
set_option linter.unusedSimpArgs false
set_option linter.unusedVariables false
namespace Go.Proofs.Ytjepdcfiogjmgaa
section
variable {P : Program} {st : St} {d : Option Tmp} {ty : TypeId} {pos : String} {af : Array Edge} {g : Option (Nat × Bool)} {T T' : TypeId} {x y : Operand} {m : Nat} {n : Int}
end
end Go.Proofs.Ytjepdcfiogjmgaa
