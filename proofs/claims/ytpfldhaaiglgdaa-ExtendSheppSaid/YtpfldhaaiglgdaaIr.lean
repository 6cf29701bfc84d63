import Derived.Test.YtpfldhaaiglgdaaIq
set_option linter.unusedSimpArgs false
set_option linter.unusedVariables false
set_option linter.unusedSectionVars false
set_option maxRecDepth 20000
namespace Go.Proofs.Ytpfldhaaiglgdaa
attribute [local irreducible] QOp aL aC qL
section
variable {P : Program} {st : St} {d : Option Tmp} {ty : TypeId} {pos : String} {af : Array Edge} {g : Option (Nat × Bool)}
def tw (M J : List (List Nat)) (i : Nat) : List (List Nat) := if i = 0 then M else J
end
def twl (n : Nat) (M J : List (List Nat)) (i : Nat) : Prop := LawT n (ta (tw M J i)) (ta (tw M J (1 - i)))
end Go.Proofs.Ytpfldhaaiglgdaa
