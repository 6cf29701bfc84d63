/- A slice held against nil; literals among operations that draw their order; a literal of nothing; what is read, put behind what is one's own. -/
import Derived.Test.YtajpfjmmhcbjkaaDoorEngZd
set_option linter.unusedSimpArgs false
set_option linter.unusedVariables false
set_option linter.unusedSectionVars false
namespace Go.Proofs.YtajpfjmmhcbjkaaDoor
open Go.RowKit
section
variable {P : Program} {k : Nat} {cx : Cx k} {ops : Array Oper} {Q : Exit → St → Prop} {st : St} {rest : List Oper} {ty : TypeId} {pos : String} {af : Array Edge}
end
section
variable {P : Program} {k : Nat} {cx : Cx k} {ops : Array Oper} {Q : Exit → St → Prop} {K : St → Prop} {l2 : List Oper} {rest : List Oper} {ty : TypeId} {pos : String} {af : Array Edge} {d nn m n g f i : Nat} {vars : List (Nat × AV)} {objs objs' : List AO} {listed : List Bool} {r : List Nat}
end
end Go.Proofs.YtajpfjmmhcbjkaaDoor
