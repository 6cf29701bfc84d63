import Derived.Test.YtdieojemgkfklaaDoorEngZd
set_option linter.unusedSimpArgs false
set_option linter.unusedVariables false
namespace Go.Proofs.YtdieojemgkfklaaDoor
open Go.RowKit
section
variable {P : Program} {k : Nat} {cx : Cx k} {ops : Array Oper} {Q : Exit → St → Prop} {st : St} {rest : List Oper} {ty : TypeId} {pos : String} {af : Array Edge}
end
section
variable {P : Program} {k : Nat} {cx : Cx k} {ops : Array Oper} {Q : Exit → St → Prop} {K : St → Prop} {l2 : List Oper} {rest : List Oper} {ty : TypeId} {pos : String} {af : Array Edge} {d nn m n g f i : Nat} {vars : List (Nat × AV)} {objs objs' : List AO} {listed : List Bool} {r : List Nat}
theorem a_growQ [Zs] {id : Nat} {l : List Oper} {st : St} (m : Nat) (hm : P.follows .mixedOrders = true) (hB : (Nat.blt m l.length && decide (l.length = m + g)) = true)
    (h : zL P cx l.toArray (fun st => Q .normal st) (l.drop m) m g m (List.replicate l.length false) st) : aC P cx (.region id l.toArray true) Q st :=
  a_mono (a_grow (Q := Q) m hm hB h) fun e st h => by cases e <;> exact h
end
end Go.Proofs.YtdieojemgkfklaaDoor
