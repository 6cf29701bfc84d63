import Derived.Test.YtbgecpjlopdkfaaDoorEngZi
import Derived.Test.YtbgecpjlopdkfaaDoorEngZd
import Derived.Test.YtbgecpjlopdkfaaDoorEngZm
set_option linter.unusedSimpArgs false
set_option linter.unusedVariables false
set_option linter.unusedSectionVars false
namespace Go.Proofs.YtbgecpjlopdkfaaDoor
open Go.RowKit
section
variable {P : Program} {k : Nat} {cx : Cx k} {ops : Array Oper} {st : St} {K : St → Prop} {S : World → Prop}
theorem a_holdN [Zs] {id : Nat} {l : List Oper} {n : Nat} {Q : Exit → St → Prop} (hm : P.follows .mixedOrders = true) (hn : l.length = n) (h : xH P cx l.toArray (fun st => Q .normal st) (fun _ => True) n (List.replicate n false) st) : aC P cx (.region id l.toArray true) Q st :=
  a_mono (a_holdX (Q := Q) hm hn h) fun e st h => by cases e <;> exact h
end
end Go.Proofs.YtbgecpjlopdkfaaDoor
