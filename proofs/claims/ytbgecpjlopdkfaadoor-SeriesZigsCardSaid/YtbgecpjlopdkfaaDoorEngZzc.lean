import Derived.Test.YtbgecpjlopdkfaaDoorEngZi
import Derived.Test.YtbgecpjlopdkfaaDoorEngZd
import Derived.Test.YtbgecpjlopdkfaaDoorEngZm
set_option linter.unusedSimpArgs false
set_option linter.unusedVariables false
set_option linter.unusedSectionVars false
namespace Go.Proofs.YtbgecpjlopdkfaaDoor
open Go.RowKit
section
variable {P : Program} {k : Nat} {cx : Cx k} {ops : Array Oper} {st : St} {K : St → Prop} {S : World → Prop}
theorem a_holdN [Zs] {id : Nat} {l : List Oper} {n : Nat} {Q : Exit → St → Prop} (hm : P.follows .mixedOrders = true) (hn : l.length = n) (h : xH P cx l.toArray (fun st => Q .normal st) (fun _ => True) n (List.replicate n false) st) : aC P cx (.region id l.toArray true) Q st :=
  a_mono (a_holdX (Q := Q) hm hn h) fun e st h => by cases e <;> exact h
end
theorem w_boxfnL [Zs] {P : Program} {k : Nat} {cx : Cx k} {ops : Array Oper} {Q : Exit → St → Prop} {rest : List Oper} {n : Nat} {vars : List (Nat × AV)} {objs objs' : List AO} (id o : Nat) {cells : List AV} {cl : AV} (ho : objs[id]? = some (.box cells)) (hc : cells[o]? = some cl) (hro : roA cl = true) (h1 : cl.one = true) (hob : objs.set id (.box (cells.set o (.ro (.fn (fnd cl))))) = objs')
    (hk : aL P cx ops Q rest ⟨n, vars, objs'⟩) : aL P cx ops Q rest ⟨n, vars, objs⟩ := by
  subst hob
  exact fun a w hr => hk a w (rel_boxfn (st := ⟨n, vars, objs⟩) id o ho hc hro h1 hr)
end Go.Proofs.YtbgecpjlopdkfaaDoor
