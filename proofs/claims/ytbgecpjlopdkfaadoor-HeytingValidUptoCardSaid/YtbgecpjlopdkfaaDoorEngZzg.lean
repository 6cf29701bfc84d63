import Derived.Test.YtbgecpjlopdkfaaDoorEngZp
import Derived.WideKeyArr
import Derived.StringKeys
set_option linter.unusedSimpArgs false
set_option linter.unusedVariables false
set_option linter.unusedSectionVars false
namespace Go.Proofs.YtbgecpjlopdkfaaDoor
open Go.RowKit Go.MapKept Go.WideMaps
section
variable {κ : Type} [DecidableEq κ]
def gget : List (κ × Int) → κ → Option Int
  | [], _ => none
  | p :: r, k => if p.1 = k then some p.2 else gget r k
def gput : List (κ × Int) → κ → Int → List (κ × Int)
  | [], k, v => [(k, v)]
  | p :: r, k, v => if p.1 = k then (k, v) :: r else p :: gput r k v
/-- The entries, as the machine holds them. -/
def gmi (ke : κ → Value) (l : List (κ × Int)) : List (Value × Value) := l.map fun p => (ke p.1, .int .i64 p.2)
/-- A type of maps from such keys to numbers. -/
structure KeyE (P : Program) (t : TypeId) (ke : κ → Value) (ok : κ → Prop) : Prop where
  ex : ∃ kt et, P.underlying t = some (.map kt et) ∧ MkT P et (.int .i64 0) 1 8 ∧ KeyLaw P kt ∧ (∀ k, ok k → ∃ l, keyOf P kt (ke k) = some l) ∧ (∀ a b, ok a → ok b → ke a = ke b → a = b)
variable {P : Program} {ke : κ → Value} {ok : κ → Prop}
end
section
variable {κ : Type} [DecidableEq κ] {ke : κ → Value} {ok : κ → Prop} {P : Program} {st : St} {d : Option Tmp} {ty : TypeId} {pos : String} {af : Array Edge} {g : Option (Nat × Bool)}
/-- Values that an operand stands for, told as cells. -/
def valA (l : List Value) : AV := .agg (l.map .val)
end
/-- Keys that are arrays of whole numbers. -/
def arrK (l : List Nat) : Value := .agg (l.map fun (v : Nat) => Value.int .i64 v).toArray
structure ArrK (P : Program) (t : TypeId) (n : Nat) : Prop where
  ex : ∃ kt et e, P.underlying t = some (.map kt et) ∧ MkT P et (.int .i64 0) 1 8 ∧ ArrKey P kt e n ∧ P.underlying e = some (.int .i64)
  sz : ∃ m, P.types.size = m + 1
end Go.Proofs.YtbgecpjlopdkfaaDoor
