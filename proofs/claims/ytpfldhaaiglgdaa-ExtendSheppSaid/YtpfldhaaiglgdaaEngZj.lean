import Derived.Test.YtpfldhaaiglgdaaEngT
import Derived.Laws.Slices
import Derived.Lib.AppendZeros
set_option linter.unusedSimpArgs false
set_option linter.unusedVariables false
set_option linter.unusedSectionVars false
namespace Go.Proofs.Ytpfldhaaiglgdaa
open Go.RowKit


section
variable {P : Program} {st : St} {d : Option Tmp} {ty : TypeId} {pos : String} {af : Array Edge} {g : Option (Nat × Bool)}
/-! Slices of tables. -/
def tabc (l : List (List (List Int))) : List Dat := l.map fun t => .sl 1 (rowc t)
def tabs (l : List (List (List Int))) : AV := .ro (.sl 1 (tabc l))
/-! Lattices one behind the other. -/
def latc : List (Int × List (List Int) × List (List Int)) → List Dat
  | [] => []
  | p :: r => .val (.int .i64 p.1) :: .sl 1 (rowc p.2.1) :: .sl 1 (rowc p.2.2) :: latc r
def lats (l : List (Int × List (List Int) × List (List Int))) : AV := .ro (.sl 3 (latc l))
abbrev latA (N : Int) (m j : List (List Int)) : AV := .agg [.val (.int .i64 N), rows m, rows j]
end

end Go.Proofs.Ytpfldhaaiglgdaa
