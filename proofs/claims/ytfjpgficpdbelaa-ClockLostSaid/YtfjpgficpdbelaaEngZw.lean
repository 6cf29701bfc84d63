import Derived.Test.YtfjpgficpdbelaaEngZv
import Derived.Test.YtfjpgficpdbelaaEngZh
import Derived.Test.YtfjpgficpdbelaaEngT
set_option linter.unusedSimpArgs false
set_option linter.unusedVariables false
set_option linter.unusedSectionVars false
namespace Go.Proofs.Ytfjpgficpdbelaa
open Go.RowKit
/-- The table: gB tells where a row lies, cC its room. -/
def mtV (n : Nat) (gB cC : Nat → Nat) (M : Nat → Nat → Bool) : List (Value × List Value) := (List.range n).map fun a => (.slice (some ⟨gB a, 0, none⟩) n (cC a), (List.range n).map fun b => .bool (M a b))
/-- The first i rows of it laid out. -/
def blV (n : Nat) (gB cC : Nat → Nat) (i : Nat) : List (Value × List Value) := (List.range n).map fun a => if a < i then (.slice (some ⟨gB a, 0, none⟩) n (cC a), (List.range n).map fun _ => .bool false) else (.slice none 0 0, [])
def updN (f : Nat → Nat) (i v : Nat) : Nat → Nat := fun x => if x = i then v else f x
def updM (M : Nat → Nat → Bool) (a c : Nat) (v : Bool) : Nat → Nat → Bool := fun x y => if x = a ∧ y = c then v else M x y
section
variable {P : Program} {k : Nat} {cx : Cx k} {ops : Array Oper} {Q : Exit → St → Prop} {rest : List Oper} {ty : TypeId} {pos : String} {af : Array Edge} {n : Nat} {vars : List (Nat × AV)} {objs objs' : List AO} {d m : Nat}
end
section
variable {P : Program} {st : St} {d : Option Tmp} {ty : TypeId} {pos : String} {af : Array Edge} {g : Option (Nat × Bool)}
/-- The table, only read. -/
def mtD (n : Nat) (M : Nat → Nat → Bool) : List Dat := (List.range n).map fun a => .sl 1 ((List.range n).map fun b => .val (.bool (M a b)))
end
section
variable {P : Program} {k : Nat} {cx : Cx k} {ops : Array Oper} {st : St} {K : St → Prop} {l2 : List Oper} {n g : Nat}
variable {ty : TypeId} {pos : String} {af : Array Edge} {d nn m f i : Nat} {vars : List (Nat × AV)} {objs objs' : List AO} {listed : List Bool} {r : List Nat}
end
end Go.Proofs.Ytfjpgficpdbelaa
