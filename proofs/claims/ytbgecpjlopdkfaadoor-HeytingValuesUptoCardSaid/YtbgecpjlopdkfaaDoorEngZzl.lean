import Derived.Test.YtbgecpjlopdkfaaDoorEngZzg
import Derived.Test.YtbgecpjlopdkfaaDoorEngT
import Derived.Test.YtbgecpjlopdkfaaDoorEngZzh
import Derived.Test.YtbgecpjlopdkfaaDoorEngZzi
import Derived.StringKeys
import Derived.Laws.IdiomStrings
set_option linter.unusedSimpArgs false
set_option linter.unusedVariables false
set_option linter.unusedSectionVars false
namespace Go.Proofs.YtbgecpjlopdkfaaDoor
open Go.RowKit
def bytc (l : List Nat) : List Dat := l.map fun (b : Nat) => .val (.int .u8 (b : Int))
/-- A string of bytes. -/
def strK (l : List Nat) : Value := .string ⟨(l.map UInt8.ofNat).toArray⟩
section
variable {P : Program} {st : St} {d : Option Tmp} {ty : TypeId} {pos : String} {af : Array Edge} {g : Option (Nat × Bool)}
/-! An own row of rows. -/
theorem Q_ix_ownR {x ix : Operand} {T e e' : TypeId} {l : List (List Int)} {id : Nat} {i : Int} {o : Nat} (hx : st.ev x = .own id) (hob : st.objs[id]? = some (.row e' 1 (rowc l))) (hi : st.ev ix = .val (.int .i64 i)) (ho : i = (o : Int)) (ht : SlT P T e 1) (h : o < l.length) :
    QOp P ⟨d, .indexAddr T x ix, ty, pos, af, g⟩ st (.ept id o) := by
  have := Q_index_own (P := P) (d := d) (ty := ty) (pos := pos) (af := af) (g := g) (x := x) (ix := ix) hx hob hi ht (rowc_len l) (by decide) ⟨by omega, by omega⟩
  rw [show i.toNat * 1 = o by omega] at this
  exact this
theorem Q_ld_ownR {x : Operand} {T e : TypeId} {l : List (List Int)} {id o : Nat} (hx : st.ev x = .ept id o) (hob : st.objs[id]? = some (.row e 1 (rowc l))) (h : o < l.length) (ht : ScT P T) :
    QOp P ⟨d, .load T x, ty, pos, af, g⟩ st (ints (l.getD o [])) :=
  Q_load_ept (P := P) (d := d) (ty := ty) (pos := pos) (af := af) (g := g) (dt := .sl 1 (intc (l.getD o []))) hx hob (by
    unfold rowc
    rw [List.getElem?_map, List.getElem?_eq_getElem h, List.getD_eq_getElem?_getD, List.getElem?_eq_getElem h]; rfl) ht
end
end Go.Proofs.YtbgecpjlopdkfaaDoor
set_option linter.unusedSimpArgs false
set_option linter.unusedVariables false
set_option linter.unusedSectionVars false
namespace Go.Proofs.YtbgecpjlopdkfaaDoor
open Go.RowKit
theorem a_holdRN [Zs] {P : Program} {k : Nat} {cx : Cx k} {st : St} {id : Nat} {l : List Oper} {n : Nat} {Q : Exit → St → Prop} (hm : P.follows .mixedOrders = true) (hn : l.length = n) (h : rL P cx l.toArray (fun st => Q .normal st) n (List.replicate n false) st) : aC P cx (.region id l.toArray true) Q st :=
  a_mono (a_holdR (Q := Q) hm hn h) fun e st h => by cases e <;> exact h
end Go.Proofs.YtbgecpjlopdkfaaDoor
