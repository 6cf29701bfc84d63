import Derived.Test.YtpfldhaaiglgdaaDoorEngZzh
import Derived.Test.YtpfldhaaiglgdaaDoorEngZzi
import Derived.Test.YtpfldhaaiglgdaaDoorEngA
import Derived.Test.YtpfldhaaiglgdaaDoorEngZp
import Derived.Test.YtpfldhaaiglgdaaDoorEngT
import Derived.Laws.Strings3
import Derived.Laws.Slices
import Derived.Lib.AppendStr
import Derived.Lib.UnsafeStr
import Derived.StringKeys
import Derived.Laws.IdiomStrings
import Derived.WideKeyArr
import Derived.Laws.LoneSync
import Derived.Laws.Tables
set_option linter.unusedSimpArgs false
set_option linter.unusedVariables false
set_option linter.unusedSectionVars false
namespace Go.Proofs.YtpfldhaaiglgdaaDoor
open Go.RowKit
theorem a_holdRN [Zs] {P : Program} {k : Nat} {cx : Cx k} {st : St} {id : Nat} {l : List Oper} {n : Nat} {Q : Exit → St → Prop} (hm : P.follows .mixedOrders = true) (hn : l.length = n) (h : rL P cx l.toArray (fun st => Q .normal st) n (List.replicate n false) st) : aC P cx (.region id l.toArray true) Q st :=
  a_mono (a_holdR (Q := Q) hm hn h) fun e st h => by cases e <;> exact h
end Go.Proofs.YtpfldhaaiglgdaaDoor
set_option linter.unusedSimpArgs false
set_option linter.unusedVariables false
set_option linter.unusedSectionVars false
namespace Go.Proofs.YtpfldhaaiglgdaaDoor
open Go.RowKit
/-- A function without a text, which the model stands in for. -/
structure ExtF (P : Program) (f : FuncId) (fn : Func) : Prop where
  hf : P.funcs[f]? = some fn
  nm : (fn.name == "runtime.NumGoroutine") = false
  bd : fn.body.isNone = true
  nx : Extern.findNext fn = none
end Go.Proofs.YtpfldhaaiglgdaaDoor
set_option linter.unusedSimpArgs false
set_option linter.unusedVariables false
set_option linter.unusedSectionVars false
namespace Go.Proofs.YtpfldhaaiglgdaaDoor
open Go.RowKit Go.MapKept Go.WideMaps
section
variable {κ : Type} [DecidableEq κ]
def gget : List (κ × Int) → κ → Option Int
  | [], _ => none
  | p :: r, k => if p.1 = k then some p.2 else gget r k
def gput : List (κ × Int) → κ → Int → List (κ × Int)
  | [], k, v => [(k, v)]
  | p :: r, k, v => if p.1 = k then (k, v) :: r else p :: gput r k v
/-- The entries, as the machine holds them. -/
def gmi (ke : κ → Value) (l : List (κ × Int)) : List (Value × Value) := l.map fun p => (ke p.1, .int .i64 p.2)
/-- A type of maps from such keys to numbers. -/
structure KeyE (P : Program) (t : TypeId) (ke : κ → Value) (ok : κ → Prop) : Prop where
  ex : ∃ kt et, P.underlying t = some (.map kt et) ∧ MkT P et (.int .i64 0) 1 8 ∧ KeyLaw P kt ∧ (∀ k, ok k → ∃ l, keyOf P kt (ke k) = some l) ∧ (∀ a b, ok a → ok b → ke a = ke b → a = b)
variable {P : Program} {ke : κ → Value} {ok : κ → Prop}
end
section
variable {κ : Type} [DecidableEq κ] {ke : κ → Value} {ok : κ → Prop} {P : Program} {st : St} {d : Option Tmp} {ty : TypeId} {pos : String} {af : Array Edge} {g : Option (Nat × Bool)}
/-- Values that an operand stands for, told as cells. -/
def valA (l : List Value) : AV := .agg (l.map .val)
end
/-- Keys that are arrays of whole numbers. -/
def arrK (l : List Nat) : Value := .agg (l.map fun (v : Nat) => Value.int .i64 v).toArray
structure ArrK (P : Program) (t : TypeId) (n : Nat) : Prop where
  ex : ∃ kt et e, P.underlying t = some (.map kt et) ∧ MkT P et (.int .i64 0) 1 8 ∧ ArrKey P kt e n ∧ P.underlying e = some (.int .i64)
  sz : ∃ m, P.types.size = m + 1
end Go.Proofs.YtpfldhaaiglgdaaDoor
set_option linter.unusedSimpArgs false
set_option linter.unusedVariables false
set_option linter.unusedSectionVars false
namespace Go.Proofs.YtpfldhaaiglgdaaDoor
open Go.RowKit
def bytc (l : List Nat) : List Dat := l.map fun (b : Nat) => .val (.int .u8 (b : Int))
/-- A string of bytes. -/
def strK (l : List Nat) : Value := .string ⟨(l.map UInt8.ofNat).toArray⟩
section
variable {P : Program} {st : St} {d : Option Tmp} {ty : TypeId} {pos : String} {af : Array Edge} {g : Option (Nat × Bool)}
/-! An own row of rows. -/
end
end Go.Proofs.YtpfldhaaiglgdaaDoor
set_option linter.unusedSimpArgs false
set_option linter.unusedVariables false
set_option linter.unusedSectionVars false
namespace Go.Proofs.YtpfldhaaiglgdaaDoor
open Go.RowKit
section
variable {P : Program} {st : St} {d : Option Tmp} {ty : TypeId} {pos : String} {af : Array Edge} {g : Option (Nat × Bool)} {x y : Operand} {T T' : TypeId} {s t : ByteArray}
theorem run_eqGuard_str (op : BinOp) (T : TypeId) (x y : Operand) (u v : ByteArray) (w : World) : (eqGuard op T x y (.string u) (.string v)).run P w = .ok () w := by
  cases op <;> rfl
/-- s + t. -/
theorem Q_sadd (hx : st.ev x = .val (.string s)) (hy : st.ev y = .val (.string t)) (h : s.size + t.size ≤ 1000000) : QOp P ⟨d, .binOp .add T x y T', ty, pos, af, g⟩ st (.val (.string (s ++ t))) :=
  .run fun _ _ a hr => ⟨_, .val _, fun w1 _ => by
    have h : (binOp .add T (.string s) (.string t)).run P w1 = .ok (.string (s ++ t)) w1 := by
      rw [binOp_string_add]
      unfold Op.stringOp
      have hm : IntKind.i64.max = 9223372036854775807 := rfl
      have hn : ¬ ((s.size + t.size : Nat) : Int) > IntKind.i64.max := by rw [hm]; omega
      simp only [hn, if_false, Sem.run_pure]
    simp only [execOp, hr.evv hx, hr.evv hy, Sem.run_bind, run_eqGuard_str, Result.andThen_ok, h, Sem.run_pure]⟩
theorem str_beq (s t : ByteArray) : (s.toList == t.toList) = decide (s = t) := by
  have e : s.toList = t.toList ↔ s = t := by
    rw [ByteArray.toList_eq, ByteArray.toList_eq]
    constructor
    · intro h
      apply ByteArray.ext
      exact Array.toList_inj.1 h
    · rintro rfl; rfl
  by_cases h : s = t
  · subst h; simp
  · rw [decide_eq_false h]
    exact beq_eq_false_iff_ne.2 fun h2 => h (e.1 h2)
theorem Q_seql (hx : st.ev x = .val (.string s)) (hy : st.ev y = .val (.string t)) : QOp P ⟨d, .binOp .eql T x y T', ty, pos, af, g⟩ st (.val (.bool (decide (s = t)))) :=
  .run fun _ _ a hr => ⟨_, .val _, fun w1 _ => by
    have h : (binOp .eql T (.string s) (.string t)).run P w1 = .ok (.bool (decide (s = t))) w1 := by
      rw [binOp_string_eql, str_beq]; rfl
    simp only [execOp, hr.evv hx, hr.evv hy, Sem.run_bind, run_eqGuard_str, Result.andThen_ok, h, Sem.run_pure]⟩
/-- len(s). -/
theorem Q_slen (hx : st.ev x = .val (.string s)) (ht : P.underlying T = some .string) : QOp P ⟨d, .call ⟨.builtin .len, #[x], #[T]⟩, ty, pos, af, g⟩ st (.val (.int .i64 (s.size : Int))) :=
  .run fun _ _ a hr => ⟨_, .val _, fun w1 _ => by
    simp [execOp, resolve, invoke, builtin, hr.evv hx, run_len_string (P := P) w1 T ty s ht, goInt]⟩
/-- s[i:j]. -/
theorem Q_sslice {i j : Operand} {m n : Nat} {u v : Int} (hx : st.ev x = .val (.string s)) (hi : st.ev i = .val (.int .i64 u)) (hj : st.ev j = .val (.int .i64 v)) (hu : u = (m : Int)) (hv : v = (n : Int)) (ht : P.underlying T = some .string) (h : m ≤ n ∧ n ≤ s.size) :
    QOp P ⟨d, .slice T x (some i) (some j) none, ty, pos, af, g⟩ st (.val (.string (s.extract m n))) :=
  .run fun _ _ a hr => ⟨_, .val _, fun w1 _ => by
    subst hu hv
    have := run_slice_string (P := P) w1 T s .i64 .i64 (m : Int) (n : Int) ht (by omega) (by omega) (by omega)
    simp only [Int.toNat_natCast] at this
    simp [execOp, hr.evv hx, hr.evv hi, hr.evv hj, run_sliceAt_string w1 T _ _ _ _ ht, this]⟩
end
end Go.Proofs.YtpfldhaaiglgdaaDoor
