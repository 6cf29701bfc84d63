/- Functions that are handed over; what they have captured; cells that are only read. -/
import Derived.Test.YthchhaaplimafaaEngP
import Derived.Laws.Small
set_option linter.unusedSimpArgs false
set_option linter.unusedVariables false
namespace Go.Proofs.Ythchhaaplimafaa
open Go.RowKit

class KBo (P : Program) (T : TypeId) : Prop where h : P.underlying T = some .bool
/-- A value that stays what it is, whatever objects come and go. -/
class VwR (av : AV) : Prop where h : ∀ objs σ, Vw objs σ av av
class VwRL (l : List AV) : Prop where h : ∀ objs σ, VwL objs σ l l
theorem vwRL {l l' : List AV} [VwRL l'] {objs : List AO} {σ : List Nat} (h : l = l') : VwL objs σ l l' := by rw [h]; exact VwRL.h objs σ
theorem vwR {a b : AV} [VwR b] {objs : List AO} {σ : List Nat} (h : a = b) : Vw objs σ a b := by rw [h]; exact VwR.h objs σ
instance (v : Value) : VwR (.val v) := ⟨fun _ _ => .val v⟩
instance (d : Dat) : VwR (.ro d) := ⟨fun _ _ => .ro d⟩
instance (cs : List Dat) (o : Nat) : VwR (.rpt cs o) := ⟨fun _ _ => .rpt cs o⟩
instance : VwRL [] := ⟨fun _ _ => trivial⟩
instance (a : AV) (l : List AV) [VwR a] [VwRL l] : VwRL (a :: l) := ⟨fun objs σ => ⟨VwR.h objs σ, VwRL.h objs σ⟩⟩
instance (f : FuncId) (l : List AV) [VwRL l] : VwR (.clo f l) := ⟨fun objs σ => .clo' (VwRL.h objs σ)⟩

/-- The function g, with what it has captured. -/
def IsFn (cl : AV) (g : FuncId) (caps : List AV) : Prop := (cl = .val (.func (.func g) #[] #[]) ∧ caps = []) ∨ cl = .clo g caps
theorem callee_of {st : St} {x : Operand} {cl : AV} {g : FuncId} {caps : List AV} (hf : IsFn cl g caps) (h : st.ev x = cl) : Callee' st x g caps := by subst h; exact hf
theorem isFn_fun (g : FuncId) : IsFn (.val (.func (.func g) #[] #[])) g [] := .inl ⟨rfl, rfl⟩
theorem isFn_clo (g : FuncId) (caps : List AV) : IsFn (.clo g caps) g caps := .inr rfl

section
variable {P : Program} {st : St} {d : Option Tmp} {T : TypeId} {x y : Operand} {ty : TypeId} {pos : String} {af : Array Edge} {g : Option (Nat × Bool)}
theorem run_eqGuard_bool (op : BinOp) (T : TypeId) (x y : Operand) (u v : Bool) (w : World) : (eqGuard op T x y (.bool u) (.bool v)).run P w = .ok () w := by
  cases op <;> rfl
theorem Q_eqlB {u v : Bool} {T' : TypeId} (hx : st.ev x = .val (.bool u)) (hy : st.ev y = .val (.bool v)) (ht : P.underlying T = some .bool) : QOp P ⟨d, .binOp .eql T x y T', ty, pos, af, g⟩ st (.val (.bool (u == v))) :=
  .run fun _ _ a hr => ⟨_, .val _, fun w1 _ => by
    have h : (binOp .eql T (.bool u) (.bool v)).run P w1 = .ok (.bool (u == v)) w1 := by
      show (do pure (Value.bool (← Op.equal T (.bool u) (.bool v)))).run P w1 = _
      rw [Sem.run_bind, run_equal_bool _ _ _ _ ht]
      rfl
    simp only [execOp, hr.evv hx, hr.evv hy, Sem.run_bind, run_eqGuard_bool, Result.andThen_ok, h, Sem.run_pure]⟩
theorem Q_neqB {u v : Bool} {T' : TypeId} (hx : st.ev x = .val (.bool u)) (hy : st.ev y = .val (.bool v)) (ht : P.underlying T = some .bool) : QOp P ⟨d, .binOp .neq T x y T', ty, pos, af, g⟩ st (.val (.bool (!(u == v)))) :=
  .run fun _ _ a hr => ⟨_, .val _, fun w1 _ => by
    have h : (binOp .neq T (.bool u) (.bool v)).run P w1 = .ok (.bool (!(u == v))) w1 := by
      show (do pure (Value.bool (!(← Op.equal T (.bool u) (.bool v))))).run P w1 = _
      rw [Sem.run_bind, run_equal_bool _ _ _ _ ht]
      rfl
    simp only [execOp, hr.evv hx, hr.evv hy, Sem.run_bind, run_eqGuard_bool, Result.andThen_ok, h, Sem.run_pure]⟩
theorem Q_ld_rv {cs : List Dat} {o : Nat} {v : Value} (hx : st.ev x = .rpt cs o) (hc : cs[o]? = some (.val v)) (ht : ScT P T) : QOp P ⟨d, .load T x, ty, pos, af, g⟩ st (.val v) := Q_load_rpt hx hc ht
theorem Q_ld_rs {cs cs' : List Dat} {o sz : Nat} (hx : st.ev x = .rpt cs o) (hc : cs[o]? = some (.sl sz cs')) (ht : ScT P T) : QOp P ⟨d, .load T x, ty, pos, af, g⟩ st (.ro (.sl sz cs')) := Q_load_rpt hx hc ht
end

section
variable {P : Program} {k : Nat} {cx : Cx k} {ops : Array Oper} {Q : Exit → St → Prop} {rest : List Oper} {ty : TypeId} {pos : String} {af : Array Edge} {n : Nat} {vars : List (Nat × AV)} {objs objs' : List AO} {d m : Nat}
theorem rowc_one' (l : List (List Int)) : ∀ dt ∈ rowc l, dt.one = true := rowc_one l
theorem w_ap_rows [Zs] {T e : TypeId} {x y : Operand} {id : Nat} {l r : List (List Int)} (hx : (⟨n, vars, objs⟩ : St).ev x = .own id) (hob : objs[id]? = some (.row e 1 (rowc l))) (hy : SrcD ⟨n, vars, objs⟩ 1 ((⟨n, vars, objs⟩ : St).ev y) (rowc r))
    (ht : SlT P T e 1) (hmk : MkT P e (.slice none 0 0) 1 24) (hbig : l.length + r.length ≤ 5000000000) (ho : objs.set id .gone ++ [.row e 1 (rowc (l ++ r))] = objs') (hm : objs.length = m) (hd : Nat.blt d n = true)
    (hk : aL P cx ops Q rest ⟨n, (d, .own m) :: vars, objs'⟩) : aL P cx ops Q (⟨some d, .call ⟨.builtin .append, #[x, y], #[T, T]⟩, ty, pos, af, none⟩ :: rest) ⟨n, vars, objs⟩ := by
  subst ho; subst hm
  exact l_append (cs := rowc l) (cs2 := rowc r) rfl rfl hx hob hy ht hmk rfl (rowc_len l) (rowc_len r) (by decide) (rowc_one r) (by decide) (by omega) hd (by rw [rowc_app]; exact hk)
end
end Go.Proofs.Ythchhaaplimafaa
