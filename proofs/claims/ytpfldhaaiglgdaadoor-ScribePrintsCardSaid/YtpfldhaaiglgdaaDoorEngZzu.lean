import Derived.Test.YtpfldhaaiglgdaaDoorEngZzt
import Derived.Test.YtpfldhaaiglgdaaDoorEngZzk
import Derived.Laws.Strings3
import Derived.Laws.Slices
import Derived.Lib.AppendStr
import Derived.Lib.UnsafeStr
set_option linter.unusedSimpArgs false
set_option linter.unusedVariables false
set_option linter.unusedSectionVars false
namespace Go.Proofs.YtpfldhaaiglgdaaDoor
open Go.RowKit
section
variable {P : Program} {st : St} {d : Option Tmp} {ty : TypeId} {pos : String} {af : Array Edge} {g : Option (Nat × Bool)} {x y : Operand} {T T' : TypeId} {s t : ByteArray}
theorem run_eqGuard_str (op : BinOp) (T : TypeId) (x y : Operand) (u v : ByteArray) (w : World) : (eqGuard op T x y (.string u) (.string v)).run P w = .ok () w := by
  cases op <;> rfl
/-- s + t. -/
theorem Q_sadd (hx : st.ev x = .val (.string s)) (hy : st.ev y = .val (.string t)) (h : s.size + t.size ≤ 1000000) : QOp P ⟨d, .binOp .add T x y T', ty, pos, af, g⟩ st (.val (.string (s ++ t))) :=
  .run fun _ _ a hr => ⟨_, .val _, fun w1 _ => by
    have h : (binOp .add T (.string s) (.string t)).run P w1 = .ok (.string (s ++ t)) w1 := by
      rw [binOp_string_add]
      unfold Op.stringOp
      have hm : IntKind.i64.max = 9223372036854775807 := rfl
      have hn : ¬ ((s.size + t.size : Nat) : Int) > IntKind.i64.max := by rw [hm]; omega
      simp only [hn, if_false, Sem.run_pure]
    simp only [execOp, hr.evv hx, hr.evv hy, Sem.run_bind, run_eqGuard_str, Result.andThen_ok, h, Sem.run_pure]⟩
theorem str_beq (s t : ByteArray) : (s.toList == t.toList) = decide (s = t) := by
  have e : s.toList = t.toList ↔ s = t := by
    rw [ByteArray.toList_eq, ByteArray.toList_eq]
    constructor
    · intro h
      apply ByteArray.ext
      exact Array.toList_inj.1 h
    · rintro rfl; rfl
  by_cases h : s = t
  · subst h; simp
  · rw [decide_eq_false h]
    exact beq_eq_false_iff_ne.2 fun h2 => h (e.1 h2)
theorem Q_seql (hx : st.ev x = .val (.string s)) (hy : st.ev y = .val (.string t)) : QOp P ⟨d, .binOp .eql T x y T', ty, pos, af, g⟩ st (.val (.bool (decide (s = t)))) :=
  .run fun _ _ a hr => ⟨_, .val _, fun w1 _ => by
    have h : (binOp .eql T (.string s) (.string t)).run P w1 = .ok (.bool (decide (s = t))) w1 := by
      rw [binOp_string_eql, str_beq]; rfl
    simp only [execOp, hr.evv hx, hr.evv hy, Sem.run_bind, run_eqGuard_str, Result.andThen_ok, h, Sem.run_pure]⟩
/-- s[i:j]. -/
theorem Q_sslice {i j : Operand} {m n : Nat} {u v : Int} (hx : st.ev x = .val (.string s)) (hi : st.ev i = .val (.int .i64 u)) (hj : st.ev j = .val (.int .i64 v)) (hu : u = (m : Int)) (hv : v = (n : Int)) (ht : P.underlying T = some .string) (h : m ≤ n ∧ n ≤ s.size) :
    QOp P ⟨d, .slice T x (some i) (some j) none, ty, pos, af, g⟩ st (.val (.string (s.extract m n))) :=
  .run fun _ _ a hr => ⟨_, .val _, fun w1 _ => by
    subst hu hv
    have := run_slice_string (P := P) w1 T s .i64 .i64 (m : Int) (n : Int) ht (by omega) (by omega) (by omega)
    simp only [Int.toNat_natCast] at this
    simp [execOp, hr.evv hx, hr.evv hi, hr.evv hj, run_sliceAt_string w1 T _ _ _ _ ht, this]⟩
end
section
variable {P : Program} {k : Nat} {cx : Cx k} {ops : Array Oper} {Q : Exit → St → Prop} {rest : List Oper} {ty : TypeId} {pos : String} {af : Array Edge} {n : Nat} {vars : List (Nat × AV)} {objs objs' : List AO} {d m : Nat}
/-- []byte{v}. -/
theorem w_lit_byte [Zs] {T e : TypeId} {x : Operand} {v : Nat} {i : Int} (hx : (⟨n, vars, objs⟩ : St).ev x = .val (.int .u8 i)) (hi : i = (v : Int)) (ht : SlT P T e 1) (hmk : MkT P e (.int .u8 0) 1 1)
    (ho : objs ++ [.row e 1 (bytc [v])] = objs') (hm : objs.length = m) (hd : Nat.blt d n = true) (hk : aL P cx ops Q rest ⟨n, (d, .own m) :: vars, objs'⟩) :
    aL P cx ops Q (⟨some d, .buildSlice T 1 #[(0, x)], ty, pos, af, none⟩ :: rest) ⟨n, vars, objs⟩ := by
  subst hi; subst ho; subst hm
  exact l_lit (xs := [x]) (cs := bytc [v]) rfl rfl ht hmk (by decide) (by decide) ⟨[.val (.int .u8 (v : Int))], [], by rw [hx]; rfl, rfl, rfl, rfl, rfl⟩ hd hk
end
end Go.Proofs.YtpfldhaaiglgdaaDoor
