import Derived.Test.YtbgecpjlopdkfaaDoorEngZzy
set_option linter.unusedSimpArgs false
set_option linter.unusedVariables false
set_option linter.unusedSectionVars false
namespace Go.Proofs.YtbgecpjlopdkfaaDoor
open Go.RowKit
variable {P : Program} {st : St} {ty : TypeId} {pos : String} {af : Array Edge} {d : Option Tmp} {g : Option (Nat × Bool)} {T T' : TypeId} {x y : Operand}
theorem P_quoN {m n : Nat} (hx : st.ev x = .val (.int .i64 (m : Int))) (hy : st.ev y = .val (.int .i64 (n : Int))) (h : m ≤ 9223372036854775807) (hn : 0 < n) : POp P ⟨d, .binOp .quo T x y T', ty, pos, af, g⟩ st (.val (.int .i64 ((m / n : Nat) : Int))) := fun _ ρ w a hr => ⟨_, .val _, fun w1 => by
  have e : (binOp .quo T (.int .i64 (m : Int)) (.int .i64 (n : Int))).run P w1 = .ok (.int .i64 ((m / n : Nat) : Int)) w1 := by
    have h0 : ¬ n = 0 := by omega
    have h1 : IntKind.i64.wrap ((m : Int) / (n : Int)) = (m : Int) / (n : Int) := by
      rw [← Int.natCast_ediv]
      have := Nat.div_le_self m n
      have key : ∀ q : Nat, q ≤ m → IntKind.i64.wrap (q : Int) = (q : Int) := fun q hq => IntWalk.i64_in _ ⟨by omega, by omega⟩
      exact key _ this
    rw [Int.natCast_ediv]
    simp [binOp, Op.intDiv, h0, h1]
  simp only [execOp, hr.evv hx, hr.evv hy, Sem.run_bind, run_eqGuard_int, Result.andThen_ok, e, Sem.run_pure]⟩
theorem P_remN {m n : Nat} (hx : st.ev x = .val (.int .i64 (m : Int))) (hy : st.ev y = .val (.int .i64 (n : Int))) (hn : 0 < n) : POp P ⟨d, .binOp .rem T x y T', ty, pos, af, g⟩ st (.val (.int .i64 ((m % n : Nat) : Int))) := fun _ ρ w a hr => ⟨_, .val _, fun w1 => by
  have e : (binOp .rem T (.int .i64 (m : Int)) (.int .i64 (n : Int))).run P w1 = .ok (.int .i64 ((m % n : Nat) : Int)) w1 := by
    have h0 : ¬ n = 0 := by omega
    have h1 := Int.tmod_eq_emod_of_nonneg (show (0 : Int) ≤ (m : Int) by omega) (b := (n : Int))
    rw [Int.natCast_emod]
    simp [binOp, Op.intDiv, h0, h1]
  simp only [execOp, hr.evv hx, hr.evv hy, Sem.run_bind, run_eqGuard_int, Result.andThen_ok, e, Sem.run_pure]⟩
end Go.Proofs.YtbgecpjlopdkfaaDoor
