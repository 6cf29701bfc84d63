import Derived.Test.YtbgecpjlopdkfaaDoorEngT
set_option linter.unusedSimpArgs false
set_option linter.unusedVariables false
set_option linter.unusedSectionVars false
namespace Go.Proofs.YtbgecpjlopdkfaaDoor
section
variable {P : Program} {st : St} {d : Option Tmp} {ty : TypeId} {pos : String} {af : Array Edge} {g : Option (Nat × Bool)} {T T' : TypeId} {x y : Operand} {m : Nat} {n : Int}
theorem Q_ushrC {k' : IntKind} (hx : st.ev x = .val (.int .u64 (m : Int))) (hy : st.ev y = .val (.int k' n)) (h0 : 0 ≤ n ∧ n < 64) :
    QOp P ⟨d, .binOp .shr T x y T', ty, pos, af, g⟩ st (.val (.int .u64 ((m / 2 ^ n.toNat : Nat) : Int))) := Q_bin hx hy fun w => by
  have h1 : ¬ n < 0 := by omega
  have h2 : min n.toNat IntKind.u64.bits = n.toNat := shl_eq _ (by omega)
  have h3 : (m : Int).fdiv (2 ^ n.toNat) = ((m / 2 ^ n.toNat : Nat) : Int) := by
    rw [Int.fdiv_eq_ediv_of_nonneg _ (Int.le_of_lt (Int.pow_pos (by decide)))]
    simp
  simp only [binOp, Op.shift, if_neg h1, h2, h3]
  rfl
theorem Q_uandC (hx : st.ev x = .val (.int .u64 (m : Int))) (hy : st.ev y = .val (.int .u64 n)) (h0 : 0 ≤ n ∧ n < 18446744073709551616) :
    QOp P ⟨d, .binOp .and T x y T', ty, pos, af, g⟩ st (.val (.int .u64 ((m % 18446744073709551616 &&& n.toNat : Nat) : Int))) := Q_bin hx hy fun w => by
  have hn : n.toNat < 2 ^ 64 := by omega
  have e : (BitVec.ofInt 64 (m : Int) &&& BitVec.ofInt 64 n).toNat = m % 18446744073709551616 &&& n.toNat := by
    rw [bv_nat (by omega), bv_nat h0.1, BitVec.toNat_and, BitVec.toNat_ofNat, BitVec.toNat_ofNat, Nat.mod_eq_of_lt hn, Int.toNat_natCast]
  have hlt : m % 18446744073709551616 &&& n.toNat < 2 ^ 64 := Nat.and_lt_two_pow _ hn
  have hw : IntKind.u64.wrap ((m % 18446744073709551616 &&& n.toNat : Nat) : Int) = ((m % 18446744073709551616 &&& n.toNat : Nat) : Int) := IntWalk.u64_in _ (by omega)
  show Result.ok (Value.int .u64 (IntKind.u64.wrap ((BitVec.ofInt 64 (m : Int) &&& BitVec.ofInt 64 n).toNat : Int))) w = _
  rw [e, hw]
end
end Go.Proofs.YtbgecpjlopdkfaaDoor
