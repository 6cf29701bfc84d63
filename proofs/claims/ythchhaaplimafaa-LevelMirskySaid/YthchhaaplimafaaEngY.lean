/- A whole struct out of what is only read; the lowest bit of a number. -/
import Derived.Test.YthchhaaplimafaaEngX
set_option linter.unusedSimpArgs false
set_option linter.unusedVariables false
namespace Go.Proofs.Ythchhaaplimafaa
open Go.RowKit
section
variable {P : Program} {st : St} {d : Option Tmp} {ty : TypeId} {pos : String} {af : Array Edge} {g : Option (Nat × Bool)} {T T' : TypeId} {x y : Operand}
theorem Q_ld_rpa {cs : List Dat} {o n : Nat} {ds : List Dat} {out : List AV} (hx : st.ev x = .rpt cs o) (ht : AgT P T n) (hl : (cs.drop o).take n = ds) (hn : Nat.beq ds.length n = true) (ho : ds.map ofD = out) : QOp P ⟨d, .load T x, ty, pos, af, g⟩ st (.agg out) := by
  subst ho
  refine Q_load_rpt_agg hx (fun j dt h => ?_) (Nat.eq_of_beq_eq_true hn) ht
  subst hl
  rw [List.getElem?_take] at h
  split at h
  · rw [List.getElem?_drop] at h; exact h
  · cases h
theorem Q_clo1 {f : FuncId} {x1 : Operand} {a1 : AV} (h1 : st.ev x1 = a1) : QOp P ⟨d, .makeFunc (.func f) #[] #[x1], ty, pos, af, g⟩ st (.clo f [a1]) := by
  subst h1
  exact Q_clo
theorem Q_clo2 {f : FuncId} {x1 x2 : Operand} {a1 a2 : AV} (h1 : st.ev x1 = a1) (h2 : st.ev x2 = a2) : QOp P ⟨d, .makeFunc (.func f) #[] #[x1, x2], ty, pos, af, g⟩ st (.clo f [a1, a2]) := by
  subst h1; subst h2
  exact Q_clo
theorem Q_clo3 {f : FuncId} {x1 x2 x3 : Operand} {a1 a2 a3 : AV} (h1 : st.ev x1 = a1) (h2 : st.ev x2 = a2) (h3 : st.ev x3 = a3) : QOp P ⟨d, .makeFunc (.func f) #[] #[x1, x2, x3], ty, pos, af, g⟩ st (.clo f [a1, a2, a3]) := by
  subst h1; subst h2; subst h3
  exact Q_clo
theorem Q_clo4 {f : FuncId} {x1 x2 x3 x4 : Operand} {a1 a2 a3 a4 : AV} (h1 : st.ev x1 = a1) (h2 : st.ev x2 = a2) (h3 : st.ev x3 = a3) (h4 : st.ev x4 = a4) : QOp P ⟨d, .makeFunc (.func f) #[] #[x1, x2, x3, x4], ty, pos, af, g⟩ st (.clo f [a1, a2, a3, a4]) := by
  subst h1; subst h2; subst h3; subst h4
  exact Q_clo
theorem Q_clo5 {f : FuncId} {x1 x2 x3 x4 x5 : Operand} {a1 a2 a3 a4 a5 : AV} (h1 : st.ev x1 = a1) (h2 : st.ev x2 = a2) (h3 : st.ev x3 = a3) (h4 : st.ev x4 = a4) (h5 : st.ev x5 = a5) : QOp P ⟨d, .makeFunc (.func f) #[] #[x1, x2, x3, x4, x5], ty, pos, af, g⟩ st (.clo f [a1, a2, a3, a4, a5]) := by
  subst h1; subst h2; subst h3; subst h4; subst h5
  exact Q_clo
theorem Q_clo6 {f : FuncId} {x1 x2 x3 x4 x5 x6 : Operand} {a1 a2 a3 a4 a5 a6 : AV} (h1 : st.ev x1 = a1) (h2 : st.ev x2 = a2) (h3 : st.ev x3 = a3) (h4 : st.ev x4 = a4) (h5 : st.ev x5 = a5) (h6 : st.ev x6 = a6) : QOp P ⟨d, .makeFunc (.func f) #[] #[x1, x2, x3, x4, x5, x6], ty, pos, af, g⟩ st (.clo f [a1, a2, a3, a4, a5, a6]) := by
  subst h1; subst h2; subst h3; subst h4; subst h5; subst h6
  exact Q_clo
/-- The lowest bit. -/
def low (d : Nat) : Nat := if d = 0 then 0 else d &&& (2 ^ 64 - d)
theorem Q_low {n : Nat} {k : Int} (hx : st.ev x = .val (.int .i64 (n : Int))) (hy : st.ev y = .val (.int .i64 k)) (hk : k = -(n : Int)) (h : n ≤ 9223372036854775807) : QOp P ⟨d, .binOp .and T x y T', ty, pos, af, g⟩ st (.val (.int .i64 (low n : Nat))) := Q_bin hx hy fun w => by
  subst hk
  have e : (BitVec.ofInt 64 (n : Int) &&& BitVec.ofInt 64 (-(n : Int))).toNat = low n := by
    rw [BitVec.toNat_and, BitVec.toNat_ofInt, BitVec.toNat_ofInt]
    unfold low
    by_cases h0 : n = 0
    · subst h0; rfl
    · rw [if_neg h0]
      congr 1 <;> omega
  have hlt : low n < 2 ^ 63 := by
    unfold low
    split
    · decide
    · exact Nat.lt_of_le_of_lt Nat.and_le_left (by omega)
  have hw : IntKind.i64.wrap ((low n : Nat) : Int) = ((low n : Nat) : Int) := IntWalk.i64_in _ (by omega)
  show Result.ok (Value.int .i64 (IntKind.i64.wrap ((BitVec.ofInt 64 (n : Int) &&& BitVec.ofInt 64 (-(n : Int))).toNat : Int))) w = _
  rw [e, hw]
end
theorem low_bits : ∀ d, 0 < d → ∃ k, (∀ i, (d.testBit i && !(d - 1).testBit i) = decide (i = k)) ∧ ∀ i, i < k → d.testBit i = false := by
  intro d
  induction d using Nat.strongRecOn with
  | _ d ih =>
    intro hd
    rcases Nat.mod_two_eq_zero_or_one d with h0 | h1
    · obtain ⟨k, h2, h3⟩ := ih (d / 2) (by omega) (by omega)
      refine ⟨k + 1, fun i => ?_, fun i hi => ?_⟩
      · cases i with
        | zero => simp [Nat.testBit_zero, h0]
        | succ i =>
          rw [Nat.testBit_succ, Nat.testBit_succ, show (d - 1) / 2 = d / 2 - 1 by omega, h2 i]
          simp
      · cases i with
        | zero => simp [Nat.testBit_zero, h0]
        | succ i => rw [Nat.testBit_succ]; exact h3 i (by omega)
    · refine ⟨0, fun i => ?_, fun i hi => absurd hi (Nat.not_lt_zero _)⟩
      cases i with
      | zero => simp [Nat.testBit_zero, h1, show (d - 1) % 2 = 0 by omega]
      | succ i =>
        rw [Nat.testBit_succ, Nat.testBit_succ, show (d - 1) / 2 = d / 2 by omega]
        simp
theorem low_pow {d : Nat} (hd : 0 < d) (hlt : d < 2 ^ 64) : ∃ k, low d = 2 ^ k ∧ d.testBit k = true ∧ ∀ i, i < k → d.testBit i = false := by
  obtain ⟨k, h1, h2⟩ := low_bits d hd
  refine ⟨k, ?_, ?_, h2⟩
  · apply Nat.eq_of_testBit_eq
    intro i
    rw [low, if_neg (by omega), Nat.testBit_and, show 2 ^ 64 - d = 2 ^ 64 - ((d - 1) + 1) by omega, Nat.testBit_two_pow_sub_succ (by omega), Nat.testBit_two_pow]
    have := h1 i
    by_cases h64 : i < 64
    · simp only [h64, decide_true, Bool.true_and]
      rw [this]
      simp [eq_comm]
    · have hz : d.testBit i = false := Nat.testBit_lt_two_pow (Nat.lt_of_lt_of_le hlt (Nat.pow_le_pow_right (by decide) (by omega)))
      rw [hz, Bool.false_and] at this
      rw [hz, Bool.false_and, this]
      simp [eq_comm]
  · have := h1 k
    simp at this
    exact this.1
end Go.Proofs.Ythchhaaplimafaa
