/- The lattice of the cuts: the reference's word. -/
import Derived.Test.YtdieojemgkfklaaDoorKk
import Derived.Test.YtdieojemgkfklaaDoorKl
import Derived.Test.YtdieojemgkfklaaDoorEngZe
set_option linter.unusedSimpArgs false
set_option linter.unusedVariables false
set_option maxRecDepth 20000
namespace Go.Proofs.YtdieojemgkfklaaDoor
attribute [local irreducible] QOp aL aC qL
attribute [local irreducible] FOp POp hL xH zL mrow mtab plc
theorem low_one {n : Nat} {ns : List Nat} (hv : Vld n ns) {p : Nat} (hp : p < n) : bs (bndP n ns (2 ^ p) false) n = ns.getD p 0 ||| 2 ^ p := by
  refine (bs_eq (Nat.or_lt_two_pow (hv.get p) (Nat.pow_lt_pow_right (by decide) hp)) fun j hj => ?_).symm
  rw [or_bit]
  unfold bndP
  rw [Bool.eq_iff_iff, List.all_eq_true]
  simp only [Bool.false_eq_true, if_false, List.mem_range, Nat.testBit_two_pow]
  constructor
  · intro h k _
    by_cases e : p = k
    · subst e; rw [Bool.or_eq_true]; right
      unfold upB lt
      exact h
    · rw [decide_eq_false e]; rfl
  · intro h
    have := h p hp
    rw [decide_eq_true rfl, Bool.not_true, Bool.false_or] at this
    exact this
end Go.Proofs.YtdieojemgkfklaaDoor
