import Derived.Test.YtajpfjmmhcbjkaaDoorFb
import Derived.Test.YtajpfjmmhcbjkaaDoorFkb
set_option linter.unusedSimpArgs false
set_option linter.unusedVariables false
set_option linter.unusedSectionVars false
set_option maxRecDepth 20000
namespace Go.Proofs.YtajpfjmmhcbjkaaDoor
attribute [local irreducible] QOp aL aC qL
def sch (N : Int) (l : List Int) (set : Int) : Int := if chk N l ≠ 0 then chk N l else if 0 ≤ set ∧ set < ((2 ^ N.toNat : Nat) : Int) then 0 else 3
theorem sch_err {N : Int} {l : List Int} {set : Int} (h : chk N l ≠ 0) : sch N l set = chk N l := by unfold sch; rw [if_pos h]
theorem sch_in {n : Nat} {l : List Int} {s : Nat} (h : chk n l = 0) (hs : s < 2 ^ n) : sch n l (s : Int) = 0 := by
  unfold sch; rw [if_neg (by rw [h]; decide), Int.toNat_natCast, if_pos ⟨by omega, by omega⟩]
theorem sch_out {n : Nat} {l : List Int} {set : Int} (h : chk n l = 0) (hs : set < 0 ∨ ((2 ^ n : Nat) : Int) ≤ set) : sch n l set = 3 := by
  unfold sch; rw [if_neg (by rw [h]; decide), Int.toNat_natCast, if_neg (by omega)]
end Go.Proofs.YtajpfjmmhcbjkaaDoor
