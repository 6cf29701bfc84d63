import Derived.Test.YtlihpalpkdgclaaDoorFb
import Derived.Test.YtlihpalpkdgclaaDoorFkb
import Derived.Test.YtlihpalpkdgclaaDoorKb
import Derived.Test.YtlihpalpkdgclaaDoorGc
import Derived.Test.YtlihpalpkdgclaaDoorFi
import Derived.Test.YtlihpalpkdgclaaDoorFe
set_option linter.unusedSimpArgs false
set_option linter.unusedVariables false
set_option linter.unusedSectionVars false
set_option maxRecDepth 20000
namespace Go.Proofs.YtlihpalpkdgclaaDoor
attribute [local irreducible] QOp aL aC qL
def sch (N : Int) (l : List Int) (set : Int) : Int := if chk N l ≠ 0 then chk N l else if 0 ≤ set ∧ set < ((2 ^ N.toNat : Nat) : Int) then 0 else 3
end Go.Proofs.YtlihpalpkdgclaaDoor
set_option linter.unusedSimpArgs false
set_option linter.unusedVariables false
set_option linter.unusedSectionVars false
set_option maxRecDepth 20000
namespace Go.Proofs.YtlihpalpkdgclaaDoor
attribute [local irreducible] QOp aL aC qL
def ptsT (s k : Nat) : List Nat := (List.range k).filter s.testBit
end Go.Proofs.YtlihpalpkdgclaaDoor
set_option linter.unusedSimpArgs false
set_option linter.unusedVariables false
set_option linter.unusedSectionVars false
set_option maxRecDepth 20000
namespace Go.Proofs.YtlihpalpkdgclaaDoor
attribute [local irreducible] QOp aL aC qL
/-- How many of the first k numbers. -/
def cqN (p : Nat → Bool) : Nat → Nat
  | 0 => 0
  | k + 1 => if p k = true then cqN p k + 1 else cqN p k
def sqN (f : Nat → Nat) : Nat → Nat
  | 0 => 0
  | k + 1 => sqN f k + f k
theorem cqN_le (p : Nat → Bool) : ∀ k, cqN p k ≤ k
  | 0 => Nat.le_refl _
  | k + 1 => by have := cqN_le p k; rw [cqN]; split <;> omega
theorem cqN_zero {p : Nat → Bool} : ∀ {k : Nat}, cqN p k = 0 ↔ ∀ i, i < k → p i = false
  | 0 => ⟨fun _ i h => absurd h (Nat.not_lt_zero _), fun _ => rfl⟩
  | k + 1 => by
    rw [cqN]
    constructor
    · intro h i hi
      by_cases hp : p k = true
      · rw [if_pos hp] at h; omega
      · rw [if_neg hp] at h
        by_cases e : i = k
        · subst e; simpa using hp
        · exact cqN_zero.1 h i (by omega)
    · intro h
      rw [if_neg (by rw [h k (by omega)]; decide)]
      exact cqN_zero.2 fun i hi => h i (by omega)
end Go.Proofs.YtlihpalpkdgclaaDoor
