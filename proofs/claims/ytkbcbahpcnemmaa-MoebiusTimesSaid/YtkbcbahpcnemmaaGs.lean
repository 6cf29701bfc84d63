/- Graphs: what is wrong with one; sets that go with too few: the program's word and the reference's. -/
import Derived.Test.YtkbcbahpcnemmaaFv
import Derived.Test.YtkbcbahpcnemmaaGr
set_option linter.unusedSimpArgs false
set_option linter.unusedVariables false
set_option linter.unusedSectionVars false
set_option maxRecDepth 20000
namespace Go.Proofs.Ytkbcbahpcnemmaa
attribute [local irreducible] QOp aL aC qL
/-- With whom the first k of a set may go. -/
def orTo (to : List Nat) (s : Nat) : Nat → Nat
  | 0 => 0
  | k + 1 => if s.testBit k = true then orTo to s k ||| to.getD k 0 else orTo to s k
theorem orTo_lt {l r : Nat} {to : List Nat} (hc : Ctx l r to) (s : Nat) : ∀ k, orTo to s k < 2 ^ r
  | 0 => Nat.pow_pos (by decide)
  | k + 1 => by
    rw [orTo]
    split
    · exact Nat.or_lt_two_pow (orTo_lt hc s k) (hc.get k)
    · exact orTo_lt hc s k
def wTo (to : List Nat) (s j : Nat) : Nat → Bool
  | 0 => false
  | k + 1 => wTo to s j k || (s.testBit k && (to.getD k 0).testBit j)
theorem orTo_bit (to : List Nat) (s j : Nat) : ∀ k, (orTo to s k).testBit j = wTo to s j k
  | 0 => Nat.zero_testBit j
  | k + 1 => by
    rw [orTo, wTo]
    cases hq : s.testBit k
    · rw [if_neg (by decide), orTo_bit to s j k]; simp
    · rw [if_pos rfl, Nat.testBit_or, orTo_bit to s j k]; simp
theorem bit_stepG (x j : Nat) : x % 2 ^ (j + 1) = if x.testBit j = true then x % 2 ^ j + 2 ^ j else x % 2 ^ j := by
  rw [mod_succ]
  have := Nat.mod_two_eq_zero_or_one (x / 2 ^ j)
  split
  · rename_i h
    rw [← bit_odd] at h
    rw [h, Nat.mul_one]
  · rename_i h
    rw [← bit_odd] at h
    rw [show x / 2 ^ j % 2 = 0 by omega, Nat.mul_zero, Nat.add_zero]
/-! Lacks. -/
def lackB (l : Nat) (to : List Nat) (s : Nat) : Bool := decide (pcTo (orTo to s l) 10 < pcTo s 10)
def lackO (l : Nat) (to : List Nat) : Option Nat := (List.range (2 ^ l)).find? (lackB l to)
theorem find_at {p : Nat → Bool} {N k : Nat} (hk : k < N) (h : p k = true) (hall : ∀ j, j < k → p j = false) : (List.range N).find? p = some k := by
  rw [List.find?_range_eq_some]
  exact ⟨h, List.mem_range.2 hk, fun j hj => by rw [hall j hj]; rfl⟩
theorem find_no {p : Nat → Bool} {N : Nat} (hall : ∀ j, j < N → p j = false) : (List.range N).find? p = none := by
  rw [List.find?_eq_none]
  intro x hx
  rw [hall x (List.mem_range.1 hx)]; decide
end Go.Proofs.Ytkbcbahpcnemmaa
