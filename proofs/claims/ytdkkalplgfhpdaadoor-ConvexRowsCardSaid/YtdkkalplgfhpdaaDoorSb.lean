import Derived.Test.YtdkkalplgfhpdaaDoorSa
import Derived.Test.YtdkkalplgfhpdaaDoorFi
set_option linter.unusedSimpArgs false
set_option linter.unusedVariables false
set_option linter.unusedSectionVars false
set_option maxRecDepth 20000
namespace Go.Proofs.YtdkkalplgfhpdaaDoor
attribute [local irreducible] QOp aL aC qL
def clP (n : Nat) (ns : List Nat) (set i : Nat) : Bool := (List.range n).any fun k => set.testBit k && upB ns i k
def clN (n : Nat) (ns : List Nat) (set : Nat) : Nat := bs (clP n ns set) n
def reN (n s : Nat) : Nat := 2 ^ n - 1 - s
theorem p2_pos (n : Nat) : 0 < 2 ^ n := Nat.pow_pos (by decide)
theorem reN_lt (n s : Nat) : reN n s < 2 ^ n := by have := p2_pos n; unfold reN; omega
theorem bit_small {n s i : Nat} (hs : s < 2 ^ n) (h : s.testBit i = true) : i < n := by
  rcases Nat.lt_or_ge i n with h1 | h1
  · exact h1
  · rw [Nat.testBit_lt_two_pow (Nat.lt_of_lt_of_le hs (Nat.pow_le_pow_right (n := 2) (by decide) h1))] at h; cases h
theorem reN_bit {n s : Nat} (hs : s < 2 ^ n) (i : Nat) : (reN n s).testBit i = (decide (i < n) && !s.testBit i) := by
  have e : reN n s = 2 ^ n - (s + 1) := by unfold reN; omega
  rw [e, Nat.testBit_two_pow_sub_succ hs]
def sle (a b : Nat) : Prop := ∀ i, a.testBit i = true → b.testBit i = true
theorem sle.trans {a b c : Nat} (h : sle a b) (k : sle b c) : sle a c := fun i hi => k i (h i hi)
def trnN (n : Nat) (ns : List Nat) (s : Nat) : Nat := (tvN (clN n ns) (reN n) (2 ^ n) s).length
/-! The program's closure: point by point. -/
def clSt (ns L : List Nat) (s : Nat) : Nat → Nat
  | 0 => s
  | k + 1 => clSt ns L s k ||| ns.getD (L.getD k 0) 0
end Go.Proofs.YtdkkalplgfhpdaaDoor
