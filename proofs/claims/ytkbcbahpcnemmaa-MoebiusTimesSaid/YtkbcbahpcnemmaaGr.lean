/- Sizes of sets: the reference's word and the library's. -/
import Derived.Test.YtkbcbahpcnemmaaFb
import Derived.Test.YtkbcbahpcnemmaaEngZc
set_option linter.unusedSimpArgs false
set_option linter.unusedVariables false
set_option linter.unusedSectionVars false
set_option maxRecDepth 20000
namespace Go.Proofs.Ytkbcbahpcnemmaa
attribute [local irreducible] QOp aL aC qL
/-- How many of the first k points a set has. -/
def pcTo (x : Nat) : Nat → Nat
  | 0 => 0
  | k + 1 => pcTo x k + x / 2 ^ k % 2
theorem pcTo_le (x : Nat) : ∀ k, pcTo x k ≤ k
  | 0 => Nat.le_refl 0
  | k + 1 => by
    have := pcTo_le x k
    have := Nat.mod_lt (x / 2 ^ k) (show 0 < 2 by decide)
    rw [pcTo]; omega
theorem pcTo_stay {x j : Nat} (h : x / 2 ^ j = 0) : ∀ d, pcTo x (j + d) = pcTo x j
  | 0 => rfl
  | d + 1 => by
    have : x / 2 ^ (j + d) = 0 := by rw [Nat.pow_add, ← Nat.div_div_eq_div_mul, h, Nat.zero_div]
    show pcTo x (j + d) + x / 2 ^ (j + d) % 2 = _
    rw [pcTo_stay h d, this, Nat.zero_mod, Nat.add_zero]
def oc1 (x : Nat) : Nat := ((x / 2 ^ (1 : Int).toNat % 18446744073709551616 &&& (6148914691236517205 : Int).toNat) + (x % 18446744073709551616 &&& (6148914691236517205 : Int).toNat)) % 18446744073709551616
def oc2 (x : Nat) : Nat := ((x / 2 ^ (2 : Int).toNat % 18446744073709551616 &&& (3689348814741910323 : Int).toNat) + (x % 18446744073709551616 &&& (3689348814741910323 : Int).toNat)) % 18446744073709551616
def oc3 (x : Nat) : Nat := (x / 2 ^ (4 : Int).toNat + x) % 18446744073709551616 % 18446744073709551616 &&& (1085102592571150095 : Int).toNat
def oc4 (x : Nat) : Nat := (x + x / 2 ^ (8 : Int).toNat) % 18446744073709551616
def oc5 (x : Nat) : Nat := (x + x / 2 ^ (16 : Int).toNat) % 18446744073709551616
def oc6 (x : Nat) : Nat := (x + x / 2 ^ (32 : Int).toNat) % 18446744073709551616
def ocn (x : Nat) : Nat := oc6 (oc5 (oc4 (oc3 (oc2 (oc1 x)))))
theorem ocn_all : ((List.range 1024).all fun x => decide (ocn x < 1024) && decide (ocn x &&& (127 : Int).toNat = pcTo x 10)) = true := by kernel_rfl
theorem ocn_at {x : Nat} (h : x < 1024) : ocn x < 1024 ∧ ocn x &&& (127 : Int).toNat = pcTo x 10 := by
  have := List.all_eq_true.1 ocn_all x (List.mem_range.2 h)
  simpa only [Bool.and_eq_true, decide_eq_true_eq] using this
theorem pcTo_10 {x k : Nat} (hx : x < 2 ^ k) (hk : k ≤ 10) : pcTo x 10 = pcTo x k := by
  have := pcTo_stay (Nat.div_eq_of_lt hx) (10 - k)
  rwa [show k + (10 - k) = 10 by omega] at this
end Go.Proofs.Ytkbcbahpcnemmaa
