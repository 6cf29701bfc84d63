/- Ends, ideals, covers of an order: the program's word and the reference's. -/
import Derived.Test.YtkbcbahpcnemmaaGb
import Derived.Test.YtkbcbahpcnemmaaFo
import Derived.Test.YtkbcbahpcnemmaaFk
set_option linter.unusedSimpArgs false
set_option linter.unusedVariables false
set_option linter.unusedSectionVars false
set_option maxRecDepth 20000
namespace Go.Proofs.Ytkbcbahpcnemmaa
attribute [local irreducible] QOp aL aC qL
theorem vget {n : Nat} {ns : List Nat} (hv : Vld n ns) (hn : n ≤ 10) (k : Nat) : ns.getD k 0 < 1024 := Nat.lt_of_lt_of_le (hv.get k) (p2_10 hn)
theorem bs_or (p : Nat → Bool) (k : Nat) : bs p k ||| 2 ^ k = bs p k + 2 ^ k := by
  have := Nat.two_pow_add_eq_or_of_lt (bs_lt p k) 1
  rw [Nat.mul_one] at this
  rw [Nat.or_comm, ← this]
  omega
def lowP (n : Nat) (ns : List Nat) (i : Nat) : Bool := (List.range n).all fun k => !lt ns k i
def highP (n : Nat) (ns : List Nat) (i : Nat) : Bool := (List.range n).all fun k => !lt ns i k
def zeroP (ns : List Nat) (i : Nat) : Bool := decide (ns.getD i 0 = 0)
theorem zero_low {n : Nat} {ns : List Nat} (hv : Vld n ns) (i : Nat) : zeroP ns i = lowP n ns i := by
  have hx := hv.get i
  rw [Bool.eq_iff_iff]
  unfold zeroP lowP lt
  rw [decide_eq_true_eq]
  simp only [List.all_eq_true, List.mem_range, Bool.not_eq_true']
  constructor
  · intro h k _
    rw [h, Nat.zero_testBit]
  · intro h
    apply Nat.eq_of_testBit_eq
    intro k
    rw [Nat.zero_testBit]
    by_cases hk : k < n
    · exact h k hk
    · exact Nat.testBit_lt_two_pow (Nat.lt_of_lt_of_le hx (Nat.pow_le_pow_right (by decide) (by omega)))
def hiTo (n : Nat) (ns : List Nat) : Nat → Nat
  | 0 => 2 ^ n - 1
  | b + 1 => ndiff (hiTo n ns b) (ns.getD b 0)
theorem hiTo_lt (n : Nat) (ns : List Nat) : ∀ k, hiTo n ns k < 2 ^ n
  | 0 => by have : 0 < 2 ^ n := Nat.pow_pos (by decide); rw [hiTo]; omega
  | k + 1 => by rw [hiTo]; exact ndiff_lt (hiTo_lt n ns k)
theorem hiTo_bit (n : Nat) (ns : List Nat) (j : Nat) : ∀ k, (hiTo n ns k).testBit j = (decide (j < n) && (List.range k).all fun b => !lt ns j b)
  | 0 => by rw [hiTo, Nat.testBit_two_pow_sub_one]; simp
  | k + 1 => by
    rw [hiTo, testBit_ndiff, hiTo_bit n ns j k, List.range_succ, List.all_append]
    simp [lt, Bool.and_assoc]
theorem hi_eq (n : Nat) (ns : List Nat) : hiTo n ns n = bs (highP n ns) n := bs_eq (hiTo_lt n ns n) fun j hj => by
  rw [hiTo_bit, decide_eq_true hj, Bool.true_and]; rfl
theorem all_succ (p : Nat → Bool) (k : Nat) : (List.range (k + 1)).all p = ((List.range k).all p && p k) := by rw [List.range_succ, List.all_append]; simp
theorem any_succ (p : Nat → Bool) (k : Nat) : (List.range (k + 1)).any p = ((List.range k).any p || p k) := by rw [List.range_succ, List.any_append]; simp
/-! Ideals. -/
def idl (n : Nat) (ns : List Nat) (s : Nat) : Bool := (List.range n).all fun b => !s.testBit b || sub (ns.getD b 0) s
def idTo (n : Nat) (ns : List Nat) (k : Nat) : List Nat := (List.range k).filter (idl n ns)
theorem idTo_succ (n : Nat) (ns : List Nat) (k : Nat) : idTo n ns (k + 1) = if idl n ns k = true then idTo n ns k ++ [k] else idTo n ns k := by
  unfold idTo
  rw [List.range_succ, List.filter_append]
  by_cases h : idl n ns k = true <;> simp [List.filter, h]
theorem idTo_len (n : Nat) (ns : List Nat) (k : Nat) : (idTo n ns k).length ≤ k := by
  have := List.length_filter_le (idl n ns) (List.range k)
  rwa [List.length_range] at this
theorem idl_false {n : Nat} {ns : List Nat} {s b : Nat} (hb : b < n) (h1 : s.testBit b = true) (h2 : sub (ns.getD b 0) s = false) : idl n ns s = false := by
  rw [idl, List.all_eq_false]
  exact ⟨b, List.mem_range.2 hb, by rw [h1, h2]; decide⟩
theorem idl_true {n : Nat} {ns : List Nat} {s : Nat} (h : ∀ b, b < n → (!s.testBit b || sub (ns.getD b 0) s) = true) : idl n ns s = true := by
  rw [idl, List.all_eq_true]
  exact fun b hb => h b (List.mem_range.1 hb)
end Go.Proofs.Ytkbcbahpcnemmaa
