import Derived.Test.YtpfldhaaiglgdaaFc
set_option linter.unusedSimpArgs false
set_option linter.unusedVariables false
set_option linter.unusedSectionVars false
set_option maxRecDepth 20000
namespace Go.Proofs.Ytpfldhaaiglgdaa
attribute [local irreducible] QOp aL aC qL
def trip (ns : List Nat) (i j k : Nat) : Bool := lt ns j k && (lt ns k i && !lt ns j i)

theorem lt_lt {n : Nat} {ns : List Nat} (h : ∀ x ∈ ns, x < 2 ^ n) {a b : Nat} (hl : lt ns a b = true) : a < n := by
  unfold lt at hl
  have hx : ns.getD b 0 < 2 ^ n := by
    rw [List.getD_eq_getElem?_getD]
    cases hk : ns[b]? with
    | none => exact Nat.pow_pos (by decide)
    | some x => exact h x (List.mem_of_getElem? hk)
  rcases Nat.lt_or_ge a n with h1 | h1
  · exact h1
  · rw [Nat.testBit_lt_two_pow (Nat.lt_of_lt_of_le hx (Nat.pow_le_pow_right (by decide) h1))] at hl
    cases hl
theorem lt_lt' {n : Nat} {ns : List Nat} (h : ns.length = n) {a b : Nat} (hl : lt ns a b = true) : b < n := by
  unfold lt at hl
  rcases Nat.lt_or_ge b n with h1 | h1
  · exact h1
  · rw [List.getD_eq_getElem?_getD, List.getElem?_eq_none (by omega)] at hl
    simp at hl

end Go.Proofs.Ytpfldhaaiglgdaa
