import Derived.Test.YtkapohfnoflhlaaDoorGg
set_option linter.unusedSimpArgs false
set_option linter.unusedVariables false
set_option linter.unusedSectionVars false
set_option maxRecDepth 20000
namespace Go.Proofs.YtkapohfnoflhlaaDoor
attribute [local irreducible] QOp aL aC qL
theorem getD_setN (l : List Nat) (x v b : Nat) (hx : x < l.length) : (l.set x v).getD b 0 = if b = x then v else l.getD b 0 := by
  by_cases h : b = x
  · subst h
    rw [if_pos rfl]
    simp [List.getD_eq_getElem?_getD, hx]
  · rw [if_neg h]
    simp [List.getD_eq_getElem?_getD, List.getElem?_set_ne (Ne.symm h)]
/-- One more pair. -/
theorem ofn_set {n x y : Nat} {p p' : Nat → Nat → Bool} (hx : x < n) (hy : y < n) (h : ∀ a b, a < n → b < n → p' a b = (p a b || (decide (a = y) && decide (b = x)))) : (ofn n p).set x ((ofn n p).getD x 0 ||| 2 ^ y) = ofn n p' := by
  refine vld_ext ((ofn_vld n p).set (Nat.or_lt_two_pow ((ofn_vld n p).get x) (Nat.pow_lt_pow_right (by decide) hy))) (ofn_vld n p') fun a b ha hb => ?_
  rw [ofn_lt p' ha hb, h a b ha hb, lt, getD_setN _ _ _ _ (by rw [ofn_len]; exact hx)]
  by_cases hbx : b = x
  · subst hbx
    rw [if_pos rfl, Nat.testBit_or, Nat.testBit_two_pow, ← ofn_lt p ha hb, lt]
    simp [eq_comm]
  · rw [if_neg hbx, ← ofn_lt p ha hb, lt]
    simp [hbx]
theorem ofn_none (n : Nat) {p : Nat → Nat → Bool} (h : ∀ a b, a < n → b < n → p a b = false) : ofn n p = List.replicate n 0 := by
  refine nat_ext (by rw [ofn_len, List.length_replicate]) fun i hi => ?_
  rw [ofn_len] at hi
  rw [ofn_get _ hi]
  have : bs (fun a => p a i) n = 0 := (bs_eq (Nat.pow_pos (by decide)) fun j hj => by rw [Nat.zero_testBit, h j i hj hi]).symm
  rw [this]
  simp [List.getD_eq_getElem?_getD, hi]
/-- What p tells of the pairs ahead of (x, y). -/
def scanP (p : Nat → Nat → Bool) (x y a b : Nat) : Bool := p a b && (decide (a < x) || (decide (a = x) && decide (b < y)))
end Go.Proofs.YtkapohfnoflhlaaDoor
