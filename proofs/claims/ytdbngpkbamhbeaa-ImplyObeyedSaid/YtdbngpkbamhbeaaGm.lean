import Derived.Test.YtdbngpkbamhbeaaGa
import Derived.Test.YtdbngpkbamhbeaaFf
set_option linter.unusedSimpArgs false
set_option linter.unusedVariables false
set_option linter.unusedSectionVars false
set_option maxRecDepth 20000
namespace Go.Proofs.Ytdbngpkbamhbeaa
attribute [local irreducible] QOp aL aC qL
/-- b is reached from a. -/
inductive Reach (l : List (Nat × Nat)) : Nat → Nat → Prop where
  | one {a b : Nat} (h : (a, b) ∈ l) : Reach l a b
  | more {a c b : Nat} (h : Reach l a c) (h2 : (c, b) ∈ l) : Reach l a b
theorem Reach.trans {l : List (Nat × Nat)} {a b c : Nat} (h : Reach l a b) (h2 : Reach l b c) : Reach l a c := by
  induction h2 with
  | one h3 => exact .more h h3
  | more _ h3 ih => exact .more ih h3
theorem Reach.mono {l l' : List (Nat × Nat)} (hl : ∀ p ∈ l, p ∈ l') {a b : Nat} (h : Reach l a b) : Reach l' a b := by
  induction h with
  | one h3 => exact .one (hl _ h3)
  | more _ h3 ih => exact .more ih (hl _ h3)
theorem getD_set3 (l : List Nat) (x v b : Nat) (hx : x < l.length) : (l.set x v).getD b 0 = if b = x then v else l.getD b 0 := by
  simp only [List.getD_eq_getElem?_getD, List.getElem?_set]
  by_cases h : x = b
  · subst h; simp [hx]
  · simp [h, Ne.symm h]
/-! The pairs, one by one. -/
/-! One round. -/
structure War (n : Nat) (l : List (Nat × Nat)) (k : Nat) (ns : List Nat) : Prop where
  vld : Vld n ns
  sound : ∀ x y, y < n → lt ns x y = true → Reach l x y
  keep : ∀ x y, (x, y) ∈ l → lt ns x y = true
  tr : ∀ c, c < k → ∀ x y, y < n → lt ns x c = true → lt ns c y = true → lt ns x y = true
theorem Reach.lt {n : Nat} {l : List (Nat × Nat)} (hl : ∀ p ∈ l, p.1 < n ∧ p.2 < n) {x y : Nat} (h : Reach l x y) : x < n ∧ y < n := by
  induction h with
  | one h => exact hl _ h
  | more _ h ih => exact ⟨ih.1, (hl _ h).2⟩
end Go.Proofs.Ytdbngpkbamhbeaa
