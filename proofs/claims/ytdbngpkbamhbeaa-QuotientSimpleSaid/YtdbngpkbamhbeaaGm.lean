import Derived.Test.YtdbngpkbamhbeaaTypes
set_option linter.unusedSimpArgs false
set_option linter.unusedVariables false
set_option linter.unusedSectionVars false
set_option maxRecDepth 20000
namespace Go.Proofs.Ytdbngpkbamhbeaa
attribute [local irreducible] QOp aL aC qL
/-- a is below b. -/
def lt (ns : List Nat) (a b : Nat) : Bool := (ns.getD b 0).testBit a
def okPair (ns : List Nat) (b a : Nat) : Bool := !lt ns a b || ndiff (ns.getD a 0) (ns.getD b 0) == 0
def okRow (N : Nat) (ns : List Nat) (b : Nat) : Bool := !lt ns b b && (List.range N).all (okPair ns b)
/-- No point is below itself, and what is below something below a point is below it. -/
def okB (N : Nat) (ns : List Nat) : Bool := (List.range N).all (okRow N ns)
def chk (N : Int) (l : List Int) : Int :=
  if N < 0 ∨ 10 < N then 2 else if (l.length : Int) ≠ N then 1 else if ∃ x ∈ l, x < 0 ∨ x / 2 ^ N.toNat ≠ 0 then 3 else if okB N.toNat (l.map Int.toNat) then 0 else 4

end Go.Proofs.Ytdbngpkbamhbeaa
set_option linter.unusedSimpArgs false
set_option linter.unusedVariables false
set_option linter.unusedSectionVars false
set_option maxRecDepth 20000
namespace Go.Proofs.Ytdbngpkbamhbeaa
attribute [local irreducible] QOp aL aC qL
def trip (ns : List Nat) (i j k : Nat) : Bool := lt ns j k && (lt ns k i && !lt ns j i)

end Go.Proofs.Ytdbngpkbamhbeaa
set_option linter.unusedSimpArgs false
set_option linter.unusedVariables false
set_option linter.unusedSectionVars false
set_option maxRecDepth 20000
namespace Go.Proofs.Ytdbngpkbamhbeaa
attribute [local irreducible] QOp aL aC qL
/-- The set of the points below k of which p holds. -/
def bs (p : Nat → Bool) : Nat → Nat
  | 0 => 0
  | k + 1 => if p k = true then bs p k + 2 ^ k else bs p k
/-- The order of n points by what is below what. -/
def ofTo (n : Nat) (p : Nat → Nat → Bool) (k : Nat) : List Nat := (List.range k).map fun b => bs (fun a => p a b) n
def ofn (n : Nat) (p : Nat → Nat → Bool) : List Nat := ofTo n p n
end Go.Proofs.Ytdbngpkbamhbeaa
set_option linter.unusedSimpArgs false
set_option linter.unusedVariables false
set_option linter.unusedSectionVars false
set_option maxRecDepth 20000
namespace Go.Proofs.Ytdbngpkbamhbeaa
attribute [local irreducible] QOp aL aC qL
def stA (l : List (Nat × Nat)) (i : Nat) (ns : List Nat) : List Nat := ns.set (l.getD i (0, 0)).2 (ns.getD (l.getD i (0, 0)).2 0 ||| 2 ^ (l.getD i (0, 0)).1)
def stB (k b : Nat) (ns : List Nat) : List Nat := if lt ns k b = true then ns.set b (ns.getD b 0 ||| ns.getD k 0) else ns
def rowB (n k : Nat) (ns : List Nat) : List Nat := iterN n (stB k) ns
def clos (n : Nat) (l : List (Nat × Nat)) : List Nat := iterN n (rowB n) (iterN l.length (stA l) (List.replicate n 0))
def irr (n : Nat) (ns : List Nat) : Bool := (List.range n).all fun b => !lt ns b b

end Go.Proofs.Ytdbngpkbamhbeaa
set_option linter.unusedSimpArgs false
set_option linter.unusedVariables false
set_option linter.unusedSectionVars false
set_option maxRecDepth 20000
namespace Go.Proofs.Ytdbngpkbamhbeaa
attribute [local irreducible] QOp aL aC qL
/-- b is reached from a. -/
inductive Reach (l : List (Nat × Nat)) : Nat → Nat → Prop where
  | one {a b : Nat} (h : (a, b) ∈ l) : Reach l a b
  | more {a c b : Nat} (h : Reach l a c) (h2 : (c, b) ∈ l) : Reach l a b
theorem Reach.trans {l : List (Nat × Nat)} {a b c : Nat} (h : Reach l a b) (h2 : Reach l b c) : Reach l a c := by
  induction h2 with
  | one h3 => exact .more h h3
  | more _ h3 ih => exact .more ih h3
theorem Reach.mono {l l' : List (Nat × Nat)} (hl : ∀ p ∈ l, p ∈ l') {a b : Nat} (h : Reach l a b) : Reach l' a b := by
  induction h with
  | one h3 => exact .one (hl _ h3)
  | more _ h3 ih => exact .more ih (hl _ h3)
theorem getD_set3 (l : List Nat) (x v b : Nat) (hx : x < l.length) : (l.set x v).getD b 0 = if b = x then v else l.getD b 0 := by
  simp only [List.getD_eq_getElem?_getD, List.getElem?_set]
  by_cases h : x = b
  · subst h; simp [hx]
  · simp [h, Ne.symm h]
/-! The pairs, one by one. -/
/-! One round. -/
structure War (n : Nat) (l : List (Nat × Nat)) (k : Nat) (ns : List Nat) : Prop where
  vld : Vld n ns
  sound : ∀ x y, y < n → lt ns x y = true → Reach l x y
  keep : ∀ x y, (x, y) ∈ l → lt ns x y = true
  tr : ∀ c, c < k → ∀ x y, y < n → lt ns x c = true → lt ns c y = true → lt ns x y = true
theorem Reach.lt {n : Nat} {l : List (Nat × Nat)} (hl : ∀ p ∈ l, p.1 < n ∧ p.2 < n) {x y : Nat} (h : Reach l x y) : x < n ∧ y < n := by
  induction h with
  | one h => exact hl _ h
  | more _ h ih => exact ⟨ih.1, (hl _ h).2⟩
end Go.Proofs.Ytdbngpkbamhbeaa
