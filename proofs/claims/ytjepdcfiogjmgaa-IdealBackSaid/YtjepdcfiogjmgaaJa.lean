import Derived.Test.YtjepdcfiogjmgaaIw
set_option linter.unusedSimpArgs false
set_option linter.unusedVariables false
set_option maxRecDepth 20000
namespace Go.Proofs.Ytjepdcfiogjmgaa
attribute [local irreducible] QOp aL aC qL
abbrev Og (n : Nat) (M M' : List (List Nat)) (F : List Nat) (y x : Nat) : Prop := OrgP n (ta M) (ta M') (fa F) y x
/-- The way back, as far as there is one. -/
structure BkTo (n k m : Nat) (M M' : List (List Nat)) (F G : List Nat) : Prop where
  bk : Bk n m (ta M) (ta M') (fa F) G
  le : m ≤ k
  stop : m < k → ∀ x, x < n → ¬ Og n M M' F m x
theorem BkTo.hit {n k m y : Nat} {M M' : List (List Nat)} {F G : List Nat} (h : BkTo n k m M M' F G) (hy : y < m) : fa G y < n ∧ Og n M M' F y (fa G y) := h.bk.ok y hy
abbrev bkRes (k m : Nat) : AV := if m = k then .tup [.own 0, .val (.bool true), .val (.int .i64 0)] else .tup [.val (.slice none 0 0), .val (.bool false), .val (.int .i64 0)]
end Go.Proofs.Ytjepdcfiogjmgaa
set_option linter.unusedSimpArgs false
set_option linter.unusedVariables false
set_option maxRecDepth 20000
namespace Go.Proofs.Ytjepdcfiogjmgaa
attribute [local irreducible] QOp aL aC qL
/-- Those of the first x that are where they were, there and back. -/
def clT (F G : List Nat) (x : Nat) : List Nat := (List.range x).filter fun i => decide (fa G (fa F i) = i)
theorem BkTo.mp {n k : Nat} {M M' : List (List Nat)} {F G : List Nat} (h : BkTo n k k M M' F G) : Mp k n G := ⟨h.bk.len, fun y hy => (h.bk.ok y hy).1⟩
end Go.Proofs.Ytjepdcfiogjmgaa
