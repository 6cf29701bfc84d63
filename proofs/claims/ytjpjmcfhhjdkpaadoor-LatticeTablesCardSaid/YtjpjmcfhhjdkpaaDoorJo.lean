/- Sets that are closed under what two have in common, and together: their places make the reference's lattice (plain). -/
import Derived.Test.YtjpjmcfhhjdkpaaDoorJe
import Derived.Test.YtjpjmcfhhjdkpaaDoorJi
import Derived.Test.YtjpjmcfhhjdkpaaDoorFo
set_option linter.unusedSimpArgs false
set_option linter.unusedVariables false
set_option maxRecDepth 20000
namespace Go.Proofs.YtjpjmcfhhjdkpaaDoor
attribute [local irreducible] QOp aL aC qL
/-- Sets told once each; J gives the least one that has two. -/
structure StJ (S : List Nat) (J : Nat → Nat → Nat) : Prop where
  one : ∀ i j, i < S.length → j < S.length → S.getD i 0 = S.getD j 0 → i = j
  meet : ∀ i j, i < S.length → j < S.length → ∃ k, k < S.length ∧ S.getD k 0 = S.getD i 0 &&& S.getD j 0
  join : ∀ i j, i < S.length → j < S.length → ∃ k, k < S.length ∧ S.getD k 0 = J (S.getD i 0) (S.getD j 0)
  jub : ∀ i j z, i < S.length → j < S.length → z < S.length → (sub (J (S.getD i 0) (S.getD j 0)) (S.getD z 0) = true ↔ sub (S.getD i 0) (S.getD z 0) = true ∧ sub (S.getD j 0) (S.getD z 0) = true)
/-- Where a set stands, as a number. -/
def plN (S : List Nat) (s : Nat) : Nat := (plc S s).toNat
/-- Is set number a part of set number b. -/
def uS (S : List Nat) (a b : Nat) : Bool := sub (S.getD a 0) (S.getD b 0)
end Go.Proofs.YtjpjmcfhhjdkpaaDoor
