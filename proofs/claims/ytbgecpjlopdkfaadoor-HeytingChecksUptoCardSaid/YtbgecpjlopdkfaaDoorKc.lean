import Derived.Test.YtbgecpjlopdkfaaDoorIv
import Derived.Test.YtbgecpjlopdkfaaDoorEngT
set_option linter.unusedSimpArgs false
set_option linter.unusedVariables false
set_option linter.unusedSectionVars false
set_option maxRecDepth 20000
namespace Go.Proofs.YtbgecpjlopdkfaaDoor
attribute [local irreducible] QOp aL aC qL
/-- The first of the first k of which f tells something. -/
def fstK {α : Type} (f : Nat → Option α) : Nat → Option α
  | 0 => none
  | k + 1 => match fstK f k with
    | some a => some a
    | none => f k
theorem fstK_none {α : Type} {f : Nat → Option α} : ∀ {k : Nat}, (∀ i, i < k → f i = none) → fstK f k = none
  | 0, _ => rfl
  | k + 1, h => by rw [fstK, fstK_none fun i hi => h i (by omega)]; exact h k (by omega)
theorem fstK_some {α : Type} {f : Nat → Option α} {i : Nat} {a : α} (h1 : ∀ j, j < i → f j = none) (h2 : f i = some a) : ∀ {k : Nat}, i < k → fstK f k = some a
  | k + 1, h => by
    by_cases hik : i = k
    · subst hik
      rw [fstK, fstK_none h1]; exact h2
    · rw [fstK, fstK_some h1 h2 (by omega)]
def tri3 (h : Nat → Nat → Nat → Bool) (x y z : Nat) : Option (List Nat) := if h x y z = true then some [x, y, z] else none
def tri2 (n : Nat) (h : Nat → Nat → Nat → Bool) (x y : Nat) : Option (List Nat) := fstK (tri3 h x y) n
def tri1 (n : Nat) (h : Nat → Nat → Nat → Bool) (x : Nat) : Option (List Nat) := fstK (tri2 n h x) n
def triF (n : Nat) (h : Nat → Nat → Nat → Bool) : Option (List Nat) := fstK (tri1 n h) n
def triL (n : Nat) (h : Nat → Nat → Nat → Bool) : List Nat := (triF n h).getD []
def triB (n : Nat) (h : Nat → Nat → Nat → Bool) : Bool := (triF n h).isSome
theorem tri_hit {n x y z : Nat} {h : Nat → Nat → Nat → Bool} (hx : x < n) (hy : y < n) (hz : z < n) (h1 : ∀ j, j < x → tri1 n h j = none) (h2 : ∀ j, j < y → tri2 n h x j = none) (h3 : ∀ j, j < z → tri3 h x y j = none) (h4 : h x y z = true) :
    triL n h = [x, y, z] ∧ triB n h = true := by
  have e : triF n h = some [x, y, z] := fstK_some h1 (fstK_some h2 (fstK_some h3 (by unfold tri3; rw [if_pos h4]) hz) hy) hx
  unfold triL triB
  rw [e]; exact ⟨rfl, rfl⟩
theorem tri_miss {n : Nat} {h : Nat → Nat → Nat → Bool} (h1 : ∀ j, j < n → tri1 n h j = none) : triL n h = [] ∧ triB n h = false := by
  have e : triF n h = none := fstK_none h1
  unfold triL triB
  rw [e]; exact ⟨rfl, rfl⟩
end Go.Proofs.YtbgecpjlopdkfaaDoor
