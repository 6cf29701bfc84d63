import Derived.Test.YtbgecpjlopdkfaaDoorIv
import Derived.Test.YtbgecpjlopdkfaaDoorEngT
import Derived.Test.YtbgecpjlopdkfaaDoorHed
set_option linter.unusedSimpArgs false
set_option linter.unusedVariables false
set_option linter.unusedSectionVars false
set_option maxRecDepth 20000
namespace Go.Proofs.YtbgecpjlopdkfaaDoor
attribute [local irreducible] QOp aL aC qL
/-- The first of the first k of which f tells something. -/
def fstK {α : Type} (f : Nat → Option α) : Nat → Option α
  | 0 => none
  | k + 1 => match fstK f k with
    | some a => some a
    | none => f k
theorem fstK_none {α : Type} {f : Nat → Option α} : ∀ {k : Nat}, (∀ i, i < k → f i = none) → fstK f k = none
  | 0, _ => rfl
  | k + 1, h => by rw [fstK, fstK_none fun i hi => h i (by omega)]; exact h k (by omega)
theorem fstK_some {α : Type} {f : Nat → Option α} {i : Nat} {a : α} (h1 : ∀ j, j < i → f j = none) (h2 : f i = some a) : ∀ {k : Nat}, i < k → fstK f k = some a
  | k + 1, h => by
    by_cases hik : i = k
    · subst hik
      rw [fstK, fstK_none h1]; exact h2
    · rw [fstK, fstK_some h1 h2 (by omega)]
theorem fstK_iff {α : Type} {f : Nat → Option α} : ∀ {k : Nat}, fstK f k = none ↔ ∀ i, i < k → f i = none
  | 0 => ⟨fun _ i hi => by omega, fun _ => rfl⟩
  | k + 1 => by
    refine ⟨fun h i hi => ?_, fstK_none⟩
    rw [fstK] at h
    cases hf : fstK f k with
    | some a => rw [hf] at h; cases h
    | none =>
      rw [hf] at h
      by_cases hik : i = k
      · subst hik; exact h
      · exact fstK_iff.1 hf i (by omega)
def tri3 (h : Nat → Nat → Nat → Bool) (x y z : Nat) : Option (List Nat) := if h x y z = true then some [x, y, z] else none
def tri2 (n : Nat) (h : Nat → Nat → Nat → Bool) (x y : Nat) : Option (List Nat) := fstK (tri3 h x y) n
def tri1 (n : Nat) (h : Nat → Nat → Nat → Bool) (x : Nat) : Option (List Nat) := fstK (tri2 n h x) n
def triF (n : Nat) (h : Nat → Nat → Nat → Bool) : Option (List Nat) := fstK (tri1 n h) n
def triL (n : Nat) (h : Nat → Nat → Nat → Bool) : List Nat := (triF n h).getD []
def triB (n : Nat) (h : Nat → Nat → Nat → Bool) : Bool := (triF n h).isSome
theorem tri_hit {n x y z : Nat} {h : Nat → Nat → Nat → Bool} (hx : x < n) (hy : y < n) (hz : z < n) (h1 : ∀ j, j < x → tri1 n h j = none) (h2 : ∀ j, j < y → tri2 n h x j = none) (h3 : ∀ j, j < z → tri3 h x y j = none) (h4 : h x y z = true) :
    triL n h = [x, y, z] ∧ triB n h = true := by
  have e : triF n h = some [x, y, z] := fstK_some h1 (fstK_some h2 (fstK_some h3 (by unfold tri3; rw [if_pos h4]) hz) hy) hx
  unfold triL triB
  rw [e]; exact ⟨rfl, rfl⟩
theorem tri_miss {n : Nat} {h : Nat → Nat → Nat → Bool} (h1 : ∀ j, j < n → tri1 n h j = none) : triL n h = [] ∧ triB n h = false := by
  have e : triF n h = none := fstK_none h1
  unfold triL triB
  rw [e]; exact ⟨rfl, rfl⟩
theorem triB_iff {n : Nat} {h : Nat → Nat → Nat → Bool} : triB n h = false ↔ ∀ x y z, x < n → y < n → z < n → h x y z = false := by
  have e : triB n h = false ↔ triF n h = none := by unfold triB; cases triF n h <;> simp
  rw [e]
  unfold triF tri1 tri2
  rw [fstK_iff]
  constructor
  · intro h1 x y z hx hy hz
    have := fstK_iff.1 (fstK_iff.1 (h1 x hx) y hy) z hz
    unfold tri3 at this
    cases hq : h x y z
    · rfl
    · rw [hq, if_pos rfl] at this; cases this
  · intro h1 x hx
    refine fstK_none fun y hy => fstK_none fun z hz => ?_
    unfold tri3
    rw [h1 x y z hx hy hz, if_neg (by decide)]
end Go.Proofs.YtbgecpjlopdkfaaDoor
set_option linter.unusedSimpArgs false
set_option linter.unusedVariables false
set_option linter.unusedSectionVars false
set_option maxRecDepth 20000
namespace Go.Proofs.YtbgecpjlopdkfaaDoor
attribute [local irreducible] QOp aL aC qL
/-- How many of the first k. -/
def nc (p : Nat → Bool) : Nat → Nat
  | 0 => 0
  | k + 1 => if p k = true then nc p k + 1 else nc p k
/-- What is below x, and not x, taken together, as far as k. -/
def jnT (f g : Nat → Nat → Nat) (low x : Nat) : Nat → Nat
  | 0 => low
  | k + 1 => if k ≠ x ∧ f k x = k then g (jnT f g low x k) k else jnT f g low x k
/-- Does x cover y. -/
def CovP (n : Nat) (f : Nat → Nat → Nat) (x y : Nat) : Prop := (y ≠ x ∧ f y x = y) ∧ ∀ z, z < n → z = x ∨ z = y ∨ f y z ≠ y ∨ f z x ≠ z
instance (n : Nat) (f : Nat → Nat → Nat) (x y : Nat) : Decidable (CovP n f x y) := by unfold CovP; infer_instance
/-- From y up, as long as it is below x. -/
def upT (f : Nat → Nat → Nat) (x y : Nat) : Nat → Nat
  | 0 => y
  | k + 1 => if f (upT f x y k) k = upT f x y k ∧ k ≠ x ∧ f k x = k then k else upT f x y k
section
variable {n : Nat} {f g : Nat → Nat → Nat} (L : Lt n f g)
include L
end
end Go.Proofs.YtbgecpjlopdkfaaDoor
set_option linter.unusedSimpArgs false
set_option linter.unusedVariables false
set_option linter.unusedSectionVars false
set_option maxRecDepth 20000
namespace Go.Proofs.YtbgecpjlopdkfaaDoor
attribute [local irreducible] QOp aL aC qL
/-- The irreducible ones of the first k. -/
def irT (n : Nat) (M : List (List Nat)) (k : Nat) : List Nat := (List.range k).filter fun x => decide (nc (fun y => decide (CovP n (ta M) x y)) n = 1)
/-- A lattice, told by its tables. -/
structure La (n : Nat) (M J : List (List Nat)) : Prop where
  n1 : 1 ≤ n
  n2 : n ≤ 40
  sM : Sq n M
  sJ : Sq n J
  A : Lt n (ta M) (ta J)
end Go.Proofs.YtbgecpjlopdkfaaDoor
