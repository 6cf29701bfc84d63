import Derived.Test.YtpfldhaaiglgdaaDoorIp
set_option linter.unusedSimpArgs false
set_option linter.unusedVariables false
set_option linter.unusedSectionVars false
set_option maxRecDepth 20000
namespace Go.Proofs.YtpfldhaaiglgdaaDoor
attribute [local irreducible] QOp aL aC qL
/-- What is below what, among the first n numbers. -/
structure PoN (n : Nat) (le : Nat → Nat → Bool) : Prop where
  rf : ∀ x, x < n → le x x = true
  tr : ∀ x y z, x < n → y < n → z < n → le x y = true → le y z = true → le x z = true
  an : ∀ x y, x < n → y < n → le x y = true → le y x = true → x = y
theorem cqN_mono {p q : Nat → Bool} : ∀ {k : Nat}, (∀ i, i < k → p i = true → q i = true) → cqN p k ≤ cqN q k
  | 0, _ => Nat.le_refl _
  | k + 1, h => by
    have ih := cqN_mono (p := p) (q := q) (k := k) fun i hi => h i (by omega)
    have h1 := h k (by omega)
    rw [cqN, cqN]
    by_cases hp : p k = true
    · rw [if_pos hp, if_pos (h1 hp)]; omega
    · rw [if_neg hp]; split <;> omega
theorem cqN_lt {p q : Nat → Bool} : ∀ {k x : Nat}, (∀ i, i < k → p i = true → q i = true) → x < k → p x = false → q x = true → cqN p k < cqN q k
  | 0, x, _, hx, _, _ => by omega
  | k + 1, x, h, hx, h1, h2 => by
    have hm := cqN_mono (p := p) (q := q) (k := k) fun i hi => h i (by omega)
    rw [cqN, cqN]
    by_cases e : x = k
    · subst e
      rw [if_neg (by rw [h1]; decide), if_pos h2]; omega
    · have ih := cqN_lt (p := p) (q := q) (k := k) (x := x) (fun i hi => h i (by omega)) (by omega) h1 h2
      by_cases hp : p k = true
      · rw [if_pos hp, if_pos (h k (by omega) hp)]; omega
      · rw [if_neg hp]; split <;> omega
/-- How many are above, itself too. -/
def upC (le : Nat → Nat → Bool) (n x : Nat) : Nat := cqN (le x) n
def itR (F : Nat → Nat) : Nat → Nat → Nat
  | 0, x => x
  | k + 1, x => F (itR F k x)
/-- The map goes from n points to n points, and is monotone. -/
structure MnR (n : Nat) (le : Nat → Nat → Bool) (F : Nat → Nat) : Prop where
  ml : ∀ x, x < n → F x < n
  mm : ∀ x y, x < n → y < n → le x y = true → le (F x) (F y) = true
/-- The least one that stays. -/
structure LsF (n : Nat) (le : Nat → Nat → Bool) (F : Nat → Nat) (x : Nat) : Prop where
  sl : x < n
  sf : F x = x
  sm : ∀ c, c < n → F c = c → le x c = true
theorem LsF.one {n : Nat} {le : Nat → Nat → Bool} {F : Nat → Nat} (hp : PoN n le) {x y : Nat} (h : LsF n le F x) (h' : LsF n le F y) : x = y :=
  hp.an x y h.sl h'.sl (h.sm y h'.sl h'.sf) (h'.sm x h.sl h.sf)
/-- What is below what in a lattice, or turned over. -/
def leT (M : List (List Nat)) (h : Bool) (x y : Nat) : Bool := match h with
  | true => decide (ta M y x = y)
  | false => decide (ta M x y = x)
/-- The map is monotone, in a lattice. -/
def LmP (n : Nat) (M : List (List Nat)) (F : List Nat) : Prop := ∀ x, x < n → ∀ y, y < n → ta M x y = x → ta M (F.getD x 0) (F.getD y 0) = F.getD x 0
instance (n : Nat) (M : List (List Nat)) (F : List Nat) : Decidable (LmP n M F) := by unfold LmP; infer_instance
/-- The end at which one begins. -/
def enT (M J : List (List Nat)) (n : Nat) : Bool → Nat
  | false => endE (ta M) n
  | true => endE (ta J) n
end Go.Proofs.YtpfldhaaiglgdaaDoor
