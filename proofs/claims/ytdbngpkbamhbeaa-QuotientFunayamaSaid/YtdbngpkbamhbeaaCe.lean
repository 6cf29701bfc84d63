import Derived.Test.YtdbngpkbamhbeaaCd
import Derived.Test.YtdbngpkbamhbeaaEngZzc
import Derived.Test.YtdbngpkbamhbeaaEngZf
set_option linter.unusedSimpArgs false
set_option linter.unusedVariables false
set_option linter.unusedSectionVars false
set_option maxRecDepth 20000
namespace Go.Proofs.Ytdbngpkbamhbeaa
attribute [local irreducible] QOp aL aC qL
/-- Which pairs: those of classes, and one more. -/
def RC (n : Nat) (c : List Nat) (x y : Nat) (a b : Nat) : Prop := (a < n ∧ b < n ∧ c.getD a 0 = c.getD b 0) ∨ (a = x ∧ b = y)
theorem LI.start {n : Nat} {f g : Nat → Nat → Nat} {c : List Nat} {x y : Nat} (hl : c.length = n) (hlt : ∀ i, i < n → c.getD i 0 < n) (hx : x < n) (hy : y < n) : LI n f g (RC n c x y) (rlN (c.getD x 0) (c.getD y 0) c) where
  len := by rw [rlN_len]; exact hl
  lt := fun i hi => rlN_lt (n := n) (hlt x hx) (fun i hi => hlt i (by omega)) i (by rw [rlN_len]; omega)
  has := fun a b h => by
    rcases h with ⟨ha, hb, e⟩ | ⟨rfl, rfl⟩
    · exact rlN_keep (by omega) (by omega) e
    · exact rlN_join (by omega) (by omega)
  least := fun d hd hR a ha b hb e => by
    have key : ∀ u v, u < n → v < n → c.getD u 0 = c.getD v 0 → d.getD u 0 = d.getD v 0 := fun u v hu hv h => hR u v (.inl ⟨hu, hv, h⟩)
    have hxy : d.getD x 0 = d.getD y 0 := hR x y (.inr ⟨rfl, rfl⟩)
    rcases rlN_split (by omega) (by omega) e with h | ⟨h1, h2⟩ | ⟨h1, h2⟩
    · exact key a b ha hb h
    · exact ((key a x ha hx h1).trans hxy).trans (key y b hy hb h2.symm)
    · exact ((key a y ha hy h1).trans hxy.symm).trans (key x b hx hb h2.symm)
/-- How far a pass is. -/
structure PIc (n : Nat) (f g : Nat → Nat → Nat) (R : Nat → Nat → Prop) (cs : List Nat) (D : Prop) (c : List Nat) (ag : Bool) : Prop where
  li : LI n f g R c
  no : ag = false → c = cs ∧ D
  yes : ag = true → clsN n c < clsN n cs
theorem PIc.to {n : Nat} {f g : Nat → Nat → Nat} {R : Nat → Nat → Prop} {cs : List Nat} {D D' : Prop} {c : List Nat} {ag : Bool} (h : PIc n f g R cs D c ag) (hd : c = cs → D → D') : PIc n f g R cs D' c ag :=
  ⟨h.li, fun e => ⟨(h.no e).1, hd (h.no e).1 (h.no e).2⟩, h.yes⟩
theorem PIc.le {n : Nat} {f g : Nat → Nat → Nat} {R : Nat → Nat → Prop} {cs : List Nat} {D : Prop} {c : List Nat} {ag : Bool} (h : PIc n f g R cs D c ag) : clsN n c ≤ clsN n cs := by
  cases ag with
  | false => rw [(h.no rfl).1]; exact Nat.le_refl _
  | true => exact Nat.le_of_lt (h.yes rfl)
theorem PIc.merge {n : Nat} {f g : Nat → Nat → Nat} {R : Nat → Nat → Prop} {cs : List Nat} {D D' : Prop} {c : List Nat} {ag : Bool} (h : PIc n f g R cs D c ag) (hR : ∀ x y, R x y → x < n ∧ y < n) {a b : Nat} (ha : a < n) (hb : b < n) (hne : c.getD a 0 ≠ c.getD b 0)
    (hab : ∀ d : List Nat, Cpt n f g d → (∀ x y, R x y → d.getD x 0 = d.getD y 0) → d.getD a 0 = d.getD b 0) : PIc n f g R cs D' (rlN (c.getD a 0) (c.getD b 0) c) true := by
  have hl := h.li.len
  refine ⟨h.li.merge hR ha hb hab, fun e => (by cases e), fun _ => ?_⟩
  exact Nat.lt_of_lt_of_le (clsN_rl (getD_mem0 (by omega)) (getD_mem0 (by omega)) (h.li.lt b hb) hne) h.le
abbrev okA (n : Nat) (f g : Nat → Nat → Nat) (c : List Nat) (a b : Nat) : Prop := c.getD a 0 = c.getD b 0 → ∀ z, z < n → okz f g c a b z
attribute [local irreducible] FOp POp hL xH
end Go.Proofs.Ytdbngpkbamhbeaa
