/- What is wrong with lists of weights: the program's word and the reference's. -/
import Derived.Test.YtkbcbahpcnemmaaFm
set_option linter.unusedSimpArgs false
set_option linter.unusedVariables false
set_option linter.unusedSectionVars false
set_option maxRecDepth 20000
namespace Go.Proofs.Ytkbcbahpcnemmaa
attribute [local irreducible] QOp aL aC qL
def badLen (n : Nat) (f : List Int) : Bool := decide ((f.length : Int) ≠ ((2 ^ n : Nat) : Int))
def badW (w : Int) : Bool := decide (w < 0) || decide (w > 1000)
def wchk (N : Int) (ls : List (List Int)) : Int := if N < 0 ∨ 6 < N then 2 else if ls.any (badLen N.toNat) = true then 1 else if ls.any (fun f => f.any badW) = true then 3 else 0

/-! The reference. -/
theorem wchk_form {n : Nat} (hn : n ≤ 6) {ls : List (List Int)} {i : Nat} (hi : i < ls.length) (h : badLen n (ls.getD i []) = true) : wchk n ls = 1 := by
  rw [wchk, if_neg (by omega), Int.toNat_natCast, if_pos (List.any_eq_true.2 ⟨ls[i], List.getElem_mem hi, by rw [← getD_of hi []]; exact h⟩)]
theorem wchk_not {n : Nat} (hn : n ≤ 6) {ls : List (List Int)} (h : ∀ i, i < ls.length → badLen n (ls.getD i []) = false) : wchk n ls = if ls.any (fun f => f.any badW) = true then 3 else 0 := by
  rw [wchk, if_neg (by omega), Int.toNat_natCast, if_neg]
  rw [List.any_eq_false.2 (fun f hfm => by
    obtain ⟨i, hi, rfl⟩ := List.getElem_of_mem hfm
    rw [← getD_of hi [], h i hi]
    decide)]
  decide
/-- Is one of the first k bad. -/
def anyTo {α : Type} (p : α → Bool) (l : List α) (k : Nat) : Bool := (l.take k).any p
theorem anyTo_succ {α : Type} (p : α → Bool) (l : List α) (k : Nat) (hk : k < l.length) (z : α) : anyTo p l (k + 1) = (anyTo p l k || p (l.getD k z)) := by
  unfold anyTo
  rw [List.take_add_one, List.any_append, List.getElem?_eq_getElem hk, getD_of hk]
  simp
theorem anyTo_all {α : Type} (p : α → Bool) (l : List α) : anyTo p l l.length = l.any p := by unfold anyTo; rw [List.take_length]

end Go.Proofs.Ytkbcbahpcnemmaa
