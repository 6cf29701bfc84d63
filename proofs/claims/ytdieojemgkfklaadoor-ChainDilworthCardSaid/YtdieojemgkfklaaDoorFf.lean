/- The order that pairs of points come to: the program's own. -/
import Derived.Test.YtdieojemgkfklaaDoorFe
set_option linter.unusedSimpArgs false
set_option linter.unusedVariables false
set_option maxRecDepth 20000
namespace Go.Proofs.YtdieojemgkfklaaDoor
attribute [local irreducible] QOp aL aC qL
def stA (l : List (Nat × Nat)) (i : Nat) (ns : List Nat) : List Nat := ns.set (l.getD i (0, 0)).2 (ns.getD (l.getD i (0, 0)).2 0 ||| 2 ^ (l.getD i (0, 0)).1)
def stB (k b : Nat) (ns : List Nat) : List Nat := if lt ns k b = true then ns.set b (ns.getD b 0 ||| ns.getD k 0) else ns
def rowB (n k : Nat) (ns : List Nat) : List Nat := iterN n (stB k) ns
def clos (n : Nat) (l : List (Nat × Nat)) : List Nat := iterN n (rowB n) (iterN l.length (stA l) (List.replicate n 0))
def irr (n : Nat) (ns : List Nat) : Bool := (List.range n).all fun b => !lt ns b b

theorem stA_vld {n i : Nat} {l : List (Nat × Nat)} {ns : List Nat} (hl : ∀ p ∈ l, p.1 < n ∧ p.2 < n) (hi : i < l.length) (h : Vld n ns) : Vld n (stA l i ns) := by
  refine h.set (Nat.or_lt_two_pow (h.get _) (Nat.pow_lt_pow_right (by decide) ?_))
  rw [List.getD_eq_getElem?_getD, List.getElem?_eq_getElem hi]
  exact (hl _ (List.getElem_mem hi)).1
theorem stB_vld {n k b : Nat} {ns : List Nat} (h : Vld n ns) : Vld n (stB k b ns) := by
  unfold stB
  split
  · exact h.set (Nat.or_lt_two_pow (h.get _) (h.get _))
  · exact h
theorem rowB_vld {n k b : Nat} {ns : List Nat} (h : Vld n ns) : Vld n (iterN b (stB k) ns) := iterN_inv b h fun _ _ _ h => stB_vld h

end Go.Proofs.YtdieojemgkfklaaDoor
