/- Irreducible elements: both words. -/
import Derived.Test.YtdieojemgkfklaaDoorJg
import Derived.Test.YtdieojemgkfklaaDoorIv
import Derived.Test.YtdieojemgkfklaaDoorEngZg
set_option linter.unusedSimpArgs false
set_option linter.unusedVariables false
set_option maxRecDepth 20000
namespace Go.Proofs.YtdieojemgkfklaaDoor
attribute [local irreducible] QOp aL aC qL
/-- The irreducible ones of the first k. -/
def irT (n : Nat) (M : List (List Nat)) (k : Nat) : List Nat := (List.range k).filter fun x => decide (nc (fun y => decide (CovP n (ta M) x y)) n = 1)
theorem irT_succ (n : Nat) (M : List (List Nat)) (k : Nat) : irT n M (k + 1) = irT n M k ++ (if nc (fun y => decide (CovP n (ta M) k y)) n = 1 then [k] else []) := by
  unfold irT
  rw [List.range_succ, List.filter_append]
  congr 1
  by_cases h : nc (fun y => decide (CovP n (ta M) k y)) n = 1
  · simp only [List.filter_cons, List.filter_nil, h, decide_true, if_true]
  · simp only [List.filter_cons, List.filter_nil, h, decide_false, if_false, Bool.false_eq_true]
theorem irT_len (n : Nat) (M : List (List Nat)) (k : Nat) : (irT n M k).length ≤ k := by
  unfold irT
  have := List.length_filter_le (fun x => decide (nc (fun y => decide (CovP n (ta M) x y)) n = 1)) (List.range k)
  rw [List.length_range] at this
  exact this
theorem irT_mem {n k : Nat} {M : List (List Nat)} {i : Nat} (hi : i < (irT n M k).length) : (irT n M k).getD i 0 < k := by
  rw [getD_of hi]
  exact List.mem_range.1 (List.mem_filter.1 (List.getElem_mem hi)).1
/-- A lattice, told by its tables. -/
structure La (n : Nat) (M J : List (List Nat)) : Prop where
  n1 : 1 ≤ n
  n2 : n ≤ 40
  sM : Sq n M
  sJ : Sq n J
  A : Lt n (ta M) (ta J)
end Go.Proofs.YtdieojemgkfklaaDoor
