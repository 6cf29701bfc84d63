/- The reference's LatticeOf, of elements of which each two have a greatest one below them and a least one above them. -/
import Derived.Test.YtdieojemgkfklaaDoorJi
import Derived.Test.YtdieojemgkfklaaDoorJf
import Derived.Test.YtdieojemgkfklaaDoorJo
import Derived.Test.YtdieojemgkfklaaDoorEngZm
set_option linter.unusedSimpArgs false
set_option linter.unusedVariables false
set_option maxRecDepth 20000
namespace Go.Proofs.YtdieojemgkfklaaDoor
attribute [local irreducible] QOp aL aC qL
attribute [local irreducible] FOp POp hL xH zL
def glB (n : Nat) (u : Nat → Nat → Bool) (x y z : Nat) : Bool := (u z x && u z y) && acc (fun w => !u w x || !u w y || u w z) n
def luB (n : Nat) (u : Nat → Nat → Bool) (x y z : Nat) : Bool := (u x z && u y z) && acc (fun w => !u x w || !u y w || u z w) n
/-- The last one found of the first k, where there is but one, c. -/
def lsI (c k : Nat) : Int := if c < k then (c : Int) else -1
theorem lsI_hit {c k : Nat} (h : k = c) : lsI c (k + 1) = (k : Int) := by unfold lsI; rw [if_pos (by omega), h]
theorem lsI_miss {c k : Nat} (h : k ≠ c) : lsI c (k + 1) = lsI c k := by unfold lsI; split <;> split <;> first | rfl | omega
def rwT (f : Nat → Nat → Nat) (x k : Nat) : List Nat := (List.range k).map (f x)
theorem rwT_succ (f : Nat → Nat → Nat) (x k : Nat) : rwT f x (k + 1) = rwT f x k ++ [f x k] := by unfold rwT; rw [List.range_succ, List.map_append]; rfl
theorem rwT_len (f : Nat → Nat → Nat) (x k : Nat) : (rwT f x k).length = k := by simp [rwT]
def tbT (n : Nat) (f : Nat → Nat → Nat) (i : Nat) : List (List Nat) := (List.range i).map fun x => rwT f x n
theorem tbT_succ (n : Nat) (f : Nat → Nat → Nat) (i : Nat) : tn (tbT n f (i + 1)) = tn (tbT n f i) ++ [nl (rwT f i n)] := by unfold tbT tn; rw [List.range_succ, List.map_append, List.map_append]; rfl
theorem tbT_len (n : Nat) (f : Nat → Nat → Nat) (i : Nat) : (tn (tbT n f i)).length = i := by simp [tbT, tn]
theorem tab_eq {S : List Nat} {J : Nat → Nat → Nat} (h : ∀ i j, i < S.length → j < S.length → plc S (J (S.getD i 0) (S.getD j 0)) = ((plN S (J (S.getD i 0) (S.getD j 0)) : Nat) : Int)) :
    mtab S J S.length = tn (tbT S.length (fun x y => plN S (J (S.getD x 0) (S.getD y 0))) S.length) := by
  unfold mtab mrow tn tbT rwT nl
  rw [List.take_length, map_getD, List.map_map]
  refine List.map_congr_left fun x hx => ?_
  have hx := List.mem_range.1 hx
  show List.map _ _ = List.map _ (List.map _ _)
  rw [map_getD, List.map_map]
  refine List.map_congr_left fun y hy => ?_
  exact h x y hx (List.mem_range.1 hy)
theorem four_cases (s a b c : Bool) : (s = false ∧ (s && (!a || !b || c)) = false) ∨ (s = true ∧ a = false ∧ (s && (!a || !b || c)) = true) ∨ (s = true ∧ a = true ∧ b = false ∧ (s && (!a || !b || c)) = true) ∨ (s = true ∧ a = true ∧ b = true ∧ (s && (!a || !b || c)) = c) := by
  cases s <;> cases a <;> cases b <;> simp
/-- Have each two a meet and a join. -/
def ltOk (n : Nat) (f g : Nat → Nat → Nat) : Bool := (List.range n).all fun x => (List.range n).all fun y => decide (f x y < n) && decide (g x y < n)
theorem ltOk_iff {n : Nat} {f g : Nat → Nat → Nat} : ltOk n f g = true ↔ ∀ x, x < n → ∀ y, y < n → f x y < n ∧ g x y < n := by
  unfold ltOk
  simp only [List.all_eq_true, List.mem_range, Bool.and_eq_true, decide_eq_true_eq]
def ltR (b : Bool) (n : Nat) (m w : List (List Int)) : AV := .tup [.agg [.val (.int .i64 ((bif b then n else 0 : Nat) : Int)), rows (bif b then m else []), rows (bif b then w else [])], .val (.bool (b && decide ((n : Int) > 0)))]
end Go.Proofs.YtdieojemgkfklaaDoor
