import Derived.Test.YtjepdcfiogjmgaaJi
import Derived.Test.YtjepdcfiogjmgaaJf
import Derived.Test.YtjepdcfiogjmgaaJo
import Derived.Test.YtjepdcfiogjmgaaEngZm
set_option linter.unusedSimpArgs false
set_option linter.unusedVariables false
set_option maxRecDepth 20000
namespace Go.Proofs.Ytjepdcfiogjmgaa
attribute [local irreducible] QOp aL aC qL
attribute [local irreducible] FOp POp hL xH zL
def glB (n : Nat) (u : Nat → Nat → Bool) (x y z : Nat) : Bool := (u z x && u z y) && acc (fun w => !u w x || !u w y || u w z) n
def luB (n : Nat) (u : Nat → Nat → Bool) (x y z : Nat) : Bool := (u x z && u y z) && acc (fun w => !u x w || !u y w || u z w) n
/-- The last one found of the first k, where there is but one, c. -/
def lsI (c k : Nat) : Int := if c < k then (c : Int) else -1
def rwT (f : Nat → Nat → Nat) (x k : Nat) : List Nat := (List.range k).map (f x)
theorem rwT_len (f : Nat → Nat → Nat) (x k : Nat) : (rwT f x k).length = k := by simp [rwT]
def tbT (n : Nat) (f : Nat → Nat → Nat) (i : Nat) : List (List Nat) := (List.range i).map fun x => rwT f x n
theorem tab_eq {S : List Nat} {J : Nat → Nat → Nat} (h : ∀ i j, i < S.length → j < S.length → plc S (J (S.getD i 0) (S.getD j 0)) = ((plN S (J (S.getD i 0) (S.getD j 0)) : Nat) : Int)) :
    mtab S J S.length = tn (tbT S.length (fun x y => plN S (J (S.getD x 0) (S.getD y 0))) S.length) := by
  unfold mtab mrow tn tbT rwT nl
  rw [List.take_length, map_getD, List.map_map]
  refine List.map_congr_left fun x hx => ?_
  have hx := List.mem_range.1 hx
  show List.map _ _ = List.map _ (List.map _ _)
  rw [map_getD, List.map_map]
  refine List.map_congr_left fun y hy => ?_
  exact h x y hx (List.mem_range.1 hy)
/-- Have each two a meet and a join. -/
def ltOk (n : Nat) (f g : Nat → Nat → Nat) : Bool := (List.range n).all fun x => (List.range n).all fun y => decide (f x y < n) && decide (g x y < n)
def ltR (b : Bool) (n : Nat) (m w : List (List Int)) : AV := .tup [.agg [.val (.int .i64 ((bif b then n else 0 : Nat) : Int)), rows (bif b then m else []), rows (bif b then w else [])], .val (.bool (b && decide ((n : Int) > 0)))]
end Go.Proofs.Ytjepdcfiogjmgaa
