import Derived.Test.YtbgecpjlopdkfaaDoorIp
set_option linter.unusedSimpArgs false
set_option linter.unusedVariables false
set_option linter.unusedSectionVars false
set_option maxRecDepth 20000
namespace Go.Proofs.YtbgecpjlopdkfaaDoor
attribute [local irreducible] QOp aL aC qL
/-- The join of the first so many elements whose meet with x is y, or below it. -/
def impF (f g : Nat → Nat → Nat) (low x y : Nat) : Nat → Nat
  | 0 => low
  | k + 1 => if f (f k x) y = f k x then g (impF f g low x y k) k else impF f g low x y k
def DisP (n : Nat) (f g : Nat → Nat → Nat) : Prop := ∀ x y z, x < n → y < n → z < n → f x (g y z) = g (f x y) (f x z)
section
variable {n : Nat} {f g : Nat → Nat → Nat} (L : Lt n f g) (h0 : 0 < n)
include L h0
theorem impF_lt {x y : Nat} : ∀ k, k ≤ n → impF f g (endE f n) x y k < n
  | 0, _ => endE_lt L.fl n (Nat.le_refl n) h0
  | k + 1, hk => by
    have ih := impF_lt (x := x) (y := y) k (by omega)
    rw [impF]
    split
    · exact L.gl _ _ ih (by omega)
    · exact ih
variable (hd : DisP n f g)
include hd
end
/-- The table of all. -/
def impR (f g : Nat → Nat → Nat) (low n x k : Nat) : List Nat := (List.range k).map fun y => impF f g low x y n
def impT (f g : Nat → Nat → Nat) (low n k : Nat) : List (List Nat) := (List.range k).map fun x => impR f g low n x n
theorem impR_succ (f g : Nat → Nat → Nat) (low n x k : Nat) : impR f g low n x (k + 1) = impR f g low n x k ++ [impF f g low x k n] := by
  unfold impR; rw [List.range_succ, List.map_append]; rfl
theorem impT_succ (f g : Nat → Nat → Nat) (low n k : Nat) : impT f g low n (k + 1) = impT f g low n k ++ [impR f g low n k n] := by
  unfold impT; rw [List.range_succ, List.map_append]; rfl
theorem impR_len (f g : Nat → Nat → Nat) (low n x k : Nat) : (impR f g low n x k).length = k := by simp [impR]
theorem impT_len (f g : Nat → Nat → Nat) (low n k : Nat) : (impT f g low n k).length = k := by simp [impT]
theorem impT_ta {f g : Nat → Nat → Nat} {low n x y : Nat} (hx : x < n) (hy : y < n) : ta (impT f g low n n) x y = impF f g low x y n := by
  unfold ta impT impR
  rw [List.getD_eq_getElem?_getD, List.getD_eq_getElem?_getD, List.getElem?_map, List.getElem?_range hx]
  simp [hy]
theorem impT_sq {n : Nat} {f g : Nat → Nat → Nat} (L : Lt n f g) (h0 : 0 < n) : Sq n (impT f g (endE f n) n n) := by
  refine ⟨impT_len _ _ _ _ _, fun x hx => ?_, fun x y hx hy => ?_⟩
  · unfold impT
    rw [List.getD_eq_getElem?_getD, List.getElem?_map, List.getElem?_range hx]
    exact impR_len _ _ _ _ _ _
  · rw [impT_ta hx hy]; exact impF_lt L h0 n (Nat.le_refl n)
end Go.Proofs.YtbgecpjlopdkfaaDoor
