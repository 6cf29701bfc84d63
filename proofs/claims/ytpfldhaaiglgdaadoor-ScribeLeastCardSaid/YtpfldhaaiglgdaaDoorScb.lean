import Derived.Test.YtpfldhaaiglgdaaDoorSca
import Derived.Test.YtpfldhaaiglgdaaDoorGf
set_option linter.unusedSimpArgs false
set_option linter.unusedVariables false
set_option linter.unusedSectionVars false
set_option maxRecDepth 20000
namespace Go.Proofs.YtpfldhaaiglgdaaDoor
attribute [local irreducible] QOp aL aC qL
theorem dgS_size (n : Nat) : (dgS n).size ≤ 2 := by
  unfold dgS
  split
  · exact Nat.le_succ 1
  · exact Nat.le_refl 2
/-- What is printed of pairs. -/
def prS (n : Nat) (l : List (Nat × Nat)) (k : Nat) : ByteArray := (l.take k).foldl (fun s p => s ++ (ByteArray.mk #[32] ++ dgS p.1 ++ ByteArray.mk #[60] ++ dgS p.2)) (dgS n ++ ByteArray.mk #[58])
theorem prS_succ (n : Nat) (l : List (Nat × Nat)) (k : Nat) (hk : k < l.length) : prS n l (k + 1) = prS n l k ++ (ByteArray.mk #[32] ++ dgS (l.getD k (0, 0)).1 ++ ByteArray.mk #[60] ++ dgS (l.getD k (0, 0)).2) := by
  unfold prS
  rw [List.take_add_one, List.foldl_append, List.getElem?_eq_getElem hk, List.getD_eq_getElem?_getD, List.getElem?_eq_getElem hk]
  rfl
theorem prS_size (n : Nat) (l : List (Nat × Nat)) : ∀ k, k ≤ l.length → (prS n l k).size ≤ 3 + 6 * k
  | 0, _ => by
    have := dgS_size n
    show (dgS n ++ ByteArray.mk #[58]).size ≤ _
    rw [ByteArray.size_append]
    have : (ByteArray.mk #[58]).size = 1 := rfl
    omega
  | k + 1, hk => by
    have ih := prS_size n l k (by omega)
    rw [prS_succ n l k (by omega)]
    have h1 := dgS_size (l.getD k (0, 0)).1
    have h2 := dgS_size (l.getD k (0, 0)).2
    simp only [ByteArray.size_append]
    have e1 : (ByteArray.mk #[32]).size = 1 := rfl
    have e2 : (ByteArray.mk #[60]).size = 1 := rfl
    omega
end Go.Proofs.YtpfldhaaiglgdaaDoor
