import Derived.Test.YtkackilhfkicoaaDoorRk
import Derived.Test.YtkackilhfkicoaaDoorKa
import Derived.Test.YtkackilhfkicoaaDoorQu
import Derived.Test.YtkackilhfkicoaaDoorFg
import Derived.Test.YtkackilhfkicoaaDoorFhb
import Derived.Test.YtkackilhfkicoaaDoorFo
import Derived.Test.YtkackilhfkicoaaDoorRa
set_option linter.unusedSimpArgs false
set_option linter.unusedVariables false
set_option linter.unusedSectionVars false
set_option maxRecDepth 20000
namespace Go.Proofs.YtkackilhfkicoaaDoor
attribute [local irreducible] QOp aL aC qL
attribute [local irreducible] FOp POp hL xH zL
def vlT (S : List Nat) (n : Int) (m : Nat) : Int := sumI (fun k => (onT S k : Int) * bn n k) m
/-! Zeta. -/
def ztT (l : List Nat) (z : Int) (m : Nat) : Int := sumI (fun k => (l.getD (k + 1) 0 : Int) * bn (z - 2) k) m
def ztN (n : Nat) (ns : List Nat) (z : Int) : Int := ztT (cntC n ns (2 ^ n)) z ((cntC n ns (2 ^ n)).length - 1)
theorem cnt_len {n : Nat} {ns : List Nat} : 1 ≤ (cntC n ns (2 ^ n)).length ∧ (cntC n ns (2 ^ n)).length ≤ n + 1 := by
  rw [cntL_len]
  have := lenC_ge (n := n) (ns := ns) chB_zero (2 ^ n) (Nat.pow_pos (by decide))
  exact ⟨by omega, lenC_le _⟩
end Go.Proofs.YtkackilhfkicoaaDoor
