import Derived.Test.YtlihpalpkdgclaaDoorIp
import Derived.Test.YtlihpalpkdgclaaDoorIv
import Derived.Test.YtlihpalpkdgclaaDoorEngZg
import Derived.Test.YtlihpalpkdgclaaDoorIs
set_option linter.unusedSimpArgs false
set_option linter.unusedVariables false
set_option linter.unusedSectionVars false
set_option maxRecDepth 20000
namespace Go.Proofs.YtlihpalpkdgclaaDoor
attribute [local irreducible] QOp aL aC qL
/-- How many of the first k. -/
def nc (p : Nat → Bool) : Nat → Nat
  | 0 => 0
  | k + 1 => if p k = true then nc p k + 1 else nc p k
/-- What is below x, and not x, taken together, as far as k. -/
def jnT (f g : Nat → Nat → Nat) (low x : Nat) : Nat → Nat
  | 0 => low
  | k + 1 => if k ≠ x ∧ f k x = k then g (jnT f g low x k) k else jnT f g low x k
/-- Does x cover y. -/
def CovP (n : Nat) (f : Nat → Nat → Nat) (x y : Nat) : Prop := (y ≠ x ∧ f y x = y) ∧ ∀ z, z < n → z = x ∨ z = y ∨ f y z ≠ y ∨ f z x ≠ z
instance (n : Nat) (f : Nat → Nat → Nat) (x y : Nat) : Decidable (CovP n f x y) := by unfold CovP; infer_instance
/-- From y up, as long as it is below x. -/
def upT (f : Nat → Nat → Nat) (x y : Nat) : Nat → Nat
  | 0 => y
  | k + 1 => if f (upT f x y k) k = upT f x y k ∧ k ≠ x ∧ f k x = k then k else upT f x y k
section
variable {n : Nat} {f g : Nat → Nat → Nat} (L : Lt n f g)
include L
end
end Go.Proofs.YtlihpalpkdgclaaDoor
set_option linter.unusedSimpArgs false
set_option linter.unusedVariables false
set_option linter.unusedSectionVars false
set_option maxRecDepth 20000
namespace Go.Proofs.YtlihpalpkdgclaaDoor
attribute [local irreducible] QOp aL aC qL
/-- The irreducible ones of the first k. -/
def irT (n : Nat) (M : List (List Nat)) (k : Nat) : List Nat := (List.range k).filter fun x => decide (nc (fun y => decide (CovP n (ta M) x y)) n = 1)
/-- A lattice, told by its tables. -/
structure La (n : Nat) (M J : List (List Nat)) : Prop where
  n1 : 1 ≤ n
  n2 : n ≤ 40
  sM : Sq n M
  sJ : Sq n J
  A : Lt n (ta M) (ta J)
end Go.Proofs.YtlihpalpkdgclaaDoor
set_option linter.unusedSimpArgs false
set_option linter.unusedVariables false
set_option linter.unusedSectionVars false
set_option maxRecDepth 20000
namespace Go.Proofs.YtlihpalpkdgclaaDoor
attribute [local irreducible] QOp aL aC qL
theorem La.zero {n : Nat} {M J : List (List Nat)} (h : La n M J) : lck n (tn M) (tn J) = 0 := by
  rw [lck_tn h.n1 h.n2 h.sM h.sJ, if_pos]
  unfold lawB
  rw [Bool.and_eq_true, decide_eq_true_eq, decide_eq_true_eq]
  exact ⟨h.A.lf, h.A.lg⟩
theorem len_tn {n : Nat} {M : List (List Nat)} (h : Sq n M) (hn : n ≤ 40) : (tn M).length ≤ 9223372036854775807 := by rw [tn_len, h.len]; omega
theorem row_tn {n : Nat} {M : List (List Nat)} (h : Sq n M) (hn : n ≤ 40) : ∀ r ∈ tn M, r.length ≤ 9223372036854775807 := fun r hr => by
  obtain ⟨i, hi, rfl⟩ := List.getElem_of_mem hr
  have e : (tn M)[i] = (tn M).getD i [] := by rw [List.getD_eq_getElem?_getD, List.getElem?_eq_getElem hi]; rfl
  rw [e, tn_get, nl_len]
  rw [tn_len, h.len] at hi
  rw [h.row i hi]; omega
theorem La.chk {n : Nat} {M J : List (List Nat)} (h : La n M J) : AC Tryd.prog 85 [latA n (tn M) (tn J)] [] (.val (.int .i64 0)) [] := by
  have := LCheck_ac n (tn M) (tn J) (len_tn h.sM h.n2) (len_tn h.sJ h.n2) (row_tn h.sM h.n2) (row_tn h.sJ h.n2)
  rw [h.zero] at this
  exact this
/-- The numbers of the irreducible ones that are x, or below it, of the first k. -/
def psT (n : Nat) (M : List (List Nat)) (x : Nat) : Nat → Nat
  | 0 => 0
  | k + 1 => if ta M ((irT n M n).getD k 0) x = (irT n M n).getD k 0 then psT n M x k + 2 ^ k else psT n M x k
end Go.Proofs.YtlihpalpkdgclaaDoor
