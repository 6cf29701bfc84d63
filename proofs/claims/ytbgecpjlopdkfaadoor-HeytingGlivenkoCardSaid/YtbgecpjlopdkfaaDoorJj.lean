import Derived.Test.YtbgecpjlopdkfaaDoorJh
import Derived.Test.YtbgecpjlopdkfaaDoorIs
set_option linter.unusedSimpArgs false
set_option linter.unusedVariables false
set_option linter.unusedSectionVars false
set_option maxRecDepth 20000
namespace Go.Proofs.YtbgecpjlopdkfaaDoor
attribute [local irreducible] QOp aL aC qL
theorem la_of {N : Int} {m w : List (List Int)} (h : lck N m w = 0) : ∃ n M J, N = ((n : Nat) : Int) ∧ m = tn M ∧ w = tn J ∧ La n M J := by
  obtain ⟨n, M, J, rfl, rfl, rfl, a1, a2, a3, a4, a5⟩ := lck_zero h
  exact ⟨n, M, J, rfl, rfl, rfl, a1, a2, a3, a4, lt_of a3 a4 a5⟩
theorem La.zero {n : Nat} {M J : List (List Nat)} (h : La n M J) : lck n (tn M) (tn J) = 0 := by
  rw [lck_tn h.n1 h.n2 h.sM h.sJ, if_pos]
  unfold lawB
  rw [Bool.and_eq_true, decide_eq_true_eq, decide_eq_true_eq]
  exact ⟨h.A.lf, h.A.lg⟩
theorem len_tn {n : Nat} {M : List (List Nat)} (h : Sq n M) (hn : n ≤ 40) : (tn M).length ≤ 9223372036854775807 := by rw [tn_len, h.len]; omega
theorem row_tn {n : Nat} {M : List (List Nat)} (h : Sq n M) (hn : n ≤ 40) : ∀ r ∈ tn M, r.length ≤ 9223372036854775807 := fun r hr => by
  obtain ⟨i, hi, rfl⟩ := List.getElem_of_mem hr
  have e : (tn M)[i] = (tn M).getD i [] := by rw [List.getD_eq_getElem?_getD, List.getElem?_eq_getElem hi]; rfl
  rw [e, tn_get, nl_len]
  rw [tn_len, h.len] at hi
  rw [h.row i hi]; omega
theorem La.chk {n : Nat} {M J : List (List Nat)} (h : La n M J) : AC Tryd.prog 129 [latA n (tn M) (tn J)] [] (.val (.int .i64 0)) [] := by
  have := LCheck_ac n (tn M) (tn J) (len_tn h.sM h.n2) (len_tn h.sJ h.n2) (row_tn h.sM h.n2) (row_tn h.sJ h.n2)
  rw [h.zero] at this
  exact this
/-- The numbers of the irreducible ones that are x, or below it, of the first k. -/
def psT (n : Nat) (M : List (List Nat)) (x : Nat) : Nat → Nat
  | 0 => 0
  | k + 1 => if ta M ((irT n M n).getD k 0) x = (irT n M n).getD k 0 then psT n M x k + 2 ^ k else psT n M x k
end Go.Proofs.YtbgecpjlopdkfaaDoor
