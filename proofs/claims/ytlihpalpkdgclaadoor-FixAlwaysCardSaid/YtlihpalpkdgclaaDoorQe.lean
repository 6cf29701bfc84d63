import Derived.Test.YtlihpalpkdgclaaDoorKa
import Derived.Test.YtlihpalpkdgclaaDoorGr
import Derived.Test.YtlihpalpkdgclaaDoorFkb
import Derived.Test.YtlihpalpkdgclaaDoorEngZh
import Derived.Test.YtlihpalpkdgclaaDoorFi
set_option linter.unusedSimpArgs false
set_option linter.unusedVariables false
set_option linter.unusedSectionVars false
set_option maxRecDepth 20000
namespace Go.Proofs.YtlihpalpkdgclaaDoor
attribute [local irreducible] QOp aL aC qL
theorem mbs_rise {s i j : Nat} (hij : i < j) (hj : j < (mbs s).length) : (mbs s).getD i 0 < (mbs s).getD j 0 := by
  have h := (List.pairwise_lt_range (n := 10)).filter s.testBit
  rw [List.pairwise_iff_getElem] at h
  have hj' : j < (List.filter s.testBit (List.range 10)).length := hj
  have := h i j (Nat.lt_trans hij hj') hj' hij
  unfold mbs
  rw [List.getD_eq_getElem?_getD, List.getD_eq_getElem?_getD, List.getElem?_eq_getElem (Nat.lt_trans hij hj'), List.getElem?_eq_getElem hj']
  exact this
theorem mbs_get {s i : Nat} (hi : i < (mbs s).length) : (mbs s).getD i 0 < 10 ∧ s.testBit ((mbs s).getD i 0) = true := by
  have hi' : i < (List.filter s.testBit (List.range 10)).length := hi
  have := List.mem_filter.1 (List.getElem_mem hi')
  unfold mbs
  rw [List.getD_eq_getElem?_getD, List.getElem?_eq_getElem hi']
  exact ⟨List.mem_range.1 this.1, this.2⟩
/-- Two points stand above one another, or not. -/
def cmp (ns : List Nat) (a b : Nat) : Bool := lt ns a b || lt ns b a
def cnB (ns : List Nat) (c : Bool) (s : Nat) : Bool := (List.range (mbs s).length).all fun i => (List.range i).all fun j => cmp ns ((mbs s).getD i 0) ((mbs s).getD j 0) == c
end Go.Proofs.YtlihpalpkdgclaaDoor
