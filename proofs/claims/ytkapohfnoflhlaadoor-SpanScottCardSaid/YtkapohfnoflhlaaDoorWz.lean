import Derived.Test.YtkapohfnoflhlaaDoorWx
set_option linter.unusedSimpArgs false
set_option linter.unusedVariables false
set_option linter.unusedSectionVars false
set_option maxRecDepth 20000
namespace Go.Proofs.YtkapohfnoflhlaaDoor
attribute [local irreducible] QOp aL aC qL
theorem un_cases {n : Nat} {ns : List Nat} (hn : n ≤ 10) (hv : Vld n ns) (hok : okB n ns = true) : ((unR n ns).isSome = true ∧ unB n ns (unX n ns) 100 = true ∧ (unX n ns).length = n ∧ qdY n (twQ ns) = false ∧ qdY n (thQ ns) = false) ∨ ((unR n ns).isSome = false ∧ unX n ns = [] ∧ (qdY n (twQ ns) = true ∨ qdY n (thQ ns) = true)) := by
  have h := scott hn hv hok
  cases hr : unR n ns with
  | some r =>
    obtain ⟨h1, h2, _⟩ := qdF_all hr
    have h3 := un_right hn hv hok h1 (by simpa using h2)
    have e : unX n ns = (stU n ns (r + 1)).1 := by unfold unX; rw [hr]
    rw [e]
    obtain ⟨h4, h5⟩ := no_un h3
    exact .inl ⟨rfl, h3, (unB_iff.1 h3).1, h4, h5⟩
  | none =>
    rw [hr] at h
    have e : unX n ns = [] := by unfold unX; rw [hr]
    refine .inr ⟨rfl, e, ?_⟩
    cases h1 : qdY n (twQ ns) with
    | true => exact .inl rfl
    | false =>
      cases h2 : qdY n (thQ ns) with
      | true => exact .inr rfl
      | false => rw [h1, h2] at h; cases h
end Go.Proofs.YtkapohfnoflhlaaDoor
