import Derived.Test.YtlihpalpkdgclaaDoorEngA
import Derived.ScopeJumps
set_option linter.unusedSimpArgs false
set_option linter.unusedVariables false
set_option linter.unusedSectionVars false
namespace Go.Proofs.YtlihpalpkdgclaaDoor
open Go.RowKit
theorem wp_scope_ghost {P : Program} {a : Act} {w : World} {Q : Exit → Act → World → Prop} {c rest : Code} (l : Nat) (J : Nat → Act → World → Prop) (hf : findLabel c l = some rest)
    (first : c.wp P (Exit.jump l (fun a w => ∃ n, J n a w) Q) a w)
    (pass : ∀ n a w, J n a w → rest.wp P (Exit.jump l (fun a' w' => ∃ m, m < n ∧ J m a' w') Q) a w) : (Code.scope c).wp P Q a w := by
  intro b k cs
  have hg : gotoIn l (.inScope c :: k) = some (.code rest :: .inScope c :: k) := by simp [gotoIn, hf]
  have key : ∀ n a w, J n a w → ∃ e a' w', Q e a' w' ∧ Arrives P (lone (b.at a (.code rest :: .inScope c :: k)) cs w) b k cs e a' w' := by
    intro n
    induction n using Nat.strongRecOn with
    | _ n ih =>
      intro a w hJ
      obtain ⟨e, a₁, w₁, hq, harr⟩ := pass n a w hJ b (.inScope c :: k) cs
      cases e with
      | normal => exact ⟨.normal, a₁, w₁, hq, Steps.trans harr (.one step_inScope)⟩
      | exit id => exact ⟨.exit id, a₁, w₁, hq, fun k' hk => harr k' (by simp [exitTo, hk])⟩
      | goto l' =>
        obtain ⟨rfl, m, hlt, hJ'⟩ := hq
        obtain ⟨e₂, a₂, w₂, hq₂, harr₂⟩ := ih m hlt a₁ w₁ hJ'
        exact ⟨e₂, a₂, w₂, hq₂, .of_steps (harr _ hg) harr₂⟩
      | ret => exact ⟨_, a₁, w₁, hq, harr⟩
      | panic ch => exact ⟨_, a₁, w₁, hq, harr⟩
      | outgrown => exact ⟨_, a₁, w₁, hq, harr⟩
  obtain ⟨e, a₁, w₁, hq, harr⟩ := first b (.inScope c :: k) cs
  cases e with
  | normal => exact ⟨.normal, a₁, w₁, hq, .head step_scope (Steps.trans harr (.one step_inScope))⟩
  | exit id => exact ⟨.exit id, a₁, w₁, hq, fun k' hk => .head step_scope (harr k' (by simp [exitTo, hk]))⟩
  | goto l' =>
    obtain ⟨rfl, n, hJ'⟩ := hq
    obtain ⟨e₂, a₂, w₂, hq₂, harr₂⟩ := key n a₁ w₁ hJ'
    exact ⟨e₂, a₂, w₂, hq₂, .of_steps (.head step_scope (harr _ hg)) harr₂⟩
  | ret => exact ⟨_, a₁, w₁, hq, .of_steps (.one step_scope) harr⟩
  | panic ch => exact ⟨_, a₁, w₁, hq, .of_steps (.one step_scope) harr⟩
  | outgrown => exact ⟨_, a₁, w₁, hq, .of_steps (.one step_scope) harr⟩
def jumpA (l : Nat) (K : St → Prop) (Q : Exit → St → Prop) : Exit → St → Prop
  | .goto l', st => l' = l ∧ K st
  | e, st => Q e st
section
variable {P : Program} {k : Nat} {cx : Cx k}
/-- A scope in which the run jumps back to one label: at the label the state is inv x; each pass lowers μ. -/
theorem a_scopeJ [Zs] {c rest : Code} {Q : Exit → St → Prop} {st : St} {X : Type} (l : Nat) (inv : X → St) (I : X → Prop) (μ : X → Nat) (hf : findLabel c l = some rest)
    (first : aC P cx c (jumpA l (fun st => ∃ x σ, I x ∧ st.le (inv x) σ ∧ fixB k σ = true) Q) st)
    (pass : ∀ x, I x → aC P cx rest (jumpA l (fun st => ∃ x' σ, I x' ∧ μ x' < μ x ∧ st.le (inv x') σ ∧ fixB k σ = true) Q) (inv x)) : aC P cx (.scope c) Q st := by
  intro a w hr
  refine wp_scope_ghost l (fun n a w => ∃ x, μ x = n ∧ I x ∧ Rel cx (inv x) a w) hf (wp_mono (first a w hr) ?_) ?_
  · rintro e a' w' ⟨st', q, r⟩
    cases e with
    | goto l' =>
      obtain ⟨rfl, x, σ, h1, h2, h3⟩ := q
      exact ⟨rfl, μ x, x, rfl, h1, r.le h2 h3⟩
    | _ => exact ⟨st', q, r⟩
  · rintro n a w ⟨x, rfl, hI, hr⟩
    refine wp_mono (pass x hI a w hr) ?_
    rintro e a' w' ⟨st', q, r⟩
    cases e with
    | goto l' =>
      obtain ⟨rfl, x', σ, h1, h2, h3, h4⟩ := q
      exact ⟨rfl, μ x', h2, x', rfl, h1, r.le h3 h4⟩
    | _ => exact ⟨st', q, r⟩
/-- The same, where the run comes to the label from above too. -/
theorem a_scopeL [Zs] {c rest : Code} {Q : Exit → St → Prop} {st : St} {X : Type} (l : Nat) (inv : X → St) (I : X → Prop) (μ : X → Nat) (hf : findLabel c l = some (.seq .skip rest))
    (pass : ∀ x, I x → aC P cx rest (jumpA l (fun st => ∃ x' σ, I x' ∧ μ x' < μ x ∧ st.le (inv x') σ ∧ fixB k σ = true) Q) (inv x))
    (first : (∀ st, (∃ x σ, I x ∧ st.le (inv x) σ ∧ fixB k σ = true) → aC P cx rest (jumpA l (fun st => ∃ x σ, I x ∧ st.le (inv x) σ ∧ fixB k σ = true) Q) st) → aC P cx c (jumpA l (fun st => ∃ x σ, I x ∧ st.le (inv x) σ ∧ fixB k σ = true) Q) st) : aC P cx (.scope c) Q st := by
  refine a_scopeJ l inv I μ hf (first ?_) fun x hx => a_seq (a_skip (pass x hx))
  rintro st ⟨x, σ, h1, h2, h3⟩
  refine a_le (inv x) σ h2 h3 (a_mono (pass x h1) ?_)
  intro e st' q
  cases e with
  | goto l' =>
    obtain ⟨rfl, x', σ', q1, _, q3, q4⟩ := q
    exact ⟨rfl, x', σ', q1, q3, q4⟩
  | _ => exact q
end
end Go.Proofs.YtlihpalpkdgclaaDoor
