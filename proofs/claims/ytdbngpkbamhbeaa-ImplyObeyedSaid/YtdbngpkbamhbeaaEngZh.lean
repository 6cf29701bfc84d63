import Derived.Test.YtdbngpkbamhbeaaEngZd
import Derived.Test.YtdbngpkbamhbeaaEngZe
import Derived.Laws.Slices
set_option linter.unusedSimpArgs false
set_option linter.unusedVariables false
set_option linter.unusedSectionVars false
namespace Go.Proofs.Ytdbngpkbamhbeaa
open Go.RowKit
section
variable {P : Program} {st : St} {d : Option Tmp} {ty : TypeId} {pos : String} {af : Array Edge} {g : Option (Nat × Bool)}
theorem slT_elem {P : Program} {T e : TypeId} {sz : Nat} (ht : SlT P T e sz) : P.elem T = e ∧ P.underlying T = some (.slice (P.elem T)) := by
  have h : P.elem T = e := by unfold Program.elem; rw [ht.1]
  exact ⟨h, by rw [h]; exact ht.1⟩
end
theorem w_cutM {P : Program} {k : Nat} {cx : Cx k} [Zs] {x : Code} {Q : Exit → St → Prop} {n : Nat} {vars : List (Nat × AV)} {objs : List AO} {X : Type} (keep : List Nat) {vars0 : List (Nat × AV)} (hv : keepv keep vars = vars0) (mv : X → List (Nat × AV)) (ob : X → List AO) (I : X → Prop)
    (h1 : aC P cx x (thenA (fun st => ∃ z σ, I z ∧ st.le ⟨n, mv z ++ vars0, ob z⟩ σ ∧ fixB k σ = true) Q) ⟨n, vars, objs⟩) (h2 : ∀ z, I z → Q .normal ⟨n, mv z ++ vars0, ob z⟩) : aC P cx x Q ⟨n, vars, objs⟩ := by
  have _ := hv
  intro a w hr
  refine wp_mono (h1 a w hr) ?_
  rintro e a' w' ⟨st', q, r⟩
  cases e with
  | normal =>
    obtain ⟨z, σ, hi, hle, hσ⟩ := q
    exact ⟨_, h2 z hi, r.le hle hσ⟩
  | exit id => exact ⟨st', q, r⟩
  | goto l => exact ⟨st', q, r⟩
  | ret => exact ⟨st', q, r⟩
  | panic ch => exact ⟨st', q, r⟩
  | outgrown => exact ⟨st', q, r⟩
end Go.Proofs.Ytdbngpkbamhbeaa
