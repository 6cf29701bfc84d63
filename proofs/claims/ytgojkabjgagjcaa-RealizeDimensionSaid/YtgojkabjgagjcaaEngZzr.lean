import Derived.Test.YtgojkabjgagjcaaEngZq
import Derived.Test.YtgojkabjgagjcaaEngZd
import Derived.Test.YtgojkabjgagjcaaCd
import Derived.Test.YtgojkabjgagjcaaEngZzq
import Derived.OrdersIn
import Derived.Laws.Slices
set_option linter.unusedSimpArgs false
set_option linter.unusedVariables false
set_option linter.unusedSectionVars false
namespace Go.Proofs.Ytgojkabjgagjcaa
open Go.RowKit
theorem op_in {ro : Option Nat} {n : Nat} {P : Program} {ops : Array Oper} {Q Q' : Exit → Act → World → Prop} (hq : ¬ LetsOut Q) (D : List Deferred) (hQp : ∀ c a w, Q (.panic c) a w → Q' (.panic c) (apD a D) w)
    (hnd : ∀ (i : Nat) (o : Oper), ops[i]? = some o → ∀ c, o.op ≠ .defer c) {K K' : Act → World → Prop} (hK : ∀ a w, K a w → K' (apD a D) w) {i : Nat} {a : Act} {w : World} (h : wpOp P ops Q i K a w) : wpOpIn (Fr ro) n P ops Q' i K' (apD a D) w := by
  unfold wpOp at h
  unfold wpOpIn
  cases ho : ops[i]? with
  | none => rw [ho] at h; exact hK _ _ h
  | some o =>
    rw [ho] at h
    dsimp only at h ⊢
    show if Region.wanted o (yielded ops a.tmps) = true then _ else _
    split at h
    · rename_i hw
      rw [if_pos hw]
      rcases h with h | ⟨_, h⟩
      · refine ⟨fun _ _ => trivial, ?_⟩
        rw [Oper.semAt_eq _ _ _ (hnd i o ho)]
        exact upon_in hq hK hQp h
      · exact absurd h hq
    · rename_i hw
      rw [if_neg hw]
      refine ⟨fun _ _ => trivial, ?_⟩
      have := hK _ _ h
      rw [apD_put] at this
      exact this
theorem any_in {ro : Option Nat} {n : Nat} {P : Program} {md : Region.Mode} {ops : Array Oper} {Q Q' : Exit → Act → World → Prop} (hq : ¬ LetsOut Q) (D : List Deferred) (hQn : ∀ a w, Q .normal a w → Q' .normal (apD a D) w) (hQp : ∀ c a w, Q (.panic c) a w → Q' (.panic c) (apD a D) w)
    (hnd : ∀ (i : Nat) (o : Oper), ops[i]? = some o → ∀ c, o.op ≠ .defer c) : ∀ (f : Nat) (listed : Array Bool) (a : Act) (w : World), wpAny P md ops Q f listed a w → wpAnyIn (Fr ro) n P md ops Q' f listed (apD a D) w
  | 0, _, _, _, h => ⟨h.1, hQn _ _ h.2⟩
  | f + 1, listed, _, _, h => ⟨fun h0 => hQn _ _ (h.1 h0), fun i hi => op_in hq D hQp hnd (fun a w h => any_in hq D hQn hQp hnd f _ a w h) (h.2 i hi)⟩
theorem noD_get {l : List Oper} (h : noD l = true) (i : Nat) (o : Oper) (ho : l.toArray[i]? = some o) : ∀ c, o.op ≠ .defer c := by
  rw [List.getElem?_toArray] at ho
  exact noD_spec h o (List.mem_of_getElem? ho)
theorem r_holdRN [Zs] {P : Program} {k : Nat} {cx : Cx k} {ln : Nat} {st : St} {id : Nat} {l : List Oper} {n : Nat} {Q : Exit → St → Prop} (hm : P.follows .mixedOrders = true) (hn : l.length = n) (hd : noD l = true) (h : rL P cx l.toArray (fun st => Q .normal st) n (List.replicate n false) st) : aR P cx ln (.region id l.toArray true) Q st := by
  subst hn
  intro a w hr
  have hr2 := hr.mono (w' := { w with drawn := w.drawn + 1 }) ⟨rfl, rfl, rfl, Nat.le_refl _, fun _ _ => rfl⟩
  obtain ⟨ρ, hb, hf, h0⟩ := hr2.base
  refine wpIn_region_any hm ?_
  have h1 := wpAny_of_held _ _ _ _ (h ρ _ a hb hf h0 hr2.same)
  have h2 := any_in (ro := some ln) (n := 0) (Q' := lift cx Q) (no_out fun _ h => h) [] (fun a w ⟨st', q, r⟩ => (by rw [apD_nil]; exact ⟨st', q, r⟩)) (fun c a w ⟨_, q, _⟩ => q.elim) (noD_get hd) _ _ _ _ h1
  rw [apD_nil] at h2
  simpa using h2
end Go.Proofs.Ytgojkabjgagjcaa
