import Derived.Test.YtfjpgficpdbelaaEngT
set_option linter.unusedSimpArgs false
set_option linter.unusedVariables false
set_option linter.unusedSectionVars false
namespace Go.Proofs.Ytfjpgficpdbelaa
open Go.RowKit
theorem gm_tup2 {ρ : Ids} {w : World} {M : Nat → Prop} {a b u : Value} (h : Gm ρ w M (.tup [.val a, .val b]) u) : u = .tuple #[a, b] := by
  generalize hav : AV.tup [.val a, .val b] = av at h
  cases h with
  | tup l vs hl h =>
    injection hav with hav
    subst hav
    have hs : vs.size = 2 := hl.symm
    have h0 := (h 0 (.val a) vs[0] rfl (Array.getElem?_eq_getElem (by omega))).val_inv
    have h1 := (h 1 (.val b) vs[1] rfl (Array.getElem?_eq_getElem (by omega))).val_inv
    congr 1
    apply Array.ext
    · exact hs
    · intro i h2 h3
      match i, h2 with
      | 0, _ => exact h0
      | 1, _ => exact h1
      | i + 2, h2 => exact absurd h2 (by omega)
  | _ => cases hav
section
variable {P : Program} {st : St} {ty : TypeId} {pos : String} {af : Array Edge}
theorem Q_callT2 {d : Option Tmp} {g : Operand} {xs : Array Operand} {ats : Array TypeId} {f : FuncId} {caps args : List AV} {x y : Value} {objs' : List AO} (hf : Callee' st g f caps) (hc : AC P f args [] (.tup [.val x, .val y]) objs') (hv : VwL st.objs [] (evs st xs ++ caps) args) {gd : Option (Nat × Bool)} :
    QOp P ⟨d, .call ⟨.value g, xs, ats⟩, ty, pos, af, gd⟩ st (.tup [.val x, .val y]) := by
  intro _ ρ w a hb
  refine ⟨.tuple #[x, y], .tup _ _ rfl (fun i av v h1 h2 => ?_), fun w1 hw => ?_⟩
  · match i, h1, h2 with
    | 0, h1, h2 => injection h1 with h1; injection h2 with h2; subst h1; subst h2; exact .val _
    | 1, h1, h2 => injection h1 with h1; injection h2 with h2; subst h1; subst h2; exact .val _
    | i + 2, h1, h2 => simp at h1
  have hb1 := hb.mono hw
  obtain ⟨cs, h1, h2, h3⟩ := callee_val hb1 hf
  have ho : VwOs st.objs [] [] := ⟨rfl, List.nodup_nil, fun id' o' h => by simp at h⟩
  obtain ⟨h4, h5⟩ := args_gm hb1 h2 h3 ho hv
  unfold Oper.quietAt
  rw [exec_call hc.1 h1]
  refine ⟨rfl, (hc.2 (reId ρ []) w1 _ (hb1.good.view ho) h4 h5).mono ?_⟩
  rintro e w' ⟨u, ρ', rfl, hs, _, hg, _, _⟩
  have hsm := hs.below (fun x _ ⟨id, h⟩ => by obtain ⟨o, l, h6, _⟩ := h; simp at h6)
  rw [gm_tup2 hg]
  exact ⟨rfl, hw.trans (hsm.mono hw.size)⟩
end
end Go.Proofs.Ytfjpgficpdbelaa
