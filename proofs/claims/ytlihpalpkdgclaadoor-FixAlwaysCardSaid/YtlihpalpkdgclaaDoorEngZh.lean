import Derived.Test.YtlihpalpkdgclaaDoorEngZd
import Derived.Test.YtlihpalpkdgclaaDoorEngT
import Derived.Laws.Slices
set_option linter.unusedSimpArgs false
set_option linter.unusedVariables false
set_option linter.unusedSectionVars false
namespace Go.Proofs.YtlihpalpkdgclaaDoor
open Go.RowKit
section
variable {P : Program} {k : Nat} {cx : Cx k} {ops : Array Oper} {Q : Exit → St → Prop} {st : St} {rest : List Oper} {ty : TypeId} {pos : String} {af : Array Edge}
end
section
variable {P : Program} {k : Nat} {cx : Cx k} {ops : Array Oper} {Q : Exit → St → Prop} {K : St → Prop} {l2 : List Oper} {rest : List Oper} {ty : TypeId} {pos : String} {af : Array Edge} {d nn m n g f i : Nat} {vars : List (Nat × AV)} {objs objs' : List AO} {listed : List Bool} {r : List Nat}
theorem w_lit_e [Zs] {T e : TypeId} {z : Value} {sz by' : Nat} (hsz : 0 < sz) (ht : SlT P T e sz) (hmk : MkT P e z sz by') (ho : objs ++ [.row e sz []] = objs') (hm : objs.length = m) (hd : Nat.blt d nn = true)
    (hk : aL P cx ops Q rest ⟨nn, (d, .own m) :: vars, objs'⟩) : aL P cx ops Q (⟨some d, .buildSlice T 0 #[], ty, pos, af, none⟩ :: rest) ⟨nn, vars, objs⟩ := by
  subst ho; subst hm
  exact l_lit (xs := []) rfl rfl ht hmk hsz (by simp) rfl hd hk
theorem w_ap_natsR [Zs] {T e : TypeId} {x y : Operand} {id : Nat} {l r : List Nat} (hx : (⟨nn, vars, objs⟩ : St).ev x = .own id) (hob : objs[id]? = some (.row e 1 (intc (nl l)))) (hy : (⟨nn, vars, objs⟩ : St).ev y = ints (nl r))
    (ht : SlT P T e 1) (hmk : MkT P e (.int .i64 0) 1 8) (hbig : l.length + r.length ≤ 1000000000) (ho : objs.set id .gone ++ [.row e 1 (intc (nl (l ++ r)))] = objs') (hm : objs.length = m) (hd : Nat.blt d nn = true)
    (hk : aL P cx ops Q rest ⟨nn, (d, .own m) :: vars, objs'⟩) : aL P cx ops Q (⟨some d, .call ⟨.builtin .append, #[x, y], #[T, T]⟩, ty, pos, af, none⟩ :: rest) ⟨nn, vars, objs⟩ := by
  subst ho; subst hm
  exact l_append (cs := intc (nl l)) (cs2 := intc (nl r)) rfl rfl hx hob (.inl hy) ht hmk rfl (intc_len _) (intc_len _) (by decide) (intc_one _) (by decide) (by rw [nl_len, nl_len]; omega) hd (by rw [intc_app, nl_app]; exact hk)
end
end Go.Proofs.YtlihpalpkdgclaaDoor
set_option linter.unusedSimpArgs false
set_option linter.unusedVariables false
set_option linter.unusedSectionVars false
namespace Go.Proofs.YtlihpalpkdgclaaDoor
open Go.RowKit
theorem gm_tup2 {ρ : Ids} {w : World} {M : Nat → Prop} {a b u : Value} (h : Gm ρ w M (.tup [.val a, .val b]) u) : u = .tuple #[a, b] := by
  generalize hav : AV.tup [.val a, .val b] = av at h
  cases h with
  | tup l vs hl h =>
    injection hav with hav
    subst hav
    have hs : vs.size = 2 := hl.symm
    have h0 := (h 0 (.val a) vs[0] rfl (Array.getElem?_eq_getElem (by omega))).val_inv
    have h1 := (h 1 (.val b) vs[1] rfl (Array.getElem?_eq_getElem (by omega))).val_inv
    congr 1
    apply Array.ext
    · exact hs
    · intro i h2 h3
      match i, h2 with
      | 0, _ => exact h0
      | 1, _ => exact h1
      | i + 2, h2 => exact absurd h2 (by omega)
  | _ => cases hav
section
variable {P : Program} {st : St} {ty : TypeId} {pos : String} {af : Array Edge}
theorem Q_callT2 {d : Option Tmp} {g : Operand} {xs : Array Operand} {ats : Array TypeId} {f : FuncId} {caps args : List AV} {x y : Value} {objs' : List AO} (hf : Callee' st g f caps) (hc : AC P f args [] (.tup [.val x, .val y]) objs') (hv : VwL st.objs [] (evs st xs ++ caps) args) {gd : Option (Nat × Bool)} :
    QOp P ⟨d, .call ⟨.value g, xs, ats⟩, ty, pos, af, gd⟩ st (.tup [.val x, .val y]) := by
  intro _ ρ w a hb
  refine ⟨.tuple #[x, y], .tup _ _ rfl (fun i av v h1 h2 => ?_), fun w1 hw => ?_⟩
  · match i, h1, h2 with
    | 0, h1, h2 => injection h1 with h1; injection h2 with h2; subst h1; subst h2; exact .val _
    | 1, h1, h2 => injection h1 with h1; injection h2 with h2; subst h1; subst h2; exact .val _
    | i + 2, h1, h2 => simp at h1
  have hb1 := hb.mono hw
  obtain ⟨cs, h1, h2, h3⟩ := callee_val hb1 hf
  have ho : VwOs st.objs [] [] := ⟨rfl, List.nodup_nil, fun id' o' h => by simp at h⟩
  obtain ⟨h4, h5⟩ := args_gm hb1 h2 h3 ho hv
  unfold Oper.quietAt
  rw [exec_call hc.1 h1]
  refine ⟨rfl, (hc.2 (reId ρ []) w1 _ (hb1.good.view ho) h4 h5).mono ?_⟩
  rintro e w' ⟨u, ρ', rfl, hs, _, hg, _, _⟩
  have hsm := hs.below (fun x _ ⟨id, h⟩ => by obtain ⟨o, l, h6, _⟩ := h; simp at h6)
  rw [gm_tup2 hg]
  exact ⟨rfl, hw.trans (hsm.mono hw.size)⟩
end
end Go.Proofs.YtlihpalpkdgclaaDoor
set_option linter.unusedSimpArgs false
set_option linter.unusedVariables false
set_option linter.unusedSectionVars false
namespace Go.Proofs.YtlihpalpkdgclaaDoor
open Go.RowKit
section
variable {P : Program} {st : St} {d : Option Tmp} {ty : TypeId} {pos : String} {af : Array Edge} {g : Option (Nat × Bool)}
end
theorem w_cutM {P : Program} {k : Nat} {cx : Cx k} [Zs] {x : Code} {Q : Exit → St → Prop} {n : Nat} {vars : List (Nat × AV)} {objs : List AO} {X : Type} (keep : List Nat) {vars0 : List (Nat × AV)} (hv : keepv keep vars = vars0) (mv : X → List (Nat × AV)) (ob : X → List AO) (I : X → Prop)
    (h1 : aC P cx x (thenA (fun st => ∃ z σ, I z ∧ st.le ⟨n, mv z ++ vars0, ob z⟩ σ ∧ fixB k σ = true) Q) ⟨n, vars, objs⟩) (h2 : ∀ z, I z → Q .normal ⟨n, mv z ++ vars0, ob z⟩) : aC P cx x Q ⟨n, vars, objs⟩ := by
  have _ := hv
  intro a w hr
  refine wp_mono (h1 a w hr) ?_
  rintro e a' w' ⟨st', q, r⟩
  cases e with
  | normal =>
    obtain ⟨z, σ, hi, hle, hσ⟩ := q
    exact ⟨_, h2 z hi, r.le hle hσ⟩
  | exit id => exact ⟨st', q, r⟩
  | goto l => exact ⟨st', q, r⟩
  | ret => exact ⟨st', q, r⟩
  | panic ch => exact ⟨st', q, r⟩
  | outgrown => exact ⟨st', q, r⟩
end Go.Proofs.YtlihpalpkdgclaaDoor
