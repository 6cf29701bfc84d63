import Derived.Test.YtgojkabjgagjcaaDoorEngT
set_option linter.unusedSimpArgs false
set_option linter.unusedVariables false
set_option linter.unusedSectionVars false
namespace Go.Proofs.YtgojkabjgagjcaaDoor
open Go.RowKit
def frm (l : List AO) : List AO := l.map fun o => match o with | .box _ => .gone | o => o
def thaw : List AO → List AO → List AO
  | o :: l, o' :: l' => (match o with | .box c => .box c | _ => o') :: thaw l l'
  | [], l' => l'
  | _ :: _, [] => []
/-- A block of a box. -/
def BX (ρ : Ids) (objs : List AO) (b : Nat) : Prop := ∃ id c, objs[id]? = some (.box c) ∧ foot ρ objs id b
def SF (ρ : Ids) (objs : List AO) (w w1 : World) : Prop := ∀ b, BX ρ objs b → w1.heap[b]? = w.heap[b]?
theorem SatO.weak {ρ : Ids} {w : World} {M M' : Nat → Prop} {id : Nat} {o : AO} (hM : ∀ b, M' b → M b) (h : SatO ρ w M id o) : SatO ρ w M' id o := by
  have hs := Same.refl M w
  cases o with
  | gone => trivial
  | mat e e' m => exact h
  | mp m => exact h
  | row e sz cs =>
    obtain ⟨v, n, us, h1, h2, h3, h4⟩ := h
    refine ⟨v, n, us, h1, h2, h3, fun i d hi => ?_⟩
    obtain ⟨u, hu, hr⟩ := h4 i d hi
    exact ⟨u, hu, hr.mono hs fun b _ hb => hM b hb⟩
  | box cs =>
    obtain ⟨b, arr, T, h1, h2, h3, h4⟩ := h
    refine ⟨b, arr, T, h1, h2, h3, fun i av hi => ?_⟩
    obtain ⟨v, hv, hg⟩ := h4 i av hi
    exact ⟨v, hv, hg.mono hs (fun b _ hb => hM b hb) fun _ _ h => h⟩
section
variable {P : Program} {k : Nat} {cx : Cx k} {ops : Array Oper} {st : St} {K : St → Prop} {S : World → Prop}
/-- What is left, told by listed, with the boxes at hand. -/
def hL [Zs] (P : Program) {k : Nat} (cx : Cx k) (ops : Array Oper) (K : St → Prop) (f : Nat) (listed : List Bool) (st : St) : Prop :=
  ∀ (ρ : Ids) (w : World) (a : Act), RelB ρ w st a → (∀ id b, foot ρ st.objs id b → b < cx.w0.heap.size → cx.M0 b) → (∀ (id : Nat) l, cx.ρ0[id]? = some l → ρ[id]? = some l) → Same cx.M0 cx.w0 w →
    wpAnyH P .any ops (lift cx (ThenK K)) (SF ρ st.objs w) f listed.toArray a w
def FOp (P : Program) (o : Oper) (st : St) (av : AV) : Prop :=
  ∀ (_ : Zs) (ρ : Ids) (w : World) (a : Act), RelB ρ w st a → ∃ v, Gm ρ w (Ban ρ st.objs) av v ∧ ∀ w1, SF ρ st.objs w w1 → (execOp a.eval o).run P w1 = .ok (.value v) w1
def POp (P : Program) (o : Oper) (st : St) (av : AV) : Prop :=
  ∀ (_ : Zs) (ρ : Ids) (w : World) (a : Act), RelB ρ w st a → ∃ v, Gm ρ w (Ban ρ st.objs) av v ∧ ∀ w1, (execOp a.eval o).run P w1 = .ok (.value v) w1
theorem POp.f {o : Oper} {av : AV} (h : POp P o st av) : FOp P o st av := fun zs ρ w a hb => by
  obtain ⟨v, h1, h2⟩ := h zs ρ w a hb
  exact ⟨v, h1, fun w1 _ => h2 w1⟩
/-- What is left, the boxes set aside. -/
def xH [Zs] (P : Program) {k : Nat} (cx : Cx k) (ops : Array Oper) (K : St → Prop) (S : World → Prop) (f : Nat) (listed : List Bool) (st : St) : Prop :=
  (∀ w, Same cx.M0 cx.w0 w → S w) → ∀ a w, Rel cx st a w → wpAnyH P .any ops (lift cx (ThenK K)) S f listed.toArray a w
def xHQ [Zs] (P : Program) {k : Nat} (cx : Cx k) (ops : Array Oper) (K : St → Prop) (S : World → Prop) (f : Nat) (listed : List Bool) : Exit → St → Prop
  | .normal, st => xH P cx ops K S f listed st
  | _, _ => False
def xHAll [Zs] (P : Program) {k : Nat} (cx : Cx k) (ops : Array Oper) (K : St → Prop) (S : World → Prop) (f : Nat) (listed : List Bool) (st : St) : List Nat → Prop
  | [] => True
  | i :: r => (∃ o, ops[i]? = some o ∧ aL P cx ops (xHQ P cx ops K S f (listed.set i true)) [o] st) ∧ xHAll P cx ops K S f listed st r
/-- What is banned within: what was banned, and the boxes. -/
abbrev zsB (zs : Zs) (ρ : Ids) (objs : List AO) : Zs := ⟨fun b => zs.z b ∨ BX ρ objs b⟩
/-! Laws. -/
variable {ty : TypeId} {pos : String} {af : Array Edge} {d : Option Tmp} {g : Option (Nat × Bool)} {T : TypeId} {x : Operand}
theorem P_move {av : AV} (hx : st.ev x = av) : POp P ⟨d, .move x, ty, pos, af, g⟩ st av := fun _ _ _ a hb => ⟨a.eval x, hx ▸ hb.ev x, fun _ => rfl⟩
theorem P_assign {av : AV} (hx : st.ev x = av) : POp P ⟨d, .assign x, ty, pos, af, g⟩ st av := fun _ _ _ a hb => ⟨a.eval x, hx ▸ hb.ev x, fun _ => rfl⟩
theorem P_extract {i : Nat} {l : List AV} {av : AV} (hx : st.ev x = .tup l) (hi : l[i]? = some av) : POp P ⟨d, .extract x i, ty, pos, af, g⟩ st av := fun _ ρ w a hr => by
  have h := hr.ev x
  rw [hx] at h
  obtain ⟨vs, he, hl, hvs⟩ := h.tup_inv
  have hlt : i < vs.size := by rw [← hl]; exact (List.getElem?_eq_some_iff.1 hi).1
  refine ⟨vs[i], hvs i av _ hi (Array.getElem?_eq_getElem hlt), fun w1 => ?_⟩
  simp [execOp, he, Instr.extract, hlt]
end
/-! On states that stand written out. -/
end Go.Proofs.YtgojkabjgagjcaaDoor
