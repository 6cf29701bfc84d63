import Derived.Test.YtkapohfnoflhlaaDoorEngZr
set_option linter.unusedSimpArgs false
set_option linter.unusedVariables false
set_option linter.unusedSectionVars false
namespace Go.Proofs.YtkapohfnoflhlaaDoor
open Go.RowKit
/-- What holds of the loop that is handed values, whatever the function itself does. -/
structure Gh [zs : Zs] (P : Program) {α : Type} (L : List α) (enc : α → AV) {k : Nat} (cx : Cx k) where
  l : Nat
  M : Nat → Prop
  JJ : List α × Bool → World → Prop
  mz : ∀ b, M b → zs.z b
  mt : ∀ p, p ∈ Tab → ¬ M p.1
  m0 : ∀ b, cx.M0 b ↔ M b
  st : ∀ g W W' Mi, (∀ b, Mi b → cx.w0.heap.size ≤ b) → cx.w0.heap.size ≤ W.heap.size → Same Mi W W' → JJ g W → JJ g W'
  yl : ∀ pre x W v, pre ++ [x] <+: L → JJ (pre, false) W → cx.w0.heap.size ≤ W.heap.size → Good [] W [] → Gm [] W (Ban [] []) (enc x) v →
      YieldAt Fence.wide 0 P l #[v] W fun e W' => (e = .returned (.bool true) ∧ Same M W W' ∧ JJ (pre ++ [x], false) W') ∨ (e = .returned (.bool false) ∧ Same M W W' ∧ JJ (pre ++ [x], true) W')
def aJ [Zs] {P : Program} {α : Type} {L : List α} {enc : α → AV} {k : Nat} {cx : Cx k} (G : Gh P L enc cx) (c : Code) (Q : Exit → St → List α × Bool → Prop) (st : St) (g : List α × Bool) : Prop :=
  ∀ a w, Rel cx st a w → G.JJ g w → c.wp P (fun e a' w' => ∃ st' g', Q e st' g' ∧ Rel cx st' a' w' ∧ G.JJ g' w') a w
def thenJ {α : Type} (K : St → List α × Bool → Prop) (Q : Exit → St → List α × Bool → Prop) : Exit → St → List α × Bool → Prop
  | .normal, st, g => K st g
  | e, st, g => Q e st g
def blockJ {α : Type} (id : Nat) (Q : Exit → St → List α × Bool → Prop) : Exit → St → List α × Bool → Prop
  | .exit id', st, g => bif Nat.beq id' id then Q .normal st g else Q (.exit id') st g
  | e, st, g => Q e st g
section
variable {P : Program} {α : Type} {L : List α} {enc : α → AV} {k : Nat}
variable {Q : Exit → St → List α × Bool → Prop} {st : St} {g : List α × Bool}
end
def retJ {α : Type} (L : List α) : Exit → St → List α × Bool → Prop
  | .normal, _, g => g = (L, false) ∨ (g.2 = true ∧ g.1 <+: L)
  | .ret, _, g => g = (L, false) ∨ (g.2 = true ∧ g.1 <+: L)
  | _, _, _ => False
theorem IterC.mk {P : Program} {gm : FuncId} {fn : Func} {c : Code} {n : Nat} {caps : List AV} {α : Type} {enc : α → AV} {L : List α}
    (hf : P.funcs[gm]? = some fn) (hnm : (fn.name == "runtime.NumGoroutine") = false) (hb : fn.body = some c) (hn : fn.ntmps = n) (hle' : Nat.ble (caps.length + 1) n = true) (hr : fn.results = ([] : List ResultVar).toArray) (hro : roL caps = true)
    (h : ∀ [Zs] (cx : Cx 0) (G : Gh P L enc cx), aJ G c (retJ L) ⟨n, argv 0 (.val (.func (.yield G.l) #[] #[]) :: caps), []⟩ ([], false)) : IterC P gm caps enc L := by
  refine ⟨⟨fn, hf, hnm, by rw [hb]; rfl⟩, ?_⟩
  have hle : caps.length + 1 ≤ n := Nat.le_of_ble_eq_true hle'
  intro zs l M J Jx w vs hMz hMt hg hJ hJx hY h0 hsz hargs
  refine calls_of_wp hf hb ?_
  have hrel : Rel (⟨w, M, [], rfl⟩ : Cx 0) ⟨n, argv 0 (.val (.func (.yield l) #[] #[]) :: caps), []⟩ { tmps := #[Value.func (.yield l) #[] #[]] ++ vs ++ Array.replicate (fn.ntmps - (#[Value.func (.yield l) #[] #[]] ++ vs).size) undef, defers := [] } w := by
    refine ⟨⟨[], ⟨fun t => ?_, by simp; omega, rfl, hg⟩, fun id b ⟨o, l, h, _⟩ _ => by simp at h, fun _ _ h => h⟩, Same.refl _ _⟩
    show Gm [] w (Ban [] []) (getv (argv 0 (.val (.func (.yield l) #[] #[]) :: caps)) t) _
    rw [getv_argv, if_pos (Nat.zero_le _), Nat.sub_zero]
    cases t with
    | zero =>
      have e : (#[Value.func (.yield l) #[] #[]] ++ vs ++ Array.replicate (fn.ntmps - (#[Value.func (.yield l) #[] #[]] ++ vs).size) undef).getD 0 undef = .func (.yield l) #[] #[] := by simp [Array.getElem?_append]
      rw [e]
      exact .val _
    | succ t =>
      by_cases ht : t < caps.length
      · have h1 : caps[t]? = some caps[t] := List.getElem?_eq_getElem ht
        have ht' : t < vs.size := by omega
        have h2 : vs[t]? = some vs[t] := Array.getElem?_eq_getElem ht'
        have h3 : (#[Value.func (.yield l) #[] #[]] ++ vs ++ Array.replicate (fn.ntmps - (#[Value.func (.yield l) #[] #[]] ++ vs).size) undef).getD (t + 1) undef = vs[t] := by
          have : t + 1 < 1 + vs.size := by omega
          simp [Array.getElem?_append, ht', this]
        rw [h3]
        simp only [List.getD_eq_getElem?_getD, List.getElem?_cons_succ, h1, Option.getD_some]
        exact hargs t _ _ h1 h2
      · have : (AV.val (.func (.yield l) #[] #[]) :: caps).getD (t + 1) AV.any = .any := by simp; rw [List.getElem?_eq_none (by omega)]; rfl
        rw [this]
        exact .any _
  obtain ⟨G, hGl, hGJ⟩ : ∃ G : Gh P L enc (⟨w, M, [], rfl⟩ : Cx 0), G.l = l ∧ G.JJ = fun g W => if g.2 then Jx g.1 W else J g.1 W :=
    ⟨⟨l, M, fun g W => if g.2 then Jx g.1 W else J g.1 W, hMz, hMt, fun _ => Iff.rfl, fun g W W' Mi h1 h2 h3 h4 => by
      obtain ⟨pre, b⟩ := g
      cases b with
      | true => exact hJx pre W W' Mi h1 h2 h3 h4
      | false => exact hJ pre W W' Mi h1 h2 h3 h4, fun pre x W v h1 h2 h3 h4 h5 => hY pre x W v h1 h2 h3 h4 h5⟩, rfl, rfl⟩
  subst hGl
  refine wp_mono (h _ G _ _ hrel (by rw [hGJ]; exact h0)) ?_
  rintro e a w' ⟨st, ⟨pre, b⟩, q, r, j⟩
  obtain ⟨⟨ρ1, hb1, _, _⟩, _⟩ := r
  have fin : ((pre, b) = (L, false) ∨ (b = true ∧ pre <+: L)) → bodyPost P fn (fun e w' => (∃ v, e = .returned v) ∧ (J L w' ∨ ∃ pre, pre <+: L ∧ Jx pre w')) .ret a w' := by
    intro hq
    obtain ⟨v, hrun, _⟩ := gm_results (avs := []) hb1 hr (P := P) trivial
    refine ⟨hb1.defers, v, hrun, ⟨v, rfl⟩, ?_⟩
    rw [hGJ] at j
    rcases hq with h | ⟨rfl, h⟩
    · simp only [Prod.mk.injEq] at h
      obtain ⟨rfl, rfl⟩ := h
      exact .inl j
    · exact .inr ⟨pre, h, j⟩
  cases e with
  | normal => exact fin q
  | ret => exact fin q
  | _ => exact q.elim
end Go.Proofs.YtkapohfnoflhlaaDoor
