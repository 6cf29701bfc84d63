import Derived.Test.YtgojkabjgagjcaaEngZq
set_option linter.unusedSimpArgs false
set_option linter.unusedVariables false
set_option linter.unusedSectionVars false
namespace Go.Proofs.Ytgojkabjgagjcaa
open Go.RowKit
theorem Same.wk {M M' : Nat → Prop} {w w' : World} (h : Same M w w') (hM : ∀ b, b < w.heap.size → M b → M' b) : Same M' w w' :=
  ⟨h.os, h.tape, h.output, h.size, fun k hk hn => h.block k hk fun hm => hn (hM k hk hm)⟩
theorem same_put {w : World} {r : Nat} {o : Obj} : Same (fun b => b = r) w (w.putObj r o) :=
  ⟨rfl, rfl, rfl, by rw [World.putObj_size]; exact Nat.le_refl _, fun k _ hn => World.putObj_heap_other hn⟩
theorem ids_eq {ρ ρ' : Ids} (h : ∀ (id : Nat) l, ρ[id]? = some l → ρ'[id]? = some l) (hl : ρ'.length = ρ.length) : ρ' = ρ := by
  apply List.ext_getElem?
  intro i
  by_cases hi : i < ρ.length
  · rw [List.getElem?_eq_getElem hi]; exact h i _ (List.getElem?_eq_getElem hi)
  · rw [List.getElem?_eq_none (by omega), List.getElem?_eq_none (by omega)]
/-- What a function that is ranged over promises: it hands on L's values, one behind the other, until it is told to stop. -/
def IterC (P : Program) (gm : FuncId) (caps : List AV) {α : Type} (enc : α → AV) (L : List α) : Prop :=
  Enters P gm ∧ ∀ [Zs] (l : Nat) (M : Nat → Prop) (J Jx : List α → World → Prop) (w : World) (vs : Array Value),
    (∀ b, M b → Zs.z b) → (∀ p, p ∈ Tab → ¬ M p.1) → Good [] w [] →
    (∀ pre W W' Mi, (∀ b, Mi b → w.heap.size ≤ b) → w.heap.size ≤ W.heap.size → Same Mi W W' → J pre W → J pre W') →
    (∀ pre W W' Mi, (∀ b, Mi b → w.heap.size ≤ b) → w.heap.size ≤ W.heap.size → Same Mi W W' → Jx pre W → Jx pre W') →
    (∀ pre x W v, pre ++ [x] <+: L → J pre W → w.heap.size ≤ W.heap.size → Good [] W [] → Gm [] W (Ban [] []) (enc x) v →
      YieldAt Fence.wide 0 P l #[v] W fun e W' => (e = .returned (.bool true) ∧ Same M W W' ∧ J (pre ++ [x]) W') ∨ (e = .returned (.bool false) ∧ Same M W W' ∧ Jx (pre ++ [x]) W')) →
    J [] w → vs.size = caps.length → (∀ (i : Nat) (av : AV) (v : Value), caps[i]? = some av → vs[i]? = some v → Gm [] w (Ban [] []) av v) →
    Calls P gm (#[.func (.yield l) #[] #[]] ++ vs) w fun e w' => (∃ v, e = .returned v) ∧ (J L w' ∨ ∃ pre, pre <+: L ∧ Jx pre w')
def roundA (o o' : List AO) (Y X : Prop) : Exit → St → Prop
  | .normal, st => Y ∧ st.objs = o
  | .ret, st => X ∧ st.objs = o'
  | _, _ => False
/-- A function that holds a range over a function. -/
theorem AC.mkM {P : Program} {f : FuncId} {fn : Func} {c : Code} {n : Nat} {rs : List ResultVar} {args : List AV} {objs : List AO} {res : AV} {objs' : List AO}
    (hf : P.funcs[f]? = some fn) (hnm : (fn.name == "runtime.NumGoroutine") = false) (hb : fn.body = some c) (hn : fn.ntmps = n) (hle' : Nat.ble args.length n = true) (hr : fn.results = rs.toArray)
    (h : ∀ [Zs] (cx : Cx objs.length), aS P cx c (retA P objs.length rs res objs') ⟨n, argv 0 args, objs⟩) : AC P f args objs res objs' := by
  refine ⟨⟨fn, hf, hnm, by rw [hb]; rfl⟩, ?_⟩
  have hle : args.length ≤ n := Nat.le_of_ble_eq_true hle'
  intro zs ρ w vs hg hsz hargs
  have htl := hg.tt.tl
  refine callsIn_wide.1 (callsIn_of_wp_marks (n := 0) hf hb trivial ?_ rfl)
  have hrel : Rel (⟨w, Own ρ objs, ρ, hg.len⟩ : Cx objs.length) ⟨n, argv 0 args, objs⟩ { tmps := vs ++ Array.replicate (fn.ntmps - vs.size) undef, defers := [] } w := by
    refine ⟨⟨ρ, ⟨fun t => ?_, by simp; omega, rfl, hg⟩, fun id b hfo _ => ⟨id, hfo⟩, fun _ _ h => h⟩, Same.refl _ _⟩
    show Gm ρ w (Ban ρ objs) (getv (argv 0 args) t) _
    rw [getv_argv, if_pos (Nat.zero_le _)]
    by_cases ht : t < args.length
    · have h1 : args[t]? = some args[t] := List.getElem?_eq_getElem ht
      have ht' : t < vs.size := by omega
      have h2 : vs[t]? = some vs[t] := Array.getElem?_eq_getElem ht'
      have h3 : (vs ++ Array.replicate (fn.ntmps - vs.size) undef).getD t undef = vs[t] := by simp [ht', Array.getElem?_append]
      rw [h3]
      simp only [Nat.sub_zero, List.getD_eq_getElem?_getD, h1, Option.getD_some]
      exact hargs t _ _ h1 h2
    · have : args.getD (t - 0) AV.any = .any := by simp; rw [List.getElem?_eq_none (by omega)]; rfl
      rw [this]
      exact .any _
  refine wpIn_mono (h _ _ _ hrel) ?_
  rintro e a w' ⟨a0, st, D, rfl, hq, hM⟩
  have fin : Ends P objs.length rs res objs' st → ∀ w2, Rel (⟨w, Own ρ objs, ρ, hg.len⟩ : Cx objs.length) st a0 w2 → ∃ v, (results fn a0.tmps).run P w2 = .ok v w2 ∧ ∃ v' ρ', Ending.returned v = .returned v' ∧ Same (Own ρ objs) w w2 ∧ Good ρ' w2 objs' ∧ Gm ρ' w2 (Ban ρ' objs') res v' ∧
      (∀ (id : Nat) l, ρ[id]? = some l → ρ'[id]? = some l) ∧ (∀ b, Own ρ' objs' b → b < w.heap.size → Own ρ objs b) := by
    rintro ⟨avs, σ, hrv, ho, hv, hσ⟩ w2 ⟨⟨ρ1, hb1, hf1, h01⟩, hs1⟩
    obtain ⟨v, hrun, hgm⟩ := gm_results hb1 hr hrv
    refine ⟨v, hrun, v, reId ρ1 σ, rfl, hs1, hb1.good.view ho, hv.gm hb1.good ho v hgm, fun id l hl => ?_, fun b hb hlt => ?_⟩
    · have hlt := (List.getElem?_eq_some_iff.1 hl).1
      rw [hg.len] at hlt
      exact reId_get (fixB_spec hσ id hlt) (h01 id l hl)
    · obtain ⟨id', hfo⟩ := hb
      obtain ⟨id, _, hfo'⟩ := foot_view hb1.good ho hfo
      exact hf1 id b hfo' hlt
  have fin2 : Ends P objs.length rs res objs' st → LeavesInM Fence.wide 0 P fn (apD a0 D).tmps (fun e w' => ∃ v ρ', e = .returned v ∧ Same (Own ρ objs) w w' ∧ Good ρ' w' objs' ∧ Gm ρ' w' (Ban ρ' objs') res v ∧
      (∀ (id : Nat) l, ρ[id]? = some l → ρ'[id]? = some l) ∧ (∀ b, Own ρ' objs' b → b < w.heap.size → Own ρ objs b)) (apD a0 D).defers .returning w' := by
    intro hE
    rcases hM with ⟨rfl, hr0⟩ | ⟨r, rfl, hrw, zs1, hz, hzr, hw, hr0⟩
    · have hd : a0.defers = [] := by obtain ⟨_, hb0, _⟩ := hr0.base; exact hb0.defers
      rw [apD_nil, hd]
      exact fin hE w' hr0
    · obtain ⟨⟨ρ1, hb1, hf1, h01⟩, hs1⟩ := hr0
      have hd : a0.defers = [] := by obtain ⟨_, _, hd, _⟩ := hb1; exact hd
      have hput : Same (fun b => b = r) w' (w'.putObj r (.deferred none)) := same_put
      have htab : ∀ p, p ∈ Tab → ¬ p.1 = r := by
        rintro p hp rfl
        have := htl p hp
        have hrw : w.heap.size ≤ p.1 := hrw
        omega
      have hb2 : @RelB zs ρ1 (w'.putObj r (.deferred none)) st a0 := by
        refine @RelB.chg zs1 zs ρ1 w' _ st a0 _ hb1 hput (fun b _ h => by rw [h]; exact hzr) htab (fun b _ h => hz b h) fun b h => ?_
        obtain ⟨_, _, _, _, _, _, _, g2, _⟩ := hb1
        exact Nat.lt_of_lt_of_le (g2 b (hz b h)) hput.size
      show LeavesInM Fence.wide 0 P fn (apD a0 [mark r]).tmps _ (a0.defers ++ [mark r]) .returning w'
      rw [hd]
      refine ⟨by simp, .inl ⟨r, w'.putObj r (.deferred none), rfl, run_takeDeferred hw, ?_⟩⟩
      have hrw : w.heap.size ≤ r := hrw
      exact fin hE _ (@Rel.mk zs _ _ _ _ _ ⟨ρ1, hb2, hf1, h01⟩ (hs1.trans hput fun x hx h => by
        have hx : x < w.heap.size := hx
        omega))
  cases e with
  | normal => exact fin2 hq
  | ret => exact fin2 hq
  | _ => exact hq.elim
end Go.Proofs.Ytgojkabjgagjcaa
set_option linter.unusedSimpArgs false
set_option linter.unusedVariables false
set_option linter.unusedSectionVars false
namespace Go.Proofs.Ytgojkabjgagjcaa
open Go.RowKit
/-- What holds of the loop that is handed values, whatever the function itself does. -/
structure Gh [zs : Zs] (P : Program) {α : Type} (L : List α) (enc : α → AV) {k : Nat} (cx : Cx k) where
  l : Nat
  M : Nat → Prop
  JJ : List α × Bool → World → Prop
  mz : ∀ b, M b → zs.z b
  mt : ∀ p, p ∈ Tab → ¬ M p.1
  m0 : ∀ b, cx.M0 b ↔ M b
  st : ∀ g W W' Mi, (∀ b, Mi b → cx.w0.heap.size ≤ b) → cx.w0.heap.size ≤ W.heap.size → Same Mi W W' → JJ g W → JJ g W'
  yl : ∀ pre x W v, pre ++ [x] <+: L → JJ (pre, false) W → cx.w0.heap.size ≤ W.heap.size → Good [] W [] → Gm [] W (Ban [] []) (enc x) v →
      YieldAt Fence.wide 0 P l #[v] W fun e W' => (e = .returned (.bool true) ∧ Same M W W' ∧ JJ (pre ++ [x], false) W') ∨ (e = .returned (.bool false) ∧ Same M W W' ∧ JJ (pre ++ [x], true) W')
def aJ [Zs] {P : Program} {α : Type} {L : List α} {enc : α → AV} {k : Nat} {cx : Cx k} (G : Gh P L enc cx) (c : Code) (Q : Exit → St → List α × Bool → Prop) (st : St) (g : List α × Bool) : Prop :=
  ∀ a w, Rel cx st a w → G.JJ g w → c.wp P (fun e a' w' => ∃ st' g', Q e st' g' ∧ Rel cx st' a' w' ∧ G.JJ g' w') a w
def thenJ {α : Type} (K : St → List α × Bool → Prop) (Q : Exit → St → List α × Bool → Prop) : Exit → St → List α × Bool → Prop
  | .normal, st, g => K st g
  | e, st, g => Q e st g
def blockJ {α : Type} (id : Nat) (Q : Exit → St → List α × Bool → Prop) : Exit → St → List α × Bool → Prop
  | .exit id', st, g => bif Nat.beq id' id then Q .normal st g else Q (.exit id') st g
  | e, st, g => Q e st g
def retJ {α : Type} (L : List α) : Exit → St → List α × Bool → Prop
  | .normal, _, g => g = (L, false) ∨ (g.2 = true ∧ g.1 <+: L)
  | .ret, _, g => g = (L, false) ∨ (g.2 = true ∧ g.1 <+: L)
  | _, _, _ => False
theorem IterC.mk {P : Program} {gm : FuncId} {fn : Func} {c : Code} {n : Nat} {caps : List AV} {α : Type} {enc : α → AV} {L : List α}
    (hf : P.funcs[gm]? = some fn) (hnm : (fn.name == "runtime.NumGoroutine") = false) (hb : fn.body = some c) (hn : fn.ntmps = n) (hle' : Nat.ble (caps.length + 1) n = true) (hr : fn.results = ([] : List ResultVar).toArray) (hro : roL caps = true)
    (h : ∀ [Zs] (cx : Cx 0) (G : Gh P L enc cx), aJ G c (retJ L) ⟨n, argv 0 (.val (.func (.yield G.l) #[] #[]) :: caps), []⟩ ([], false)) : IterC P gm caps enc L := by
  refine ⟨⟨fn, hf, hnm, by rw [hb]; rfl⟩, ?_⟩
  have hle : caps.length + 1 ≤ n := Nat.le_of_ble_eq_true hle'
  intro zs l M J Jx w vs hMz hMt hg hJ hJx hY h0 hsz hargs
  refine calls_of_wp hf hb ?_
  have hrel : Rel (⟨w, M, [], rfl⟩ : Cx 0) ⟨n, argv 0 (.val (.func (.yield l) #[] #[]) :: caps), []⟩ { tmps := #[Value.func (.yield l) #[] #[]] ++ vs ++ Array.replicate (fn.ntmps - (#[Value.func (.yield l) #[] #[]] ++ vs).size) undef, defers := [] } w := by
    refine ⟨⟨[], ⟨fun t => ?_, by simp; omega, rfl, hg⟩, fun id b ⟨o, l, h, _⟩ _ => by simp at h, fun _ _ h => h⟩, Same.refl _ _⟩
    show Gm [] w (Ban [] []) (getv (argv 0 (.val (.func (.yield l) #[] #[]) :: caps)) t) _
    rw [getv_argv, if_pos (Nat.zero_le _), Nat.sub_zero]
    cases t with
    | zero =>
      have e : (#[Value.func (.yield l) #[] #[]] ++ vs ++ Array.replicate (fn.ntmps - (#[Value.func (.yield l) #[] #[]] ++ vs).size) undef).getD 0 undef = .func (.yield l) #[] #[] := by simp [Array.getElem?_append]
      rw [e]
      exact .val _
    | succ t =>
      by_cases ht : t < caps.length
      · have h1 : caps[t]? = some caps[t] := List.getElem?_eq_getElem ht
        have ht' : t < vs.size := by omega
        have h2 : vs[t]? = some vs[t] := Array.getElem?_eq_getElem ht'
        have h3 : (#[Value.func (.yield l) #[] #[]] ++ vs ++ Array.replicate (fn.ntmps - (#[Value.func (.yield l) #[] #[]] ++ vs).size) undef).getD (t + 1) undef = vs[t] := by
          have : t + 1 < 1 + vs.size := by omega
          simp [Array.getElem?_append, ht', this]
        rw [h3]
        simp only [List.getD_eq_getElem?_getD, List.getElem?_cons_succ, h1, Option.getD_some]
        exact hargs t _ _ h1 h2
      · have : (AV.val (.func (.yield l) #[] #[]) :: caps).getD (t + 1) AV.any = .any := by simp; rw [List.getElem?_eq_none (by omega)]; rfl
        rw [this]
        exact .any _
  obtain ⟨G, hGl, hGJ⟩ : ∃ G : Gh P L enc (⟨w, M, [], rfl⟩ : Cx 0), G.l = l ∧ G.JJ = fun g W => if g.2 then Jx g.1 W else J g.1 W :=
    ⟨⟨l, M, fun g W => if g.2 then Jx g.1 W else J g.1 W, hMz, hMt, fun _ => Iff.rfl, fun g W W' Mi h1 h2 h3 h4 => by
      obtain ⟨pre, b⟩ := g
      cases b with
      | true => exact hJx pre W W' Mi h1 h2 h3 h4
      | false => exact hJ pre W W' Mi h1 h2 h3 h4, fun pre x W v h1 h2 h3 h4 h5 => hY pre x W v h1 h2 h3 h4 h5⟩, rfl, rfl⟩
  subst hGl
  refine wp_mono (h _ G _ _ hrel (by rw [hGJ]; exact h0)) ?_
  rintro e a w' ⟨st, ⟨pre, b⟩, q, r, j⟩
  obtain ⟨⟨ρ1, hb1, _, _⟩, _⟩ := r
  have fin : ((pre, b) = (L, false) ∨ (b = true ∧ pre <+: L)) → bodyPost P fn (fun e w' => (∃ v, e = .returned v) ∧ (J L w' ∨ ∃ pre, pre <+: L ∧ Jx pre w')) .ret a w' := by
    intro hq
    obtain ⟨v, hrun, _⟩ := gm_results (avs := []) hb1 hr (P := P) trivial
    refine ⟨hb1.defers, v, hrun, ⟨v, rfl⟩, ?_⟩
    rw [hGJ] at j
    rcases hq with h | ⟨rfl, h⟩
    · simp only [Prod.mk.injEq] at h
      obtain ⟨rfl, rfl⟩ := h
      exact .inl j
    · exact .inr ⟨pre, h, j⟩
  cases e with
  | normal => exact fin q
  | ret => exact fin q
  | _ => exact q.elim
end Go.Proofs.Ytgojkabjgagjcaa
