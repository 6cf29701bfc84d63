import Derived.Test.YtlihpalpkdgclaaDoorEngZr
set_option linter.unusedSimpArgs false
set_option linter.unusedVariables false
set_option linter.unusedSectionVars false
namespace Go.Proofs.YtlihpalpkdgclaaDoor
open Go.RowKit
/-- What holds of the loop that is handed values, whatever the function itself does. -/
structure Gh [zs : Zs] (P : Program) {α : Type} (L : List α) (enc : α → AV) {k : Nat} (cx : Cx k) where
  l : Nat
  M : Nat → Prop
  JJ : List α × Bool → World → Prop
  mz : ∀ b, M b → zs.z b
  mt : ∀ p, p ∈ Tab → ¬ M p.1
  m0 : ∀ b, cx.M0 b ↔ M b
  st : ∀ g W W' Mi, (∀ b, Mi b → cx.w0.heap.size ≤ b) → cx.w0.heap.size ≤ W.heap.size → Same Mi W W' → JJ g W → JJ g W'
  yl : ∀ pre x W v, pre ++ [x] <+: L → JJ (pre, false) W → cx.w0.heap.size ≤ W.heap.size → Good [] W [] → Gm [] W (Ban [] []) (enc x) v →
      YieldAt Fence.wide 0 P l #[v] W fun e W' => (e = .returned (.bool true) ∧ Same M W W' ∧ JJ (pre ++ [x], false) W') ∨ (e = .returned (.bool false) ∧ Same M W W' ∧ JJ (pre ++ [x], true) W')
def aJ [Zs] {P : Program} {α : Type} {L : List α} {enc : α → AV} {k : Nat} {cx : Cx k} (G : Gh P L enc cx) (c : Code) (Q : Exit → St → List α × Bool → Prop) (st : St) (g : List α × Bool) : Prop :=
  ∀ a w, Rel cx st a w → G.JJ g w → c.wp P (fun e a' w' => ∃ st' g', Q e st' g' ∧ Rel cx st' a' w' ∧ G.JJ g' w') a w
def thenJ {α : Type} (K : St → List α × Bool → Prop) (Q : Exit → St → List α × Bool → Prop) : Exit → St → List α × Bool → Prop
  | .normal, st, g => K st g
  | e, st, g => Q e st g
def blockJ {α : Type} (id : Nat) (Q : Exit → St → List α × Bool → Prop) : Exit → St → List α × Bool → Prop
  | .exit id', st, g => bif Nat.beq id' id then Q .normal st g else Q (.exit id') st g
  | e, st, g => Q e st g
section
variable {P : Program} {α : Type} {L : List α} {enc : α → AV} {k : Nat}
theorem gh_own [Zs] {cx : Cx k} (G : Gh P L enc cx) {st : St} {ρ : Ids} {w : World} (hg : Good ρ w st.objs) (hf : ∀ id b, foot ρ st.objs id b → b < cx.w0.heap.size → cx.M0 b) {b : Nat} (h : Own ρ st.objs b) : cx.w0.heap.size ≤ b := by
  obtain ⟨id, h⟩ := h
  rcases Nat.lt_or_ge b cx.w0.heap.size with hlt | hge
  · exact absurd (G.mz b ((G.m0 b).1 (hf id b h hlt))) (hg.zf id b h)
  · exact hge
variable {Q : Exit → St → List α × Bool → Prop} {st : St} {g : List α × Bool}
/-- Code that hands on nothing. -/
theorem j_plain [Zs] {cx : Cx k} {G : Gh P L enc cx} {c : Code} (h : ∀ (cx' : Cx st.objs.length), aC P cx' c (fun e st' => Q e st' g) st) : aJ G c Q st g := by
  intro a w hr hj
  obtain ⟨⟨ρ, hb, hf, h0⟩, hs⟩ := hr
  refine wp_mono (h (⟨w, Own ρ st.objs, ρ, hb.good.len⟩ : Cx st.objs.length) a w ⟨⟨ρ, hb, fun id b h _ => ⟨id, h⟩, fun _ _ h => h⟩, Same.refl _ _⟩) ?_
  rintro e a' w' ⟨st', q, r⟩
  exact ⟨st', g, q, Rel.via hf h0 hs r, G.st g w w' _ (fun b hb' => gh_own G hb.good hf hb') hs.size r.same hj⟩
theorem j_seq [Zs] {cx : Cx k} {G : Gh P L enc cx} {x y : Code} (h : aJ G x (thenJ (fun st g => aJ G y Q st g) Q) st g) : aJ G (.seq x y) Q st g := by
  intro a w hr hj
  refine wp_seq (wp_mono (h a w hr hj) ?_)
  rintro e a' w' ⟨st', g', q, r, j⟩
  cases e with
  | normal => exact q a' w' r j
  | _ => exact ⟨st', g', q, r, j⟩
theorem j_le [Zs] {cx : Cx k} {G : Gh P L enc cx} {c : Code} (st' : St) (σ : List Nat) (hle : st.le st' σ) (hσ : fixB k σ = true) (h : aJ G c Q st' g) : aJ G c Q st g :=
  fun a w hr hj => h a w (hr.le hle hσ) hj
theorem j_cut [Zs] {cx : Cx k} {G : Gh P L enc cx} {x y : Code} {X : Type} (inv : X → St) (I : X → Prop)
    (h1 : ∀ (cx' : Cx st.objs.length), aC P cx' x (thenA (fun st' => ∃ z σ, I z ∧ st'.le (inv z) σ ∧ fixB k σ = true) (fun _ _ => False)) st) (h2 : ∀ z, I z → aJ G y Q (inv z) g) : aJ G (.seq x y) Q st g := by
  refine j_seq (j_plain fun cx' => a_mono (h1 cx') ?_)
  intro e st' q
  cases e with
  | normal =>
    obtain ⟨z, σ, a1, a2, a3⟩ := q
    exact j_le _ σ a2 a3 (h2 z a1)
  | _ => exact q.elim
theorem j_cond [Zs] {cx : Cx k} {G : Gh P L enc cx} {c : Operand} {x y : Code} {b : Bool} (hc : st.ev c = .val (.bool b)) (ht : b = true → aJ G x Q st g) (hf : b = false → aJ G y Q st g) : aJ G (.cond c x y) Q st g := by
  intro a w hr hj
  have hv : a.eval c = .bool b := by
    obtain ⟨ρ, hb, _⟩ := hr.base
    exact hb.evv hc
  cases b with
  | true => exact wp_cond_true hv (ht rfl a w hr hj)
  | false => exact wp_cond_false hv (hf rfl a w hr hj)
theorem j_block [Zs] {cx : Cx k} {G : Gh P L enc cx} {id : Nat} {c : Code} (h : aJ G c (blockJ id Q) st g) : aJ G (.block id c) Q st g := by
  intro a w hr hj
  refine wp_block (wp_mono (h a w hr hj) ?_)
  rintro e a' w' ⟨st', g', q, r, j⟩
  cases e with
  | exit id' =>
    simp only [blockJ] at q
    simp only [Exit.inBlock]
    by_cases h : id' = id
    · subst h; rw [if_pos rfl]; simp at q; exact ⟨st', g', q, r, j⟩
    · rw [if_neg h]
      have hb : Nat.beq id' id = false := by
        cases hb : Nat.beq id' id
        · rfl
        · exact absurd (Nat.eq_of_beq_eq_true hb) h
      rw [hb] at q
      exact ⟨st', g', q, r, j⟩
  | _ => exact ⟨st', g', q, r, j⟩
theorem j_loop [Zs] {cx : Cx k} {G : Gh P L enc cx} {c : Code} {X : Type} (inv : X → St) (gh : X → List α × Bool) (I : X → Prop) (μ : X → Nat) (x0 : X) (σ0 : List Nat) (h0 : I x0) (hg : g = gh x0) (hle : st.le (inv x0) σ0) (hσ : fixB k σ0 = true)
    (round : ∀ x, I x → aJ G c (thenJ (fun st' g' => ∃ x' σ, I x' ∧ μ x' < μ x ∧ g' = gh x' ∧ st'.le (inv x') σ ∧ fixB k σ = true) Q) (inv x) (gh x)) : aJ G (.loop c) Q st g := by
  intro a w hr hj
  refine wp_loop_ghost (fun n a w => ∃ x, μ x = n ∧ I x ∧ Rel cx (inv x) a w ∧ G.JJ (gh x) w) (μ x0) ⟨x0, rfl, h0, hr.le hle hσ, hg ▸ hj⟩ ?_
  rintro n a w ⟨x, rfl, hI, hrel, hj⟩
  refine wp_mono (round x hI a w hrel hj) ?_
  rintro e a' w' ⟨st', g', q, r, j⟩
  cases e with
  | normal =>
    obtain ⟨x', σ, h1, h2, h3, h4, h5⟩ := q
    exact ⟨μ x', h2, x', rfl, h1, r.le h4 h5, h3 ▸ j⟩
  | _ => exact ⟨st', g', q, r, j⟩
/-- A region in which a value is handed on. -/
theorem j_yield [zs : Zs] {cx : Cx k} {G : Gh P L enc cx} {id : Nat} {ops : List Oper} (i : Nat) {l2 : List Oper} {d : Tmp} {gy gx : Operand} {ats : Array TypeId} {ty : TypeId} {pos : String} {af : Array Edge} {gd : Option (Nat × Bool)} {s1 : St} {pre : List α} {x : α}
    (hsp : ops.drop i = ⟨some d, .call ⟨.value gy, #[gx], ats⟩, ty, pos, af, gd⟩ :: l2) (hd1 : noD (ops.take i) = true) (hd2 : noD l2 = true) (hq : ∀ st g, ¬ Q .outgrown st g) (hqp : ∀ c st g, ¬ Q (.panic c) st g)
    (h1 : ∀ (cx' : Cx st.objs.length), aL P cx' ops.toArray (onlyA s1) (ops.take i) st)
    (hw : gd = none ∨ ∃ j dj want, gd = some (j, want) ∧ (ops.toArray[j]?).bind (·.dst) = some dj ∧ s1.get dj = .val (.bool want))
    (hy : s1.ev gy = .val (.func (.yield G.l) #[] #[])) (hx : Vw s1.objs [] (s1.ev gx) (enc x)) (hp : pre ++ [x] <+: L) (hd : Nat.blt d s1.n = true)
    (h2 : ∀ (b : Bool) (cx' : Cx s1.objs.length), aL P cx' ops.toArray (fun e st' => Q e st' (pre ++ [x], !b)) l2 (s1.put d (.val (.bool b)))) : aJ G (.region id ops.toArray false) Q st (pre, false) := by
  intro a w hr hj
  refine (wpIn_wide (n := 0)).1 (wpIn_region_lit ?_)
  have hops : ops = ops.take i ++ ⟨some d, .call ⟨.value gy, #[gx], ats⟩, ty, pos, af, gd⟩ :: l2 := by rw [← hsp, List.take_append_drop]
  suffices key : ∀ lst : List Oper, lst = ops.take i ++ ⟨some d, .call ⟨.value gy, #[gx], ats⟩, ty, pos, af, gd⟩ :: l2 →
      wpListIn Fence.wide 0 P ops.toArray (fun e a' w' => ∃ st' g', Q e st' g' ∧ Rel cx st' a' w' ∧ G.JJ g' w') lst a w from key ops hops
  rintro lst rfl
  obtain ⟨⟨ρ, hb, hf, h0⟩, hs⟩ := hr
  have hr1 : Rel (⟨w, Own ρ st.objs, ρ, hb.good.len⟩ : Cx st.objs.length) st a w := ⟨⟨ρ, hb, fun id b h _ => ⟨id, h⟩, fun _ _ h => h⟩, Same.refl _ _⟩
  have := list_in2 (ro := none) (n := 0) (Q := lift (⟨w, Own ρ st.objs, ρ, hb.good.len⟩ : Cx st.objs.length) (onlyA s1)) (Q' := fun e a' w' => ∃ st' g', Q e st' g' ∧ Rel cx st' a' w' ∧ G.JJ g' w') (no_out fun _ h => h) []
    (⟨some d, .call ⟨.value gy, #[gx], ats⟩, ty, pos, af, gd⟩ :: l2) ?_ (fun c a w ⟨_, h, _⟩ => h.elim) (ops.take i) (noD_spec hd1) a w (h1 _ a w hr1)
  · rw [apD_nil] at this
    exact this
  rintro a1 w1 ⟨st1, e1, r1⟩
  obtain rfl : st1 = s1 := e1
  rw [apD_nil]
  have hj1 : G.JJ (pre, false) w1 := G.st _ w w1 _ (fun b hb' => gh_own G hb.good hf hb') hs.size r1.same hj
  have hrc : Rel cx st1 a1 w1 := Rel.via hf h0 hs r1
  obtain ⟨⟨ρ1, hb1, hf1, h01⟩, hs1⟩ := hrc
  have hwant : Region.wanted (⟨some d, .call ⟨.value gy, #[gx], ats⟩, ty, pos, af, gd⟩ : Oper) (yielded ops.toArray a1.tmps) = true := by
    rcases hw with rfl | ⟨j, dj, want, rfl, h3, h4⟩
    · simp [Region.wanted]
    · have := yielded_of hb1 h3 h4
      simp [Region.wanted, this]
  have ho : VwOs st1.objs [] [] := ⟨rfl, List.nodup_nil, fun id' o' h => by simp at h⟩
  have hgd : Good [] w1 [] := hb1.good.view ho
  have hgm : Gm [] w1 (Ban [] []) (enc x) (a1.eval gx) := hx.gm hb1.good ho _ (hb1.ev gx)
  obtain ⟨fn, tmps, asg, body, hyr, hR⟩ := G.yl pre x w1 (a1.eval gx) hp hj1 hs1.size hgd hgm
  have hev : a1.eval gy = .func (.yield G.l) #[] #[] := hb1.evv hy
  have hex : (execOp a1.eval ⟨some d, .call ⟨.value gy, #[gx], ats⟩, ty, pos, af, gd⟩).run P w1 = .ok (.round G.l fn tmps asg body) w1 := by
    simp only [execOp, resolve, hev, Deferred.ofValue, Sem.run_bind, Sem.run_pure, Result.andThen_ok, invoke]
    simpa using hyr
  unfold wpListIn
  rw [if_pos hwant]
  refine ⟨fun _ _ => trivial, ?_⟩
  show Oper.uponIn _ _ _ _ _ _ _ ((execOp a1.eval ⟨some d, .call ⟨.value gy, #[gx], ats⟩, ty, pos, af, gd⟩).run P w1)
  rw [hex]
  refine ⟨fun h => (by cases h), hR.mono ?_⟩
  have go : ∀ (b : Bool) (w2 : World), Same G.M w1 w2 → G.JJ (pre ++ [x], !b) w2 → wpListIn Fence.wide 0 P ops.toArray (fun e a' w' => ∃ st' g', Q e st' g' ∧ Rel cx st' a' w' ∧ G.JJ g' w') l2 (a1.put (some d) (.bool b)) w2 := by
    intro b w2 hsm hj2
    have hb2 : RelB ρ1 w2 st1 a1 := RelB.chg hb1 hsm (fun b _ h => G.mz b h) G.mt (fun _ _ h => h) fun b h => Nat.lt_of_lt_of_le (hb1.good.zl b h) hsm.size
    have hb3 := RelB.put (d := d) (av := .val (.bool b)) (v := .bool b) hb2 hd (.val _)
    have hs2 : Same cx.M0 cx.w0 w2 := hs1.trans hsm fun x _ h => (G.m0 x).2 h
    have hr2 : Rel (⟨w2, Own ρ1 (st1.put d (.val (.bool b))).objs, ρ1, hb3.good.len⟩ : Cx (st1.put d (.val (.bool b))).objs.length) (st1.put d (.val (.bool b))) (a1.put (some d) (.bool b)) w2 := ⟨⟨ρ1, hb3, fun id b h _ => ⟨id, h⟩, fun _ _ h => h⟩, Same.refl _ _⟩
    have := list_in (ro := none) (n := 0) (Q' := fun e a' w' => ∃ st' g', Q e st' g' ∧ Rel cx st' a' w' ∧ G.JJ g' w') (no_out fun st h => hq st _ h) [] (fun e a' w' ⟨st', q, r⟩ => ?_) l2 (noD_spec hd2) _ w2 (h2 b _ _ w2 hr2)
    · rw [apD_nil]
      exact ⟨st', _, q, Rel.via hf1 h01 hs2 r, G.st _ w2 w' _ (fun b hb' => gh_own G hb3.good hf1 hb') hs2.size r.same hj2⟩
    · rw [apD_nil] at this
      exact this
  rintro e w2 (⟨rfl, hsm, hj2⟩ | ⟨rfl, hsm, hj2⟩)
  · exact go true w2 hsm hj2
  · exact go false w2 hsm hj2
end
def retJ {α : Type} (L : List α) : Exit → St → List α × Bool → Prop
  | .normal, _, g => g = (L, false) ∨ (g.2 = true ∧ g.1 <+: L)
  | .ret, _, g => g = (L, false) ∨ (g.2 = true ∧ g.1 <+: L)
  | _, _, _ => False
theorem IterC.mk {P : Program} {gm : FuncId} {fn : Func} {c : Code} {n : Nat} {caps : List AV} {α : Type} {enc : α → AV} {L : List α}
    (hf : P.funcs[gm]? = some fn) (hnm : (fn.name == "runtime.NumGoroutine") = false) (hb : fn.body = some c) (hn : fn.ntmps = n) (hle' : Nat.ble (caps.length + 1) n = true) (hr : fn.results = ([] : List ResultVar).toArray) (hro : roL caps = true)
    (h : ∀ [Zs] (cx : Cx 0) (G : Gh P L enc cx), aJ G c (retJ L) ⟨n, argv 0 (.val (.func (.yield G.l) #[] #[]) :: caps), []⟩ ([], false)) : IterC P gm caps enc L := by
  refine ⟨⟨fn, hf, hnm, by rw [hb]; rfl⟩, ?_⟩
  have hle : caps.length + 1 ≤ n := Nat.le_of_ble_eq_true hle'
  intro zs l M J Jx w vs hMz hMt hg hJ hJx hY h0 hsz hargs
  refine calls_of_wp hf hb ?_
  have hrel : Rel (⟨w, M, [], rfl⟩ : Cx 0) ⟨n, argv 0 (.val (.func (.yield l) #[] #[]) :: caps), []⟩ { tmps := #[Value.func (.yield l) #[] #[]] ++ vs ++ Array.replicate (fn.ntmps - (#[Value.func (.yield l) #[] #[]] ++ vs).size) undef, defers := [] } w := by
    refine ⟨⟨[], ⟨fun t => ?_, by simp; omega, rfl, hg⟩, fun id b ⟨o, l, h, _⟩ _ => by simp at h, fun _ _ h => h⟩, Same.refl _ _⟩
    show Gm [] w (Ban [] []) (getv (argv 0 (.val (.func (.yield l) #[] #[]) :: caps)) t) _
    rw [getv_argv, if_pos (Nat.zero_le _), Nat.sub_zero]
    cases t with
    | zero =>
      have e : (#[Value.func (.yield l) #[] #[]] ++ vs ++ Array.replicate (fn.ntmps - (#[Value.func (.yield l) #[] #[]] ++ vs).size) undef).getD 0 undef = .func (.yield l) #[] #[] := by simp [Array.getElem?_append]
      rw [e]
      exact .val _
    | succ t =>
      by_cases ht : t < caps.length
      · have h1 : caps[t]? = some caps[t] := List.getElem?_eq_getElem ht
        have ht' : t < vs.size := by omega
        have h2 : vs[t]? = some vs[t] := Array.getElem?_eq_getElem ht'
        have h3 : (#[Value.func (.yield l) #[] #[]] ++ vs ++ Array.replicate (fn.ntmps - (#[Value.func (.yield l) #[] #[]] ++ vs).size) undef).getD (t + 1) undef = vs[t] := by
          have : t + 1 < 1 + vs.size := by omega
          simp [Array.getElem?_append, ht', this]
        rw [h3]
        simp only [List.getD_eq_getElem?_getD, List.getElem?_cons_succ, h1, Option.getD_some]
        exact hargs t _ _ h1 h2
      · have : (AV.val (.func (.yield l) #[] #[]) :: caps).getD (t + 1) AV.any = .any := by simp; rw [List.getElem?_eq_none (by omega)]; rfl
        rw [this]
        exact .any _
  obtain ⟨G, hGl, hGJ⟩ : ∃ G : Gh P L enc (⟨w, M, [], rfl⟩ : Cx 0), G.l = l ∧ G.JJ = fun g W => if g.2 then Jx g.1 W else J g.1 W :=
    ⟨⟨l, M, fun g W => if g.2 then Jx g.1 W else J g.1 W, hMz, hMt, fun _ => Iff.rfl, fun g W W' Mi h1 h2 h3 h4 => by
      obtain ⟨pre, b⟩ := g
      cases b with
      | true => exact hJx pre W W' Mi h1 h2 h3 h4
      | false => exact hJ pre W W' Mi h1 h2 h3 h4, fun pre x W v h1 h2 h3 h4 h5 => hY pre x W v h1 h2 h3 h4 h5⟩, rfl, rfl⟩
  subst hGl
  refine wp_mono (h _ G _ _ hrel (by rw [hGJ]; exact h0)) ?_
  rintro e a w' ⟨st, ⟨pre, b⟩, q, r, j⟩
  obtain ⟨⟨ρ1, hb1, _, _⟩, _⟩ := r
  have fin : ((pre, b) = (L, false) ∨ (b = true ∧ pre <+: L)) → bodyPost P fn (fun e w' => (∃ v, e = .returned v) ∧ (J L w' ∨ ∃ pre, pre <+: L ∧ Jx pre w')) .ret a w' := by
    intro hq
    obtain ⟨v, hrun, _⟩ := gm_results (avs := []) hb1 hr (P := P) trivial
    refine ⟨hb1.defers, v, hrun, ⟨v, rfl⟩, ?_⟩
    rw [hGJ] at j
    rcases hq with h | ⟨rfl, h⟩
    · simp only [Prod.mk.injEq] at h
      obtain ⟨rfl, rfl⟩ := h
      exact .inl j
    · exact .inr ⟨pre, h, j⟩
  cases e with
  | normal => exact fin q
  | ret => exact fin q
  | _ => exact q.elim
end Go.Proofs.YtlihpalpkdgclaaDoor
