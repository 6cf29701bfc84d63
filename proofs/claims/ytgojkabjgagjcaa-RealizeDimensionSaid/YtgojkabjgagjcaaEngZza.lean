import Derived.Test.YtgojkabjgagjcaaEngZs
set_option linter.unusedSimpArgs false
set_option linter.unusedVariables false
set_option linter.unusedSectionVars false
namespace Go.Proofs.Ytgojkabjgagjcaa
open Go.RowKit
/-- Zs with more blocks set aside. -/
@[reducible] def ZD (zs : Zs) (D : Nat → Prop) : Zs := ⟨fun b => zs.z b ∨ D b⟩
/-- As IterC; the rounds may make memory (D: what they made). -/
def IterD (P : Program) (gm : FuncId) (caps : List AV) {α : Type} (enc : α → AV) (L : List α) : Prop :=
  Enters P gm ∧ ∀ [zs : Zs] (l : Nat) (M : Nat → Prop) (J Jx : List α → (Nat → Prop) → World → Prop) (w : World) (vs : Array Value),
    (∀ b, M b → zs.z b) → (∀ p, p ∈ Tab → ¬ M p.1) → Good [] w [] →
    (∀ pre D W W' Mi, (∀ b, Mi b → w.heap.size ≤ b ∧ ¬ D b) → w.heap.size ≤ W.heap.size → Same Mi W W' → J pre D W → J pre D W') →
    (∀ pre D W W' Mi, (∀ b, Mi b → w.heap.size ≤ b ∧ ¬ D b) → w.heap.size ≤ W.heap.size → Same Mi W W' → Jx pre D W → Jx pre D W') →
    (∀ pre x D W v, pre ++ [x] <+: L → J pre D W → w.heap.size ≤ W.heap.size → Gm [] W (fun b => zs.z b ∨ D b) (enc x) v →
      YieldAt Fence.wide 0 P l #[v] W fun e W' => ∃ D' : Nat → Prop, (∀ b, D' b → D b ∨ W.heap.size ≤ b) ∧ (∀ b, D b → D' b) ∧ (∀ b, D' b → b < W'.heap.size) ∧ (∀ b, D' b → w.heap.size ≤ b) ∧ Same (fun b => M b ∨ D b) W W' ∧ ((e = .returned (.bool true) ∧ J (pre ++ [x]) D' W') ∨ (e = .returned (.bool false) ∧ Jx (pre ++ [x]) D' W'))) →
    J [] (fun _ => False) w → vs.size = caps.length → (∀ (i : Nat) (av : AV) (v : Value), caps[i]? = some av → vs[i]? = some v → Gm [] w (Ban [] []) av v) →
    Calls P gm (#[.func (.yield l) #[] #[]] ++ vs) w fun e w' => (∃ v, e = .returned v) ∧ ((∃ D, J L D w') ∨ ∃ pre D, pre <+: L ∧ Jx pre D w')
/-- What is known in the end may be told in other numbers. -/
theorem r_leE [Zs] {P : Program} {k : Nat} {cx : Cx k} {ln : Nat} {c : Code} {Q : Exit → St → Prop} {st : St} (h : aR P cx ln c (fun e st1 => ∃ st2 σ, st1.le st2 σ ∧ fixB k σ = true ∧ Q e st2) st) : aR P cx ln c Q st :=
  fun a w hr => wpIn_mono (h a w hr) fun _ _ _ ⟨_, ⟨st2, σ, h1, h2, h3⟩, r⟩ => ⟨st2, h3, r.le h1 h2⟩
/-- What holds of the loop that is handed values, whatever the function itself does. -/
structure Gd [zs : Zs] (P : Program) {α : Type} (L : List α) (enc : α → AV) {k : Nat} (cx : Cx k) where
  l : Nat
  M : Nat → Prop
  JJ : List α × Bool → (Nat → Prop) → World → Prop
  mz : ∀ b, M b → zs.z b
  mt : ∀ p, p ∈ Tab → ¬ M p.1
  m0 : ∀ b, cx.M0 b ↔ M b
  tb : ∀ p, p ∈ Tab → p.1 < cx.w0.heap.size
  dz : ∀ g D W, JJ g D W → ∀ b, D b → cx.w0.heap.size ≤ b
  st : ∀ g D W W' Mi, (∀ b, Mi b → cx.w0.heap.size ≤ b ∧ ¬ D b) → cx.w0.heap.size ≤ W.heap.size → Same Mi W W' → JJ g D W → JJ g D W'
/-- What a round does. -/
def YlD [zs : Zs] {P : Program} {α : Type} {L : List α} {enc : α → AV} {k : Nat} {cx : Cx k} (G : Gd P L enc cx) : Prop :=
  ∀ pre x D W v, pre ++ [x] <+: L → G.JJ (pre, false) D W → cx.w0.heap.size ≤ W.heap.size → Gm [] W (fun b => zs.z b ∨ D b) (enc x) v →
      YieldAt Fence.wide 0 P G.l #[v] W fun e W' => ∃ D' : Nat → Prop, (∀ b, D' b → D b ∨ W.heap.size ≤ b) ∧ (∀ b, D b → D' b) ∧ (∀ b, D' b → b < W'.heap.size) ∧ (∀ b, D' b → cx.w0.heap.size ≤ b) ∧ Same (fun b => G.M b ∨ D b) W W' ∧ ((e = .returned (.bool true) ∧ G.JJ (pre ++ [x], false) D' W') ∨ (e = .returned (.bool false) ∧ G.JJ (pre ++ [x], true) D' W'))
def aD [zs : Zs] {P : Program} {α : Type} {L : List α} {enc : α → AV} {k : Nat} {cx : Cx k} (G : Gd P L enc cx) (c : Code) (Q : Exit → St → List α × Bool → Prop) (st : St) (g : List α × Bool) : Prop :=
  ∀ (D : Nat → Prop) a w, @Rel (ZD zs D) k cx st a w → G.JJ g D w → c.wp P (fun e a' w' => ∃ (st' : St) (g' : List α × Bool) (D' : Nat → Prop), Q e st' g' ∧ @Rel (ZD zs D') k cx st' a' w' ∧ G.JJ g' D' w') a w
section
variable {P : Program} {α : Type} {L : List α} {enc : α → AV} {k : Nat}
theorem gd_own [zs : Zs] {D : Nat → Prop} {cx : Cx k} (G : Gd P L enc cx) {st : St} {ρ : Ids} {w : World} (hg : @Good (ZD zs D) ρ w st.objs) (hf : ∀ id b, foot ρ st.objs id b → b < cx.w0.heap.size → cx.M0 b) {b : Nat} (h : Own ρ st.objs b) : cx.w0.heap.size ≤ b ∧ ¬ D b := by
  obtain ⟨id, h⟩ := h
  obtain ⟨_, _, _, zf, _, _⟩ := hg
  refine ⟨?_, fun hd => zf id b h (.inr hd)⟩
  rcases Nat.lt_or_ge b cx.w0.heap.size with hlt | hge
  · exact absurd (.inl (G.mz b ((G.m0 b).1 (hf id b h hlt)))) (zf id b h)
  · exact hge
variable {Q : Exit → St → List α × Bool → Prop} {st : St} {g : List α × Bool}
/-- Code that hands on nothing. -/
theorem d_plain {zs : Zs} {cx : Cx k} {G : Gd P L enc cx} {c : Code} (h : ∀ [Zs] (cx' : Cx st.objs.length), aC P cx' c (fun e st' => Q e st' g) st) : aD G c Q st g := by
  intro D a w hr hj
  obtain ⟨⟨ρ, hb, hf, h0⟩, hs⟩ := hr
  have hlen : ρ.length = st.objs.length := by
    have hb' := hb
    obtain ⟨_, _, _, g2, _⟩ := hb'
    exact g2
  refine wp_mono (@h (ZD zs D) (⟨w, Own ρ st.objs, ρ, hlen⟩ : Cx st.objs.length) a w (@Rel.mk (ZD zs D) _ _ _ _ _ ⟨ρ, hb, fun id b h _ => (⟨id, h⟩ : Own ρ st.objs b), fun _ _ h => h⟩ (Same.refl _ _))) ?_
  rintro e a' w' ⟨st', q, r⟩
  obtain ⟨_, _, _, hg⟩ := hb
  have hrs := r
  obtain ⟨_, hrs⟩ := hrs
  exact ⟨st', g, D, q, @Rel.via (ZD zs D) _ _ _ _ _ _ _ _ _ hf h0 hs r, G.st g D w w' (Own ρ st.objs) (fun b hb' => @gd_own P α L enc k zs D cx G st ρ w hg hf b hb') hs.size hrs hj⟩
theorem d_seq {zs : Zs} {cx : Cx k} {G : Gd P L enc cx} {x y : Code} (h : aD G x (thenJ (fun st g => aD G y Q st g) Q) st g) : aD G (.seq x y) Q st g := by
  intro D a w hr hj
  refine wp_seq (wp_mono (h D a w hr hj) ?_)
  rintro e a' w' ⟨st', g', D', q, r, j⟩
  cases e with
  | normal => exact q D' a' w' r j
  | _ => exact ⟨st', g', D', q, r, j⟩
theorem d_cond {zs : Zs} {cx : Cx k} {G : Gd P L enc cx} {c : Operand} {x y : Code} {b : Bool} (hc : st.ev c = .val (.bool b)) (ht : b = true → aD G x Q st g) (hf : b = false → aD G y Q st g) : aD G (.cond c x y) Q st g := by
  intro D a w hr hj
  have hv : a.eval c = .bool b := by
    have hr' := hr
    obtain ⟨⟨ρ, hb, _⟩, _⟩ := hr'
    exact @RelB.evv (ZD zs D) _ _ _ _ hb _ _ hc
  cases b with
  | true => exact wp_cond_true hv (ht rfl D a w hr hj)
  | false => exact wp_cond_false hv (hf rfl D a w hr hj)
theorem d_block {zs : Zs} {cx : Cx k} {G : Gd P L enc cx} {id : Nat} {c : Code} (h : aD G c (blockJ id Q) st g) : aD G (.block id c) Q st g := by
  intro D a w hr hj
  refine wp_block (wp_mono (h D a w hr hj) ?_)
  rintro e a' w' ⟨st', g', D', q, r, j⟩
  cases e with
  | exit id' =>
    simp only [blockJ] at q
    simp only [Exit.inBlock]
    by_cases h : id' = id
    · subst h; rw [if_pos rfl]; simp at q; exact ⟨st', g', D', q, r, j⟩
    · rw [if_neg h]
      have hb : Nat.beq id' id = false := by
        cases hb : Nat.beq id' id
        · rfl
        · exact absurd (Nat.eq_of_beq_eq_true hb) h
      rw [hb] at q
      exact ⟨st', g', D', q, r, j⟩
  | _ => exact ⟨st', g', D', q, r, j⟩
theorem d_loop {zs : Zs} {cx : Cx k} {G : Gd P L enc cx} {c : Code} {X : Type} (inv : X → St) (gh : X → List α × Bool) (I : X → Prop) (μ : X → Nat) (x0 : X) (σ0 : List Nat) (h0 : I x0) (hg : g = gh x0) (hle : st.le (inv x0) σ0) (hσ : fixB k σ0 = true)
    (round : ∀ x, I x → aD G c (thenJ (fun st' g' => ∃ x' σ, I x' ∧ μ x' < μ x ∧ g' = gh x' ∧ st'.le (inv x') σ ∧ fixB k σ = true) Q) (inv x) (gh x)) : aD G (.loop c) Q st g := by
  intro D a w hr hj
  refine wp_loop_ghost (fun n a w => ∃ x D, μ x = n ∧ I x ∧ @Rel (ZD zs D) k cx (inv x) a w ∧ G.JJ (gh x) D w) (μ x0) ⟨x0, D, rfl, h0, @Rel.le (ZD zs D) _ _ _ _ _ _ _ hr hle hσ, hg ▸ hj⟩ ?_
  rintro n a w ⟨x, D, rfl, hI, hrel, hj⟩
  refine wp_mono (round x hI D a w hrel hj) ?_
  rintro e a' w' ⟨st', g', D', q, r, j⟩
  cases e with
  | normal =>
    obtain ⟨x', σ, h1, h2, h3, h4, h5⟩ := q
    exact ⟨μ x', h2, x', D', rfl, h1, @Rel.le (ZD zs D') _ _ _ _ _ _ _ r h4 h5, h3 ▸ j⟩
  | _ => exact ⟨st', g', D', q, r, j⟩
end
theorem IterD.mk {P : Program} {gm : FuncId} {fn : Func} {c : Code} {n : Nat} {caps : List AV} {α : Type} {enc : α → AV} {L : List α}
    (hf : P.funcs[gm]? = some fn) (hnm : (fn.name == "runtime.NumGoroutine") = false) (hb : fn.body = some c) (hn : fn.ntmps = n) (hle' : Nat.ble (caps.length + 1) n = true) (hr : fn.results = ([] : List ResultVar).toArray) (hro : roL caps = true)
    (h : ∀ [Zs] (cx : Cx 0) (G : Gd P L enc cx), YlD G → aD G c (retJ L) ⟨n, argv 0 (.val (.func (.yield G.l) #[] #[]) :: caps), []⟩ ([], false)) : IterD P gm caps enc L := by
  refine ⟨⟨fn, hf, hnm, by rw [hb]; rfl⟩, ?_⟩
  have hle : caps.length + 1 ≤ n := Nat.le_of_ble_eq_true hle'
  intro zs l M J Jx w vs hMz hMt hg hJ hJx hY h0 hsz hargs
  refine calls_of_wp hf hb ?_
  have hrel : @Rel zs _ (⟨w, M, [], rfl⟩ : Cx 0) ⟨n, argv 0 (.val (.func (.yield l) #[] #[]) :: caps), []⟩ { tmps := #[Value.func (.yield l) #[] #[]] ++ vs ++ Array.replicate (fn.ntmps - (#[Value.func (.yield l) #[] #[]] ++ vs).size) undef, defers := [] } w := by
    refine ⟨⟨[], ⟨fun t => ?_, by simp; omega, rfl, hg⟩, fun id b ⟨o, l, h, _⟩ _ => by simp at h, fun _ _ h => h⟩, Same.refl _ _⟩
    show Gm [] w (Ban [] []) (getv (argv 0 (.val (.func (.yield l) #[] #[]) :: caps)) t) _
    rw [getv_argv, if_pos (Nat.zero_le _), Nat.sub_zero]
    cases t with
    | zero =>
      have e : (#[Value.func (.yield l) #[] #[]] ++ vs ++ Array.replicate (fn.ntmps - (#[Value.func (.yield l) #[] #[]] ++ vs).size) undef).getD 0 undef = .func (.yield l) #[] #[] := by simp [Array.getElem?_append]
      rw [e]
      exact .val _
    | succ t =>
      by_cases ht : t < caps.length
      · have h1 : caps[t]? = some caps[t] := List.getElem?_eq_getElem ht
        have ht' : t < vs.size := by omega
        have h2 : vs[t]? = some vs[t] := Array.getElem?_eq_getElem ht'
        have h3 : (#[Value.func (.yield l) #[] #[]] ++ vs ++ Array.replicate (fn.ntmps - (#[Value.func (.yield l) #[] #[]] ++ vs).size) undef).getD (t + 1) undef = vs[t] := by
          have : t + 1 < 1 + vs.size := by omega
          simp [Array.getElem?_append, ht', this]
        rw [h3]
        simp only [List.getD_eq_getElem?_getD, List.getElem?_cons_succ, h1, Option.getD_some]
        exact hargs t _ _ h1 h2
      · have : (AV.val (.func (.yield l) #[] #[]) :: caps).getD (t + 1) AV.any = .any := by simp; rw [List.getElem?_eq_none (by omega)]; rfl
        rw [this]
        exact .any _
  obtain ⟨G, hGl, hGJ, hGy⟩ : ∃ G : Gd P L enc (⟨w, M, [], rfl⟩ : Cx 0), G.l = l ∧ (G.JJ = fun g D W => (∀ b, D b → w.heap.size ≤ b) ∧ if g.2 then Jx g.1 D W else J g.1 D W) ∧ YlD G :=
    ⟨⟨l, M, fun g D W => (∀ b, D b → w.heap.size ≤ b) ∧ if g.2 then Jx g.1 D W else J g.1 D W, hMz, hMt, fun _ => Iff.rfl, hg.tt.tl, fun g D W h => h.1, fun g D W W' Mi h1 h2 h3 h4 => by
      obtain ⟨pre, b⟩ := g
      cases b with
      | true => exact ⟨h4.1, hJx pre D W W' Mi h1 h2 h3 h4.2⟩
      | false => exact ⟨h4.1, hJ pre D W W' Mi h1 h2 h3 h4.2⟩⟩, rfl, rfl, fun pre x D W v h1 h2 h3 h4 => (by
        obtain ⟨fn, tmps, asg, body, hyr, hR⟩ := hY pre x D W v h1 h2.2 h3 h4
        refine ⟨fn, tmps, asg, body, hyr, hR.mono ?_⟩
        rintro e W' ⟨D', c1, c2, c3, c4, c5, ⟨c6, c7⟩ | ⟨c6, c7⟩⟩
        · exact ⟨D', c1, c2, c3, c4, c5, .inl ⟨c6, c4, c7⟩⟩
        · exact ⟨D', c1, c2, c3, c4, c5, .inr ⟨c6, c4, c7⟩⟩)⟩
  subst hGl
  have hZ : ZD zs (fun _ => False) = zs := by cases zs; simp [ZD]
  refine wp_mono (h _ G hGy (fun _ => False) _ _ (by rw [hZ]; exact hrel) (by rw [hGJ]; exact ⟨fun b h => h.elim, h0⟩)) ?_
  rintro e a w' ⟨st, ⟨pre, b⟩, D, q, r, j⟩
  obtain ⟨⟨ρ1, hb1, _, _⟩, _⟩ := r
  have fin : ((pre, b) = (L, false) ∨ (b = true ∧ pre <+: L)) → bodyPost P fn (fun e w' => (∃ v, e = .returned v) ∧ ((∃ D, J L D w') ∨ ∃ pre D, pre <+: L ∧ Jx pre D w')) .ret a w' := by
    intro hq
    obtain ⟨v, hrun, _⟩ := @gm_results (ZD zs D) ρ1 w' st a hb1 fn [] [] hr P trivial
    have hdf : a.defers = [] := by
      obtain ⟨_, _, df, _⟩ := hb1
      exact df
    refine ⟨hdf, v, hrun, ⟨v, rfl⟩, ?_⟩
    rw [hGJ] at j
    rcases hq with h | ⟨rfl, h⟩
    · simp only [Prod.mk.injEq] at h
      obtain ⟨rfl, rfl⟩ := h
      exact .inl ⟨D, j.2⟩
    · exact .inr ⟨pre, D, h, j.2⟩
  cases e with
  | normal => exact fin q
  | ret => exact fin q
  | _ => exact q.elim
end Go.Proofs.Ytgojkabjgagjcaa
