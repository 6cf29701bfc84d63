import Derived.Test.YtbgecpjlopdkfaaDoorEngZd
set_option linter.unusedSimpArgs false
set_option linter.unusedVariables false
set_option linter.unusedSectionVars false
namespace Go.Proofs.YtbgecpjlopdkfaaDoor
open Go.RowKit
/-! Numbers of objects, taken for others. -/
mutual
def AV.rn (σ : List Nat) : AV → AV
  | .own id => .own (σ.getD id 0)
  | .ptr id o => .ptr (σ.getD id 0) o
  | .ept id o => .ept (σ.getD id 0) o
  | .agg l => .agg (AV.rnl σ l)
  | .tup l => .tup (AV.rnl σ l)
  | .clo f l => .clo f (AV.rnl σ l)
  | .val v => .val v
  | .ro d => .ro d
  | .rpt cs o => .rpt cs o
  | .any => .any
def AV.rnl (σ : List Nat) : List AV → List AV
  | [] => []
  | a :: l => a.rn σ :: AV.rnl σ l
end
mutual
def AV.inn (m : Nat) : AV → Bool
  | .own id => Nat.blt id m
  | .ptr id _ => Nat.blt id m
  | .ept id _ => Nat.blt id m
  | .agg l => AV.innl m l
  | .tup l => AV.innl m l
  | .clo _ l => AV.innl m l
  | .val _ => true
  | .ro _ => true
  | .rpt _ _ => true
  | .any => true
def AV.innl (m : Nat) : List AV → Bool
  | [] => true
  | a :: l => a.inn m && AV.innl m l
end
theorem rnl_get (σ : List Nat) : ∀ (l : List AV) (i : Nat), (AV.rnl σ l)[i]? = (l[i]?).map (AV.rn σ)
  | [], i => by simp [AV.rnl]
  | a :: l, 0 => by simp [AV.rnl]
  | a :: l, i + 1 => by simp [AV.rnl, rnl_get σ l i]
theorem rnl_len (σ : List Nat) : ∀ (l : List AV), (AV.rnl σ l).length = l.length
  | [] => rfl
  | a :: l => by simp [AV.rnl, rnl_len σ l]
theorem innl_get {m : Nat} : ∀ {l : List AV} {i : Nat} {a : AV}, AV.innl m l = true → l[i]? = some a → a.inn m = true
  | [], i, a, _, h => by simp at h
  | b :: l, 0, a, h, h2 => by
    simp only [AV.innl, Bool.and_eq_true] at h
    simp only [List.getElem?_cons_zero, Option.some.injEq] at h2
    rw [← h2]; exact h.1
  | b :: l, i + 1, a, h, h2 => by
    simp only [AV.innl, Bool.and_eq_true] at h
    simp only [List.getElem?_cons_succ] at h2
    exact innl_get h.2 h2
def AO.rn (σ : List Nat) : AO → AO
  | .box l => .box (AV.rnl σ l)
  | .row e sz cs => .row e sz cs
  | .mat e e' m => .mat e e' m
  | .mp m => .mp m
  | .bld T e cs => .bld T e cs
  | .gone => .gone
def AO.inn (m : Nat) : AO → Bool
  | .box l => AV.innl m l
  | _ => true
theorem rn_live (σ : List Nat) (o : AO) : (o.rn σ).live = o.live := by cases o <;> rfl
theorem rn_up {ρ ρ' : Ids} {w : World} {M M' : Nat → Prop} {σ : List Nat} (hM : ∀ b, M' b → M b) (hρ : ∀ (id : Nat) l, ρ[id]? = some l → ρ'[σ.getD id 0]? = some l) {av : AV} {v : Value} (h : Gm ρ w M av v) : Gm ρ' w M' (av.rn σ) v := by
  have rd : ∀ {v d}, Rd w M v d → Rd w M' v d := fun h => h.mono (Same.refl M w) (fun b _ hb => hM b hb)
  have lst : ∀ {l : List AV} {vs : Array Value}, (∀ (i : Nat) (av : AV) (v : Value), l[i]? = some av → vs[i]? = some v → Gm ρ' w M' (av.rn σ) v) →
      ∀ (i : Nat) (av : AV) (v : Value), (AV.rnl σ l)[i]? = some av → vs[i]? = some v → Gm ρ' w M' av v := by
    intro l vs h i av v hi hv
    rw [rnl_get] at hi
    obtain ⟨av0, h1, rfl⟩ := Option.map_eq_some_iff.1 hi
    exact h i av0 v h1 hv
  induction h with
  | val v => exact .val v
  | ro d v hr => exact .ro d v (rd hr)
  | own id v l h h1 => exact .own _ v l (hρ _ _ h) h1
  | ptr id off b l h => exact .ptr _ off b l (hρ _ _ h)
  | ept id k b n cap l h => exact .ept _ k b n cap l (hρ _ _ h)
  | rpt a cs off us hsp h2 h3 h4 => exact .rpt a cs off us hsp (fun k hk hm => h2 k hk (hM _ hm)) h3 (fun k d hd => rd (h4 k d hd))
  | agg l vs hl _ ih => exact .agg _ vs (by rw [rnl_len]; exact hl) (lst ih)
  | tup l vs hl _ ih => exact .tup _ vs (by rw [rnl_len]; exact hl) (lst ih)
  | clo f l vs hl _ ih => exact .clo f _ vs (by rw [rnl_len]; exact hl) (lst ih)
  | any v => exact .any v
theorem rn_down {ρ ρ' : Ids} {w : World} {M M' : Nat → Prop} {σ : List Nat} {m : Nat} (hM : ∀ b, M' b → M b) (hρ : ∀ (id : Nat) l, id < m → ρ[σ.getD id 0]? = some l → ρ'[id]? = some l) {x : AV} {v : Value} (h : Gm ρ w M x v) :
    ∀ av : AV, x = av.rn σ → av.inn m = true → Gm ρ' w M' av v := by
  have rd : ∀ {v d}, Rd w M v d → Rd w M' v d := fun h => h.mono (Same.refl M w) (fun b _ hb => hM b hb)
  have lst : ∀ {l : List AV} {l0 : List AV} {vs : Array Value}, l = AV.rnl σ l0 → AV.innl m l0 = true → (∀ (i : Nat) (av : AV) (v : Value), l[i]? = some av → vs[i]? = some v → ∀ a0 : AV, av = a0.rn σ → a0.inn m = true → Gm ρ' w M' a0 v) →
      ∀ (i : Nat) (av : AV) (v : Value), l0[i]? = some av → vs[i]? = some v → Gm ρ' w M' av v := by
    rintro l l0 vs rfl hin h i av v hi hv
    exact h i (av.rn σ) v (by rw [rnl_get, hi]; rfl) hv av rfl (innl_get hin hi)
  induction h with
  | val v =>
    intro av he hin
    cases av <;> simp only [AV.rn, reduceCtorEq, AV.val.injEq] at he
    · subst he; exact .val _
  | ro d v hr =>
    intro av he hin
    cases av <;> simp only [AV.rn, reduceCtorEq, AV.ro.injEq] at he
    · subst he; exact .ro _ v (rd hr)
  | own id v l h h1 =>
    intro av he hin
    cases av <;> simp only [AV.rn, reduceCtorEq, AV.own.injEq] at he
    · subst he; exact .own _ v l (hρ _ _ (by simpa [AV.inn, Nat.blt_eq] using hin) h) h1
  | ptr id off b l h =>
    intro av he hin
    cases av <;> simp only [AV.rn, reduceCtorEq, AV.ptr.injEq] at he
    · obtain ⟨he1, he2⟩ := he
      subst he1; subst he2
      exact .ptr _ _ b l (hρ _ _ (by simpa [AV.inn, Nat.blt_eq] using hin) h)
  | ept id k b n cap l h =>
    intro av he hin
    cases av <;> simp only [AV.rn, reduceCtorEq, AV.ept.injEq] at he
    · obtain ⟨he1, he2⟩ := he
      subst he1; subst he2
      exact .ept _ _ b n cap l (hρ _ _ (by simpa [AV.inn, Nat.blt_eq] using hin) h)
  | rpt a cs off us hsp h2 h3 h4 =>
    intro av he hin
    cases av <;> simp only [AV.rn, reduceCtorEq, AV.rpt.injEq] at he
    · obtain ⟨he1, he2⟩ := he
      subst he1; subst he2
      exact .rpt a _ _ us hsp (fun k hk hm => h2 k hk (hM _ hm)) h3 (fun k d hd => rd (h4 k d hd))
  | agg l vs hl _ ih =>
    intro av he hin
    cases av <;> simp only [AV.rn, reduceCtorEq, AV.agg.injEq] at he
    · exact .agg _ vs (by rw [← hl, he, rnl_len]) (lst he (by simpa [AV.inn] using hin) ih)
  | tup l vs hl _ ih =>
    intro av he hin
    cases av <;> simp only [AV.rn, reduceCtorEq, AV.tup.injEq] at he
    · exact .tup _ vs (by rw [← hl, he, rnl_len]) (lst he (by simpa [AV.inn] using hin) ih)
  | clo f l vs hl _ ih =>
    intro av he hin
    cases av <;> simp only [AV.rn, reduceCtorEq, AV.clo.injEq] at he
    · obtain ⟨he1, he2⟩ := he
      subst he1
      exact .clo _ _ vs (by rw [← hl, he2, rnl_len]) (lst he2 (by simpa [AV.inn] using hin) ih)
  | any v =>
    intro av he hin
    cases av <;> simp only [AV.rn, reduceCtorEq] at he
    · exact .any v
/-- Objects put in their places. -/
def putL : List AO → List Nat → List AO → List AO
  | L, i :: σ, o :: os => putL (L.set i o) σ os
  | L, _, _ => L
theorem putL_len : ∀ (σ : List Nat) (L os : List AO), (putL L σ os).length = L.length
  | [], L, os => by cases os <;> rfl
  | i :: σ, L, [] => rfl
  | i :: σ, L, o :: os => by rw [putL, putL_len σ]; simp
theorem putL_out : ∀ (σ : List Nat) (L os : List AO) (i : Nat), i ∉ σ → (putL L σ os)[i]? = L[i]?
  | [], L, os, i, _ => by cases os <;> rfl
  | j :: σ, L, [], i, _ => rfl
  | j :: σ, L, o :: os, i, h => by
    rw [putL, putL_out σ _ os i (fun hm => h (List.mem_cons_of_mem _ hm)), List.getElem?_set_ne (fun he => h (by rw [he]; exact List.mem_cons_self))]
theorem putL_in : ∀ (σ : List Nat) (L os : List AO) (j i : Nat), σ.Nodup → σ.length = os.length → (∀ x ∈ σ, x < L.length) → σ[j]? = some i → (putL L σ os)[i]? = os[j]?
  | [], L, os, j, i, _, _, _, h => by simp at h
  | x :: σ, L, [], j, i, _, hl, _, h => by simp at hl
  | x :: σ, L, o :: os, 0, i, hn, hl, hb, h => by
    simp only [List.getElem?_cons_zero, Option.some.injEq] at h
    subst h
    rw [putL, putL_out σ _ os x (List.nodup_cons.1 hn).1, List.getElem?_set_self (hb x List.mem_cons_self)]; rfl
  | x :: σ, L, o :: os, j + 1, i, hn, hl, hb, h => by
    simp only [List.getElem?_cons_succ] at h ⊢
    rw [putL]
    exact putL_in σ _ os j i (List.nodup_cons.1 hn).2 (by simpa using hl) (fun y hy => by rw [List.length_set]; exact hb y (List.mem_cons_of_mem _ hy)) h
section
variable {P : Program} {k : Nat} {cx : Cx k} {ops : Array Oper} {Q : Exit → St → Prop} {st : St} {rest : List Oper} {ty : TypeId} {pos : String} {af : Array Edge}
theorem l_callW [zs : Zs] {d : Tmp} {g : Operand} {xs : Array Operand} {ats : Array TypeId} {f : FuncId} {caps args : List AV} {res : AV} {cobjs cobjs' : List AO} (σ : List Nat) (hf : Callee' st g f caps) (hc : AC P f args cobjs res cobjs')
    (hl1 : σ.length = cobjs.length) (hl2 : cobjs'.length = cobjs.length) (hnd : σ.Nodup) (ho : σ.map (fun i => st.objs[i]?) = cobjs.map (fun o => some (o.rn σ))) (hin : cobjs.all (AO.inn σ.length) = true) (hia : args.all (AV.inn σ.length) = true)
    (hv : evs st xs ++ caps = args.map (AV.rn σ)) (hd : Nat.blt d st.n = true)
    (hk : aL P cx ops Q rest (St.put ⟨st.n, st.vars, putL st.objs σ (cobjs'.map (AO.rn σ))⟩ d (res.rn σ))) : aL P cx ops Q (⟨some d, .call ⟨.value g, xs, ats⟩, ty, pos, af, none⟩ :: rest) st := by
  intro a w hr
  obtain ⟨ρ, hb, hfoot, h0⟩ := hr.base
  obtain ⟨cs, h1, h2, h3⟩ := callee_val hb hf
  have hlen := hb.good.len
  have ho' : ∀ (j i : Nat), σ[j]? = some i → ∃ o, cobjs[j]? = some o ∧ st.objs[i]? = some (o.rn σ) := by
    intro j i hj
    have hjl := (List.getElem?_eq_some_iff.1 hj).1
    have e : (σ.map (fun i => st.objs[i]?))[j]? = (cobjs.map (fun o => some (o.rn σ)))[j]? := by rw [ho]
    rw [List.getElem?_map, List.getElem?_map, hj, List.getElem?_eq_getElem (by omega : j < cobjs.length)] at e
    exact ⟨_, List.getElem?_eq_getElem (by omega), Option.some.inj e⟩
  have hσb : ∀ x ∈ σ, x < st.objs.length := by
    intro x hx
    obtain ⟨j, hj, rfl⟩ := List.getElem_of_mem hx
    obtain ⟨o, _, h⟩ := ho' j _ (List.getElem?_eq_getElem hj)
    exact (List.getElem?_eq_some_iff.1 h).1
  have hσo : ∀ (j : Nat) (o : AO), cobjs[j]? = some o → ∃ i, σ[j]? = some i ∧ σ.getD j 0 = i ∧ st.objs[i]? = some (o.rn σ) := by
    intro j o hj
    have hjl := (List.getElem?_eq_some_iff.1 hj).1
    have hjs : j < σ.length := by omega
    obtain ⟨o', h4, h5⟩ := ho' j _ (List.getElem?_eq_getElem hjs)
    rw [hj] at h4
    obtain rfl := Option.some.inj h4
    exact ⟨_, List.getElem?_eq_getElem hjs, by rw [List.getD_eq_getElem?_getD, List.getElem?_eq_getElem hjs]; rfl, h5⟩
  have hinj : ∀ (i j x : Nat), σ[i]? = some x → σ[j]? = some x → i = j := by
    intro i j x hi hj
    have hil := (List.getElem?_eq_some_iff.1 hi).1
    have hjl := (List.getElem?_eq_some_iff.1 hj).1
    have e : σ[i] = σ[j] := Option.some.inj ((List.getElem?_eq_getElem hil).symm.trans (hi.trans (hj.symm.trans (List.getElem?_eq_getElem hjl))))
    rcases Nat.lt_trichotomy i j with h | h | h
    · exact absurd e (List.pairwise_iff_getElem.1 hnd i j hil hjl h)
    · exact h
    · exact absurd e.symm (List.pairwise_iff_getElem.1 hnd j i hjl hil h)
  obtain ⟨ρc, hρc⟩ : ∃ ρc : Ids, ρc = σ.map (fun i => ρ.getD i []) := ⟨_, rfl⟩
  have hρl : ρc.length = cobjs.length := by rw [hρc, List.length_map, hl1]
  have hρg : ∀ (j i : Nat), σ[j]? = some i → ρc[j]? = ρ[i]? := by
    intro j i hj
    have hi := hσb i (List.mem_of_getElem? hj)
    rw [hρc, List.getElem?_map, hj]
    rw [List.getElem?_eq_getElem (by omega : i < ρ.length), Option.map_some, List.getD_eq_getElem?_getD, List.getElem?_eq_getElem (by omega : i < ρ.length)]; rfl
  have hρd : ∀ (j : Nat) l, j < σ.length → ρ[σ.getD j 0]? = some l → ρc[j]? = some l := by
    intro j l hj h
    rw [hρg j _ (List.getElem?_eq_getElem hj)]
    rw [List.getD_eq_getElem?_getD, List.getElem?_eq_getElem hj] at h
    exact h
  have hρu : ∀ (j : Nat) l, ρc[j]? = some l → ρ[σ.getD j 0]? = some l := by
    intro j l h
    have hj : j < σ.length := by have := (List.getElem?_eq_some_iff.1 h).1; omega
    rw [hρg j _ (List.getElem?_eq_getElem hj)] at h
    rw [List.getD_eq_getElem?_getD, List.getElem?_eq_getElem hj]
    exact h
  -- whose block it is
  have hup : ∀ {os : List AO} {os' : List AO}, (∀ (j : Nat) (o : AO), os[j]? = some o → ∃ i, σ[j]? = some i ∧ os'[i]? = some (o.rn σ)) → ∀ {j b}, foot ρc os j b → ∃ i, σ[j]? = some i ∧ foot ρ os' i b := by
    rintro os os' h j b ⟨o, l, h4, h5, h6, h7⟩
    obtain ⟨i, h8, h9⟩ := h j o h4
    exact ⟨i, h8, o.rn σ, l, h9, by rw [rn_live]; exact h5, by rw [← hρg j i h8]; exact h6, h7⟩
  have hup0 : ∀ {j b}, foot ρc cobjs j b → ∃ i, σ[j]? = some i ∧ foot ρ st.objs i b := hup (fun j o h => by obtain ⟨i, h4, _, h5⟩ := hσo j o h; exact ⟨i, h4, h5⟩)
  have hoth : ∀ {i b}, i ∉ σ → foot ρ st.objs i b → ¬ Own ρc cobjs b := by
    rintro i b hi hft ⟨j, hj⟩
    obtain ⟨x, h4, h5⟩ := hup0 hj
    have := hb.good.dis i x b hft h5
    subst this
    exact hi (List.mem_of_getElem? h4)
  have hownU : ∀ {b}, Own ρc cobjs b → Own ρ st.objs b := by
    rintro b ⟨j, hj⟩
    obtain ⟨x, _, h5⟩ := hup0 hj
    exact ⟨x, h5⟩
  have hbanU : ∀ b, @Ban ⟨fun b => Zs.z b ∨ (Own ρ st.objs b ∧ ¬ Own ρc cobjs b)⟩ ρc cobjs b → Ban ρ st.objs b := by
    rintro b (h | h | h)
    · exact .inl (hownU h)
    · exact .inr h
    · exact .inl h.1
  have hgood : @Good ⟨fun b => Zs.z b ∨ (Own ρ st.objs b ∧ ¬ Own ρc cobjs b)⟩ ρc w cobjs := by
    refine @Good.mk ⟨fun b => Zs.z b ∨ (Own ρ st.objs b ∧ ¬ Own ρc cobjs b)⟩ _ _ _ hρl (fun j o hj => ?_) (fun i j b hi hj => ?_) (fun j b hj hz => ?_) (fun b hz => ?_) (hb.good.tt.step (Same.refl _ _) fun b _ h => hownU h)
    · obtain ⟨i, h4, h5, h6⟩ := hσo j o hj
      have hs := hb.good.sat i _ h6
      have hρi := hρg j i h4
      cases o with
      | gone => trivial
      | mat e e' m => obtain ⟨v, us, a1, a2⟩ := hs; exact ⟨v, us, hρi.trans a1, a2⟩
      | mp m => obtain ⟨v, us, a1, a2⟩ := hs; exact ⟨v, us, hρi.trans a1, a2⟩
      | bld T e cs => obtain ⟨b, v, a1, a2⟩ := hs; exact ⟨b, v, hρi.trans a1, a2⟩
      | row e sz cs =>
        obtain ⟨v, n, us, a1, a2, a3, a4⟩ := hs
        refine ⟨v, n, us, hρi.trans a1, a2, a3, fun i dt hi => ?_⟩
        obtain ⟨u, hu, hr⟩ := a4 i dt hi
        exact ⟨u, hu, hr.mono (Same.refl _ _) (fun b _ h => hbanU b h)⟩
      | box l =>
        obtain ⟨b, arr, T, a1, a2, a3, a4⟩ := hs
        refine ⟨b, arr, T, hρi.trans a1, a2, by rw [a3, rnl_len], fun i av hi => ?_⟩
        obtain ⟨v, hv', hgv⟩ := a4 i (av.rn σ) (by rw [rnl_get, hi]; rfl)
        have hinl : AV.innl σ.length l = true := List.all_eq_true.1 hin _ (List.mem_of_getElem? hj)
        exact ⟨v, hv', rn_down hbanU hρd hgv av rfl (innl_get hinl hi)⟩
    · obtain ⟨x, h4, h5⟩ := hup0 hi
      obtain ⟨y, h6, h7⟩ := hup0 hj
      have := hb.good.dis x y b h5 h7
      subst this
      exact hinj i j x h4 h6
    · rcases hz with h | h
      · obtain ⟨x, _, h5⟩ := hup0 hj
        exact hb.good.zf x b h5 h
      · exact h.2 ⟨j, hj⟩
    · rcases hz with h | ⟨⟨i, h⟩, _⟩
      · exact hb.good.zl b h
      · exact foot_lt hb.good h
  have hal : evs st xs ++ caps = args.map (AV.rn σ) := hv
  have hsz : (xs.map a.eval ++ cs).size = args.length := by
    have : (evs st xs ++ caps).length = args.length := by rw [hal, List.length_map]
    rw [← this]; simp [evs, h2]
  have hargs : ∀ (i : Nat) (av : AV) (v : Value), args[i]? = some av → (xs.map a.eval ++ cs)[i]? = some v → Gm ρc w (@Ban ⟨fun b => Zs.z b ∨ (Own ρ st.objs b ∧ ¬ Own ρc cobjs b)⟩ ρc cobjs) av v := by
    intro i av v ha hv
    have hx : (evs st xs ++ caps)[i]? = some (av.rn σ) := by rw [hal, List.getElem?_map, ha]; rfl
    have hin2 : av.inn σ.length = true := List.all_eq_true.1 hia _ (List.mem_of_getElem? ha)
    have hxs : (evs st xs).length = xs.size := by simp [evs]
    have hg : Gm ρ w (Ban ρ st.objs) (av.rn σ) v := by
      by_cases hlt : i < xs.size
      · rw [List.getElem?_append_left (by omega)] at hx
        have e1 : av.rn σ = st.ev xs[i] := by
          have e3 : (evs st xs)[i]? = some (st.ev xs[i]) := by simp [evs, hlt]
          exact Option.some.inj (hx.symm.trans e3)
        have e2 : v = a.eval xs[i] := by
          rw [Array.getElem?_append_left (by simpa using hlt)] at hv
          simp [hlt] at hv; exact hv.symm
        rw [e1, e2]; exact hb.ev _
      · rw [Array.getElem?_append_right (by simp; omega)] at hv
        rw [List.getElem?_append_right (by omega), hxs] at hx
        exact h3 _ _ v hx (by simpa using hv)
    exact rn_down hbanU hρd hg av rfl hin2
  unfold wpList
  rw [if_pos (by simp [Region.wanted])]
  left
  unfold Oper.wp
  rw [exec_call hc.1 h1]
  obtain ⟨hc1, hc2⟩ := hc
  refine (@hc2 ⟨fun b => Zs.z b ∨ (Own ρ st.objs b ∧ ¬ Own ρc cobjs b)⟩ ρc w _ hgood hsz hargs).mono ?_
  rintro e w' ⟨u, ρ', rfl, hs, ⟨gl, gs, gd, gz, gzl, _⟩, hgm, hext, hfr⟩
  have hρ' : ρ' = ρc := by
    apply List.ext_getElem?
    intro i
    by_cases hi : i < ρc.length
    · rw [List.getElem?_eq_getElem hi]; exact hext i _ (List.getElem?_eq_getElem hi)
    · rw [List.getElem?_eq_none (by omega), List.getElem?_eq_none (by omega)]
  subst hρ'
  clear hext
  have hOl : (putL st.objs σ (cobjs'.map (AO.rn σ))).length = st.objs.length := putL_len _ _ _
  have hOin : ∀ (j i : Nat), σ[j]? = some i → (putL st.objs σ (cobjs'.map (AO.rn σ)))[i]? = (cobjs'[j]?).map (AO.rn σ) := by
    intro j i hj
    rw [putL_in σ _ _ j i hnd (by rw [List.length_map]; omega) hσb hj, List.getElem?_map]
  have hOout : ∀ i, i ∉ σ → (putL st.objs σ (cobjs'.map (AO.rn σ)))[i]? = st.objs[i]? := fun i hi => putL_out σ _ _ i hi
  generalize putL st.objs σ (cobjs'.map (AO.rn σ)) = O' at *
  have hmem : ∀ i, i ∈ σ → ∃ j, σ[j]? = some i := fun i hi => by
    obtain ⟨j, hj, rfl⟩ := List.getElem_of_mem hi
    exact ⟨j, List.getElem?_eq_getElem hj⟩
  have hft : ∀ {i b}, foot ρ O' i b → (∃ j, σ[j]? = some i ∧ foot ρ' cobjs' j b) ∨ (i ∉ σ ∧ foot ρ st.objs i b) := by
    rintro i b ⟨o, l, h4, h5, h6, h7⟩
    by_cases hi : i ∈ σ
    · obtain ⟨j, hj⟩ := hmem i hi
      left
      rw [hOin j i hj] at h4
      obtain ⟨o0, h8, rfl⟩ := Option.map_eq_some_iff.1 h4
      exact ⟨j, hj, o0, l, h8, by rw [← rn_live σ]; exact h5, by rw [hρg j i hj]; exact h6, h7⟩
    · rw [hOout i hi] at h4
      exact .inr ⟨hi, o, l, h4, h5, h6, h7⟩
  have hban : ∀ b, Ban ρ O' b → @Ban ⟨fun b => Zs.z b ∨ (Own ρ st.objs b ∧ ¬ Own ρ' cobjs b)⟩ ρ' cobjs' b := by
    rintro b (⟨i, h⟩ | hz)
    · rcases hft h with ⟨j, _, h4⟩ | ⟨h4, h5⟩
      · exact .inl ⟨j, h4⟩
      · exact .inr (.inr ⟨⟨i, h5⟩, hoth h4 h5⟩)
    · exact .inr (.inl hz)
  have hM : ∀ b, b < w.heap.size → Own ρ O' b → Own ρ st.objs b := by
    rintro b hlt ⟨i, h⟩
    rcases hft h with ⟨j, _, h4⟩ | ⟨_, h5⟩
    · exact hownU (hfr b ⟨j, h4⟩ hlt)
    · exact ⟨i, h5⟩
  have hs' : Same (Own ρ st.objs) w w' := ⟨hs.os, hs.tape, hs.output, hs.size, fun k hk hn => hs.block k hk (fun h => hn (hownU h))⟩
  have hgood' : Good ρ w' O' := by
    refine ⟨by rw [hOl]; exact hlen, fun i o hi => ?_, fun i j b hi hj => ?_, fun i b hi hz => ?_, fun b hz => Nat.lt_of_lt_of_le (hb.good.zl b hz) hs.size, hb.good.tt.step hs' hM⟩
    · by_cases hiσ : i ∈ σ
      · obtain ⟨j, hj⟩ := hmem i hiσ
        rw [hOin j i hj] at hi
        obtain ⟨o0, h8, rfl⟩ := Option.map_eq_some_iff.1 hi
        have hsat := gs j o0 h8
        have hρi := (hρg j i hj).symm
        cases o0 with
        | gone => trivial
        | mat e e' m => obtain ⟨v, us, a1, a2⟩ := hsat; exact ⟨v, us, hρi.trans a1, a2⟩
        | mp m => obtain ⟨v, us, a1, a2⟩ := hsat; exact ⟨v, us, hρi.trans a1, a2⟩
        | bld T e cs => obtain ⟨b, v, a1, a2⟩ := hsat; exact ⟨b, v, hρi.trans a1, a2⟩
        | row e sz cs =>
          obtain ⟨v, n, us, a1, a2, a3, a4⟩ := hsat
          refine ⟨v, n, us, hρi.trans a1, a2, a3, fun i dt hi => ?_⟩
          obtain ⟨u, hu, hr⟩ := a4 i dt hi
          exact ⟨u, hu, hr.mono (Same.refl _ _) (fun b _ h => hban b h)⟩
        | box l =>
          obtain ⟨b, arr, T, a1, a2, a3, a4⟩ := hsat
          refine ⟨b, arr, T, hρi.trans a1, a2, by rw [rnl_len]; exact a3, fun i av hi => ?_⟩
          rw [rnl_get] at hi
          obtain ⟨av0, h11, rfl⟩ := Option.map_eq_some_iff.1 hi
          obtain ⟨v, hv, hgv⟩ := a4 i av0 h11
          exact ⟨v, hv, rn_up hban hρu hgv⟩
      · rw [hOout i hiσ] at hi
        have hsat0 := hb.good.sat i o hi
        by_cases hl : o.live = true
        · refine hsat0.keep hs' (fun _ _ h => h) hM fun l v b h1 h2 h3 _ => ?_
          have hf0 : foot ρ st.objs i b := ⟨o, l, hi, hl, h1, v, h2, h3⟩
          exact hs.block b (foot_lt hb.good hf0) (hoth hiσ hf0)
        · cases o with
          | gone => trivial
          | _ => exact absurd rfl hl
    · rcases hft hi with ⟨x, a1, a2⟩ | ⟨a1, a2⟩ <;> rcases hft hj with ⟨y, b1, b2⟩ | ⟨b1, b2⟩
      · have := gd x y b a2 b2
        subst this
        exact Option.some.inj (a1.symm.trans b1)
      · exact absurd (Or.inr ⟨⟨j, b2⟩, hoth b1 b2⟩) (gz x b a2)
      · exact absurd (Or.inr ⟨⟨i, a2⟩, hoth a1 a2⟩) (gz y b b2)
      · exact hb.good.dis i j b a2 b2
    · rcases hft hi with ⟨x, a1, a2⟩ | ⟨a1, a2⟩
      · exact gz x b a2 (Or.inl hz)
      · exact hb.good.zf i b a2 hz
  refine hk _ _ (Rel.step (st2 := St.put ⟨st.n, st.vars, O'⟩ d (res.rn σ)) hr hfoot h0 hs' (fun _ _ h => h) hM
    (RelB.put (st := ⟨st.n, st.vars, O'⟩) ⟨fun t => (hb.frame t).ext hs' (fun _ _ h => h) hM, hb.size, hb.defers, hgood'⟩ hd (rn_up hban hρu hgm)))
end
section
variable {P : Program} {k : Nat} {cx : Cx k} {ops : Array Oper} {Q : Exit → St → Prop} {rest : List Oper} {ty : TypeId} {pos : String} {af : Array Edge} {n : Nat} {vars vars' : List (Nat × AV)} {objs objs' : List AO} {d : Nat}
theorem w_callW [Zs] {g : Operand} {xs : Array Operand} {ats : Array TypeId} {f : FuncId} {caps args : List AV} {res res0 res' : AV} {cobjs news news0 : List AO} (σ : List Nat) (hf : Callee' ⟨n, vars, objs⟩ g f caps) (hc : AC P f args cobjs res0 news0) (h0 : res0 = res) (h1 : news0 = news)
    (hl1 : σ.length = cobjs.length) (hl2 : news.length = cobjs.length) (hnd : σ.Nodup) (ho : σ.map (fun i => objs[i]?) = cobjs.map (fun o => some (o.rn σ))) (hin : cobjs.all (AO.inn σ.length) = true) (hia : args.all (AV.inn σ.length) = true)
    (hv : evs ⟨n, vars, objs⟩ xs ++ caps = args.map (AV.rn σ)) (hO : putL objs σ (news.map (AO.rn σ)) = objs') (hr : res.rn σ = res') (hd : Nat.blt d n = true) (hk : aL P cx ops Q rest ⟨n, (d, res') :: vars, objs'⟩) :
    aL P cx ops Q (⟨some d, .call ⟨.value g, xs, ats⟩, ty, pos, af, none⟩ :: rest) ⟨n, vars, objs⟩ := by
  subst h0; subst h1; subst hO; subst hr
  exact l_callW σ hf hc hl1 hl2 hnd ho hin hia hv hd hk
end
section
variable {P : Program} {st : St} {d : Option Tmp} {ty : TypeId} {pos : String} {af : Array Edge} {g : Option (Nat × Bool)}
theorem Q_nilCheck {x : Operand} {id o : Nat} (hx : st.ev x = .ptr id o) : QOp P ⟨d, .nilCheck x, ty, pos, af, g⟩ st (.ptr id o) :=
  .run fun ρ w a hr => by
    have h := hr.ev x
    rw [hx] at h
    obtain ⟨b, l, he, hl⟩ := h.ptr_inv
    refine ⟨.pointer (some ⟨b, o, none⟩), .ptr id _ b l hl, fun w1 _ => ?_⟩
    simp [execOp, he]
theorem P_nilCheck {x : Operand} {id o : Nat} (hx : st.ev x = .ptr id o) : POp P ⟨d, .nilCheck x, ty, pos, af, g⟩ st (.ptr id o) := fun _ ρ w a hr => by
  have h := hr.ev x
  rw [hx] at h
  obtain ⟨b, l, he, hl⟩ := h.ptr_inv
  refine ⟨.pointer (some ⟨b, o, none⟩), .ptr id _ b l hl, fun w1 => ?_⟩
  simp [execOp, he]
end
theorem rn_ints (σ : List Nat) (l : List Int) : (ints l).rn σ = ints l := rfl
theorem rn_rows (σ : List Nat) (l : List (List Int)) : (rows l).rn σ = rows l := rfl
theorem rn_pairs (σ : List Nat) (l : List (Int × Int)) : (pairs l).rn σ = pairs l := rfl
end Go.Proofs.YtbgecpjlopdkfaaDoor
