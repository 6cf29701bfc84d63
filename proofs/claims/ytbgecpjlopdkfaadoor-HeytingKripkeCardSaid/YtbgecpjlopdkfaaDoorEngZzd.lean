import Derived.Test.YtbgecpjlopdkfaaDoorEngZf
set_option linter.unusedSimpArgs false
set_option linter.unusedVariables false
set_option linter.unusedSectionVars false
namespace Go.Proofs.YtbgecpjlopdkfaaDoor
open Go.RowKit
section
variable {P : Program} {k : Nat} {cx : Cx k} {ops : Array Oper} {Q : Exit → St → Prop} {st : St} {rest : List Oper} {ty : TypeId} {pos : String} {af : Array Edge}
theorem l_callN [zs : Zs] {d : Tmp} {g : Operand} {xs : Array Operand} {ats : Array TypeId} {f : FuncId} {caps args : List AV} {res : AV} {cobjs cobjs' : List AO} (σ σ' : List Nat) (m : Nat) (hσ' : σ' = σ ++ (List.range m).map (· + st.objs.length)) (hf : Callee' st g f caps) (hc : AC P f args cobjs res cobjs')
    (hl1 : σ.length = cobjs.length) (hl2 : cobjs'.length = cobjs.length + m) (hnd : σ.Nodup) (ho : σ.map (fun i => st.objs[i]?) = cobjs.map (fun o => some (o.rn σ))) (hin : cobjs.all (AO.inn σ.length) = true) (hia : args.all (AV.inn σ.length) = true)
    (hv : evs st xs ++ caps = args.map (AV.rn σ)) (hd : Nat.blt d st.n = true)
    (hk : aL P cx ops Q rest (St.put ⟨st.n, st.vars, putL st.objs σ ((cobjs'.take σ.length).map (AO.rn σ')) ++ (cobjs'.drop σ.length).map (AO.rn σ')⟩ d (res.rn σ'))) : aL P cx ops Q (⟨some d, .call ⟨.value g, xs, ats⟩, ty, pos, af, none⟩ :: rest) st := by
  intro a w hr
  obtain ⟨ρ, hb, hfoot, h0⟩ := hr.base
  obtain ⟨cs, h1, h2, h3⟩ := callee_val hb hf
  have hlen := hb.good.len
  have ho' : ∀ (j i : Nat), σ[j]? = some i → ∃ o, cobjs[j]? = some o ∧ st.objs[i]? = some (o.rn σ) := by
    intro j i hj
    have hjl := (List.getElem?_eq_some_iff.1 hj).1
    have e : (σ.map (fun i => st.objs[i]?))[j]? = (cobjs.map (fun o => some (o.rn σ)))[j]? := by rw [ho]
    rw [List.getElem?_map, List.getElem?_map, hj, List.getElem?_eq_getElem (by omega : j < cobjs.length)] at e
    exact ⟨_, List.getElem?_eq_getElem (by omega), Option.some.inj e⟩
  have hσb : ∀ x ∈ σ, x < st.objs.length := by
    intro x hx
    obtain ⟨j, hj, rfl⟩ := List.getElem_of_mem hx
    obtain ⟨o, _, h⟩ := ho' j _ (List.getElem?_eq_getElem hj)
    exact (List.getElem?_eq_some_iff.1 h).1
  have hσo : ∀ (j : Nat) (o : AO), cobjs[j]? = some o → ∃ i, σ[j]? = some i ∧ σ.getD j 0 = i ∧ st.objs[i]? = some (o.rn σ) := by
    intro j o hj
    have hjl := (List.getElem?_eq_some_iff.1 hj).1
    have hjs : j < σ.length := by omega
    obtain ⟨o', h4, h5⟩ := ho' j _ (List.getElem?_eq_getElem hjs)
    rw [hj] at h4
    obtain rfl := Option.some.inj h4
    exact ⟨_, List.getElem?_eq_getElem hjs, by rw [List.getD_eq_getElem?_getD, List.getElem?_eq_getElem hjs]; rfl, h5⟩
  have hinj : ∀ (i j x : Nat), σ[i]? = some x → σ[j]? = some x → i = j := by
    intro i j x hi hj
    have hil := (List.getElem?_eq_some_iff.1 hi).1
    have hjl := (List.getElem?_eq_some_iff.1 hj).1
    have e : σ[i] = σ[j] := Option.some.inj ((List.getElem?_eq_getElem hil).symm.trans (hi.trans (hj.symm.trans (List.getElem?_eq_getElem hjl))))
    rcases Nat.lt_trichotomy i j with h | h | h
    · exact absurd e (List.pairwise_iff_getElem.1 hnd i j hil hjl h)
    · exact h
    · exact absurd e.symm (List.pairwise_iff_getElem.1 hnd j i hjl hil h)
  obtain ⟨ρc, hρc⟩ : ∃ ρc : Ids, ρc = σ.map (fun i => ρ.getD i []) := ⟨_, rfl⟩
  have hρl : ρc.length = cobjs.length := by rw [hρc, List.length_map, hl1]
  have hρg : ∀ (j i : Nat), σ[j]? = some i → ρc[j]? = ρ[i]? := by
    intro j i hj
    have hi := hσb i (List.mem_of_getElem? hj)
    rw [hρc, List.getElem?_map, hj]
    rw [List.getElem?_eq_getElem (by omega : i < ρ.length), Option.map_some, List.getD_eq_getElem?_getD, List.getElem?_eq_getElem (by omega : i < ρ.length)]; rfl
  have hρd : ∀ (j : Nat) l, j < σ.length → ρ[σ.getD j 0]? = some l → ρc[j]? = some l := by
    intro j l hj h
    rw [hρg j _ (List.getElem?_eq_getElem hj)]
    rw [List.getD_eq_getElem?_getD, List.getElem?_eq_getElem hj] at h
    exact h
  have hρu : ∀ (j : Nat) l, ρc[j]? = some l → ρ[σ.getD j 0]? = some l := by
    intro j l h
    have hj : j < σ.length := by have := (List.getElem?_eq_some_iff.1 h).1; omega
    rw [hρg j _ (List.getElem?_eq_getElem hj)] at h
    rw [List.getD_eq_getElem?_getD, List.getElem?_eq_getElem hj]
    exact h
  -- whose block it is
  have hup : ∀ {os : List AO} {os' : List AO}, (∀ (j : Nat) (o : AO), os[j]? = some o → ∃ i, σ[j]? = some i ∧ os'[i]? = some (o.rn σ)) → ∀ {j b}, foot ρc os j b → ∃ i, σ[j]? = some i ∧ foot ρ os' i b := by
    rintro os os' h j b ⟨o, l, h4, h5, h6, h7⟩
    obtain ⟨i, h8, h9⟩ := h j o h4
    exact ⟨i, h8, o.rn σ, l, h9, by rw [rn_live]; exact h5, by rw [← hρg j i h8]; exact h6, h7⟩
  have hup0 : ∀ {j b}, foot ρc cobjs j b → ∃ i, σ[j]? = some i ∧ foot ρ st.objs i b := hup (fun j o h => by obtain ⟨i, h4, _, h5⟩ := hσo j o h; exact ⟨i, h4, h5⟩)
  have hoth : ∀ {i b}, i ∉ σ → foot ρ st.objs i b → ¬ Own ρc cobjs b := by
    rintro i b hi hft ⟨j, hj⟩
    obtain ⟨x, h4, h5⟩ := hup0 hj
    have := hb.good.dis i x b hft h5
    subst this
    exact hi (List.mem_of_getElem? h4)
  have hownU : ∀ {b}, Own ρc cobjs b → Own ρ st.objs b := by
    rintro b ⟨j, hj⟩
    obtain ⟨x, _, h5⟩ := hup0 hj
    exact ⟨x, h5⟩
  have hbanU : ∀ b, @Ban ⟨fun b => Zs.z b ∨ (Own ρ st.objs b ∧ ¬ Own ρc cobjs b)⟩ ρc cobjs b → Ban ρ st.objs b := by
    rintro b (h | h | h)
    · exact .inl (hownU h)
    · exact .inr h
    · exact .inl h.1
  have hgood : @Good ⟨fun b => Zs.z b ∨ (Own ρ st.objs b ∧ ¬ Own ρc cobjs b)⟩ ρc w cobjs := by
    refine @Good.mk ⟨fun b => Zs.z b ∨ (Own ρ st.objs b ∧ ¬ Own ρc cobjs b)⟩ _ _ _ hρl (fun j o hj => ?_) (fun i j b hi hj => ?_) (fun j b hj hz => ?_) (fun b hz => ?_) (hb.good.tt.step (Same.refl _ _) fun b _ h => hownU h)
    · obtain ⟨i, h4, h5, h6⟩ := hσo j o hj
      have hs := hb.good.sat i _ h6
      have hρi := hρg j i h4
      cases o with
      | gone => trivial
      | mat e e' m => obtain ⟨v, us, a1, a2⟩ := hs; exact ⟨v, us, hρi.trans a1, a2⟩
      | mp m => obtain ⟨v, us, a1, a2⟩ := hs; exact ⟨v, us, hρi.trans a1, a2⟩
      | bld T e cs => obtain ⟨b, v, a1, a2⟩ := hs; exact ⟨b, v, hρi.trans a1, a2⟩
      | row e sz cs =>
        obtain ⟨v, n, us, a1, a2, a3, a4⟩ := hs
        refine ⟨v, n, us, hρi.trans a1, a2, a3, fun i dt hi => ?_⟩
        obtain ⟨u, hu, hr⟩ := a4 i dt hi
        exact ⟨u, hu, hr.mono (Same.refl _ _) (fun b _ h => hbanU b h)⟩
      | box l =>
        obtain ⟨b, arr, T, a1, a2, a3, a4⟩ := hs
        refine ⟨b, arr, T, hρi.trans a1, a2, by rw [a3, rnl_len], fun i av hi => ?_⟩
        obtain ⟨v, hv', hgv⟩ := a4 i (av.rn σ) (by rw [rnl_get, hi]; rfl)
        have hinl : AV.innl σ.length l = true := List.all_eq_true.1 hin _ (List.mem_of_getElem? hj)
        exact ⟨v, hv', rn_down hbanU hρd hgv av rfl (innl_get hinl hi)⟩
    · obtain ⟨x, h4, h5⟩ := hup0 hi
      obtain ⟨y, h6, h7⟩ := hup0 hj
      have := hb.good.dis x y b h5 h7
      subst this
      exact hinj i j x h4 h6
    · rcases hz with h | h
      · obtain ⟨x, _, h5⟩ := hup0 hj
        exact hb.good.zf x b h5 h
      · exact h.2 ⟨j, hj⟩
    · rcases hz with h | ⟨⟨i, h⟩, _⟩
      · exact hb.good.zl b h
      · exact foot_lt hb.good h
  have hal : evs st xs ++ caps = args.map (AV.rn σ) := hv
  have hsz : (xs.map a.eval ++ cs).size = args.length := by
    have : (evs st xs ++ caps).length = args.length := by rw [hal, List.length_map]
    rw [← this]; simp [evs, h2]
  have hargs : ∀ (i : Nat) (av : AV) (v : Value), args[i]? = some av → (xs.map a.eval ++ cs)[i]? = some v → Gm ρc w (@Ban ⟨fun b => Zs.z b ∨ (Own ρ st.objs b ∧ ¬ Own ρc cobjs b)⟩ ρc cobjs) av v := by
    intro i av v ha hv
    have hx : (evs st xs ++ caps)[i]? = some (av.rn σ) := by rw [hal, List.getElem?_map, ha]; rfl
    have hin2 : av.inn σ.length = true := List.all_eq_true.1 hia _ (List.mem_of_getElem? ha)
    have hxs : (evs st xs).length = xs.size := by simp [evs]
    have hg : Gm ρ w (Ban ρ st.objs) (av.rn σ) v := by
      by_cases hlt : i < xs.size
      · rw [List.getElem?_append_left (by omega)] at hx
        have e1 : av.rn σ = st.ev xs[i] := by
          have e3 : (evs st xs)[i]? = some (st.ev xs[i]) := by simp [evs, hlt]
          exact Option.some.inj (hx.symm.trans e3)
        have e2 : v = a.eval xs[i] := by
          rw [Array.getElem?_append_left (by simpa using hlt)] at hv
          simp [hlt] at hv; exact hv.symm
        rw [e1, e2]; exact hb.ev _
      · rw [Array.getElem?_append_right (by simp; omega)] at hv
        rw [List.getElem?_append_right (by omega), hxs] at hx
        exact h3 _ _ v hx (by simpa using hv)
    exact rn_down hbanU hρd hg av rfl hin2
  unfold wpList
  rw [if_pos (by simp [Region.wanted])]
  left
  unfold Oper.wp
  rw [exec_call hc.1 h1]
  obtain ⟨hc1, hc2⟩ := hc
  refine (@hc2 ⟨fun b => Zs.z b ∨ (Own ρ st.objs b ∧ ¬ Own ρc cobjs b)⟩ ρc w _ hgood hsz hargs).mono ?_
  rintro e w' ⟨u, ρ', rfl, hs, ⟨gl, gs, gd, gz, gzl, _⟩, hgm, hext, hfr⟩
  obtain ⟨ρn, hρn⟩ : ∃ ρn : Ids, ρn = ρ ++ ρ'.drop σ.length := ⟨_, rfl⟩
  have hσl : σ'.length = σ.length + m := by rw [hσ', List.length_append, List.length_map, List.length_range]
  have hnl : ρn.length = st.objs.length + m := by rw [hρn, List.length_append, List.length_drop]; omega
  have hρe : ∀ (id : Nat) l, ρ[id]? = some l → ρn[id]? = some l := fun id l h => by
    have := (List.getElem?_eq_some_iff.1 h).1
    rw [hρn, List.getElem?_append_left this]; exact h
  have hσlo : ∀ (j i : Nat), σ[j]? = some i → σ'[j]? = some i := fun j i h => by
    have := (List.getElem?_eq_some_iff.1 h).1
    rw [hσ', List.getElem?_append_left this]; exact h
  have hσc : ∀ (j i : Nat), σ'[j]? = some i → σ[j]? = some i ∨ (σ.length ≤ j ∧ j < σ.length + m ∧ i = j - σ.length + st.objs.length) := fun j i h => by
    have hj := (List.getElem?_eq_some_iff.1 h).1
    by_cases hlt : j < σ.length
    · rw [hσ', List.getElem?_append_left hlt] at h; exact .inl h
    · rw [hσ', List.getElem?_append_right (by omega), List.getElem?_map, List.getElem?_range (by omega)] at h
      exact .inr ⟨by omega, by omega, (Option.some.inj h).symm⟩
  have hρg2 : ∀ (j i : Nat), σ'[j]? = some i → ρ'[j]? = ρn[i]? := fun j i h => by
    rcases hσc j i h with h2 | ⟨h2, h3, rfl⟩
    · have hj := (List.getElem?_eq_some_iff.1 h2).1
      have hi := hσb i (List.mem_of_getElem? h2)
      rw [hρn, List.getElem?_append_left (by omega), ← hρg j i h2, List.getElem?_eq_getElem (by omega : j < ρc.length)]
      exact hext j _ (List.getElem?_eq_getElem _)
    · rw [hρn, List.getElem?_append_right (by omega), List.getElem?_drop]
      congr 1; omega
  have hρu2 : ∀ (j : Nat) l, ρ'[j]? = some l → ρn[σ'.getD j 0]? = some l := fun j l h => by
    have hj : j < σ'.length := by have := (List.getElem?_eq_some_iff.1 h).1; omega
    rw [hρg2 j _ (List.getElem?_eq_getElem hj)] at h
    rw [List.getD_eq_getElem?_getD, List.getElem?_eq_getElem hj]
    exact h
  have htk : ((cobjs'.take σ.length).map (AO.rn σ')).length = σ.length := by rw [List.length_map, List.length_take]; omega
  have hPl : (putL st.objs σ ((cobjs'.take σ.length).map (AO.rn σ'))).length = st.objs.length := putL_len _ _ _
  have hOl : (putL st.objs σ ((cobjs'.take σ.length).map (AO.rn σ')) ++ (cobjs'.drop σ.length).map (AO.rn σ')).length = st.objs.length + m := by
    rw [List.length_append, hPl, List.length_map, List.length_drop]; omega
  have hOin : ∀ (j i : Nat), σ'[j]? = some i → (putL st.objs σ ((cobjs'.take σ.length).map (AO.rn σ')) ++ (cobjs'.drop σ.length).map (AO.rn σ'))[i]? = (cobjs'[j]?).map (AO.rn σ') := by
    intro j i h
    rcases hσc j i h with h2 | ⟨h2, h3, rfl⟩
    · have hj := (List.getElem?_eq_some_iff.1 h2).1
      have hi := hσb i (List.mem_of_getElem? h2)
      rw [List.getElem?_append_left (by rw [hPl]; exact hi), putL_in σ _ _ j i hnd (by rw [htk]) hσb h2, List.getElem?_map, List.getElem?_take, if_pos hj]
    · rw [List.getElem?_append_right (by rw [hPl]; omega), hPl, List.getElem?_map, List.getElem?_drop]
      congr 2; omega
  have hOout : ∀ i, i ∉ σ' → (putL st.objs σ ((cobjs'.take σ.length).map (AO.rn σ')) ++ (cobjs'.drop σ.length).map (AO.rn σ'))[i]? = st.objs[i]? := fun i hi => by
    have h1 : i ∉ σ := fun h => hi (by rw [hσ']; exact List.mem_append_left _ h)
    by_cases hlt : i < st.objs.length
    · rw [List.getElem?_append_left (by rw [hPl]; exact hlt)]; exact putL_out σ _ _ i h1
    · have h2 : st.objs.length + m ≤ i := by
        by_cases h3 : st.objs.length + m ≤ i
        · exact h3
        · exact absurd (by rw [hσ']; exact List.mem_append_right _ (List.mem_map.2 ⟨i - st.objs.length, List.mem_range.2 (by omega), by omega⟩)) hi
      rw [List.getElem?_eq_none (by rw [hOl]; exact h2), List.getElem?_eq_none (by omega)]
  generalize putL st.objs σ ((cobjs'.take σ.length).map (AO.rn σ')) ++ (cobjs'.drop σ.length).map (AO.rn σ') = O' at *
  have hsub : ∀ i, i ∉ σ' → i ∉ σ := fun i hi h => hi (by rw [hσ']; exact List.mem_append_left _ h)
  have hmem : ∀ i, i ∈ σ' → ∃ j, σ'[j]? = some i := fun i hi => by
    obtain ⟨j, hj, rfl⟩ := List.getElem_of_mem hi
    exact ⟨j, List.getElem?_eq_getElem hj⟩
  have hft : ∀ {i b}, foot ρn O' i b → (∃ j, σ'[j]? = some i ∧ foot ρ' cobjs' j b) ∨ (i ∉ σ' ∧ foot ρ st.objs i b) := by
    rintro i b ⟨o, l, h4, h5, h6, h7⟩
    by_cases hi : i ∈ σ'
    · obtain ⟨j, hj⟩ := hmem i hi
      left
      rw [hOin j i hj] at h4
      obtain ⟨o0, h8, rfl⟩ := Option.map_eq_some_iff.1 h4
      exact ⟨j, hj, o0, l, h8, by rw [← rn_live σ']; exact h5, by rw [hρg2 j i hj]; exact h6, h7⟩
    · rw [hOout i hi] at h4
      have hlt := (List.getElem?_eq_some_iff.1 h4).1
      rw [hρn, List.getElem?_append_left (by omega)] at h6
      exact .inr ⟨hi, o, l, h4, h5, h6, h7⟩
  have hban : ∀ b, Ban ρn O' b → @Ban ⟨fun b => Zs.z b ∨ (Own ρ st.objs b ∧ ¬ Own ρc cobjs b)⟩ ρ' cobjs' b := by
    rintro b (⟨i, h⟩ | hz)
    · rcases hft h with ⟨j, _, h4⟩ | ⟨h4, h5⟩
      · exact .inl ⟨j, h4⟩
      · exact .inr (.inr ⟨⟨i, h5⟩, hoth (hsub i h4) h5⟩)
    · exact .inr (.inl hz)
  have hM : ∀ b, b < w.heap.size → Own ρn O' b → Own ρ st.objs b := by
    rintro b hlt ⟨i, h⟩
    rcases hft h with ⟨j, _, h4⟩ | ⟨_, h5⟩
    · exact hownU (hfr b ⟨j, h4⟩ hlt)
    · exact ⟨i, h5⟩
  have hs' : Same (Own ρ st.objs) w w' := ⟨hs.os, hs.tape, hs.output, hs.size, fun k hk hn => hs.block k hk (fun h => hn (hownU h))⟩
  have hgood' : Good ρn w' O' := by
    refine ⟨by rw [hOl]; exact hnl, fun i o hi => ?_, fun i j b hi hj => ?_, fun i b hi hz => ?_, fun b hz => Nat.lt_of_lt_of_le (hb.good.zl b hz) hs.size, hb.good.tt.step hs' hM⟩
    · by_cases hiσ : i ∈ σ'
      · obtain ⟨j, hj⟩ := hmem i hiσ
        rw [hOin j i hj] at hi
        obtain ⟨o0, h8, rfl⟩ := Option.map_eq_some_iff.1 hi
        have hsat := gs j o0 h8
        have hρi := (hρg2 j i hj).symm
        cases o0 with
        | gone => trivial
        | mat e e' m => obtain ⟨v, us, a1, a2⟩ := hsat; exact ⟨v, us, hρi.trans a1, a2⟩
        | mp m => obtain ⟨v, us, a1, a2⟩ := hsat; exact ⟨v, us, hρi.trans a1, a2⟩
        | bld T e cs => obtain ⟨b, v, a1, a2⟩ := hsat; exact ⟨b, v, hρi.trans a1, a2⟩
        | row e sz cs =>
          obtain ⟨v, n, us, a1, a2, a3, a4⟩ := hsat
          refine ⟨v, n, us, hρi.trans a1, a2, a3, fun i dt hi => ?_⟩
          obtain ⟨u, hu, hr⟩ := a4 i dt hi
          exact ⟨u, hu, hr.mono (Same.refl _ _) (fun b _ h => hban b h)⟩
        | box l =>
          obtain ⟨b, arr, T, a1, a2, a3, a4⟩ := hsat
          refine ⟨b, arr, T, hρi.trans a1, a2, by rw [rnl_len]; exact a3, fun i av hi => ?_⟩
          rw [rnl_get] at hi
          obtain ⟨av0, h11, rfl⟩ := Option.map_eq_some_iff.1 hi
          obtain ⟨v, hv, hgv⟩ := a4 i av0 h11
          exact ⟨v, hv, rn_up hban hρu2 hgv⟩
      · rw [hOout i hiσ] at hi
        have hsat0 := hb.good.sat i o hi
        by_cases hl : o.live = true
        · refine hsat0.keep hs' hρe hM fun l v b h1 h2 h3 _ => ?_
          have hf0 : foot ρ st.objs i b := ⟨o, l, hi, hl, h1, v, h2, h3⟩
          exact hs.block b (foot_lt hb.good hf0) (hoth (hsub i hiσ) hf0)
        · cases o with
          | gone => trivial
          | _ => exact absurd rfl hl
    · rcases hft hi with ⟨x, a1, a2⟩ | ⟨a1, a2⟩ <;> rcases hft hj with ⟨y, b1, b2⟩ | ⟨b1, b2⟩
      · have := gd x y b a2 b2
        subst this
        exact Option.some.inj (a1.symm.trans b1)
      · exact absurd (Or.inr ⟨⟨j, b2⟩, hoth (hsub j b1) b2⟩) (gz x b a2)
      · exact absurd (Or.inr ⟨⟨i, a2⟩, hoth (hsub i a1) a2⟩) (gz y b b2)
      · exact hb.good.dis i j b a2 b2
    · rcases hft hi with ⟨x, a1, a2⟩ | ⟨a1, a2⟩
      · exact gz x b a2 (Or.inl hz)
      · exact hb.good.zf i b a2 hz
  refine hk _ _ (Rel.step (st2 := St.put ⟨st.n, st.vars, O'⟩ d (res.rn σ')) hr hfoot h0 hs' hρe hM
    (RelB.put (st := ⟨st.n, st.vars, O'⟩) ⟨fun t => (hb.frame t).ext hs' hρe hM, hb.size, hb.defers, hgood'⟩ hd (rn_up hban hρu2 hgm)))
end
section
variable {P : Program} {k : Nat} {cx : Cx k} {ops : Array Oper} {Q : Exit → St → Prop} {rest : List Oper} {ty : TypeId} {pos : String} {af : Array Edge} {n : Nat} {vars vars' : List (Nat × AV)} {objs objs' : List AO} {d : Nat}
theorem w_callN [Zs] {g : Operand} {xs : Array Operand} {ats : Array TypeId} {f : FuncId} {caps args : List AV} {res res0 res' : AV} {cobjs news news0 : List AO} (σ : List Nat) (m : Nat) (hf : Callee' ⟨n, vars, objs⟩ g f caps) (hc : AC P f args cobjs res0 news0) (h0 : res0 = res) (h1 : news0 = news)
    (hl1 : σ.length = cobjs.length) (hl2 : news.length = cobjs.length + m) (hnd : σ.Nodup) (ho : σ.map (fun i => objs[i]?) = cobjs.map (fun o => some (o.rn σ))) (hin : cobjs.all (AO.inn σ.length) = true) (hia : args.all (AV.inn σ.length) = true)
    (hv : evs ⟨n, vars, objs⟩ xs ++ caps = args.map (AV.rn σ)) (hO : putL objs σ ((news.take σ.length).map (AO.rn (σ ++ (List.range m).map (· + objs.length)))) ++ (news.drop σ.length).map (AO.rn (σ ++ (List.range m).map (· + objs.length))) = objs') (hr : res.rn (σ ++ (List.range m).map (· + objs.length)) = res') (hd : Nat.blt d n = true) (hk : aL P cx ops Q rest ⟨n, (d, res') :: vars, objs'⟩) :
    aL P cx ops Q (⟨some d, .call ⟨.value g, xs, ats⟩, ty, pos, af, none⟩ :: rest) ⟨n, vars, objs⟩ := by
  subst h0; subst h1; subst hO; subst hr
  exact l_callN σ _ m rfl hf hc hl1 hl2 hnd ho hin hia hv hd hk
end
end Go.Proofs.YtbgecpjlopdkfaaDoor
