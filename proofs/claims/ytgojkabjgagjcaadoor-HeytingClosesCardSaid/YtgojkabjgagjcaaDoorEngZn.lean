import Derived.Test.YtgojkabjgagjcaaDoorEngT
set_option linter.unusedSimpArgs false
set_option linter.unusedVariables false
set_option linter.unusedSectionVars false
namespace Go.Proofs.YtgojkabjgagjcaaDoor
open Go.RowKit
section
variable {P : Program} {st : St} {ty : TypeId} {pos : String} {af : Array Edge}
theorem g_callD {d : Tmp} {g : Operand} {xs : Array Operand} {ats : Array TypeId} {f : FuncId} {caps args : List AV} {res : AV} {objs' : List AO} (hf : Callee' st g f caps) (hc : AC P f args [] res objs') (hv : VsL (evs st xs ++ caps) args) :
    GOp P ⟨some d, .call ⟨.value g, xs, ats⟩, ty, pos, af, none⟩ d st ⟨st.n, st.vars, st.objs ++ objs'.map (AO.sh st.objs.length)⟩ (res.sh st.objs.length) := by
  refine ⟨rfl, rfl, fun zs ρ w a hb nx R hnx => ?_⟩
  obtain ⟨cs, h1, h2, h3⟩ := callee_val hb hf
  obtain ⟨hv1, hv2⟩ := vsL_spec hv
  have hsz : (xs.map a.eval ++ cs).size = args.length := by rw [← hv1]; simp [evs, h2]
  unfold Oper.wp
  rw [exec_call hc.1 h1]
  have nofoot : ∀ {ρ : Ids} {id b : Nat}, foot ρ [] id b → False := fun h => by obtain ⟨o, l, h6, _⟩ := h; simp at h6
  have hgood : @Good ⟨Ban ρ st.objs⟩ [] w [] := @Good.mk ⟨Ban ρ st.objs⟩ _ _ _ rfl (fun id o h => by simp at h) (fun i j b h => (nofoot h).elim) (fun i b h => (nofoot h).elim)
    (fun b hb' => Or.elim (show Own ρ st.objs b ∨ Zs.z b from hb') (fun ⟨id, h⟩ => foot_lt hb.good h) (hb.good.zl b)) (hb.good.tt.step (Same.refl _ _) fun b _ ⟨id, h⟩ => (nofoot h).elim)
  have hargs : ∀ (i : Nat) (av : AV) (v : Value), args[i]? = some av → (xs.map a.eval ++ cs)[i]? = some v → Gm [] w (@Ban ⟨Ban ρ st.objs⟩ [] []) av v := by
    intro i av v ha hv
    have hi : i < (evs st xs ++ caps).length := by rw [hv1]; exact (List.getElem?_eq_some_iff.1 ha).1
    have hx := hv2 i _ av (List.getElem?_eq_getElem hi) ha
    refine hx.gm (ρ := ρ) (M := Ban ρ st.objs) (fun b h => h.elim (fun ⟨id, h⟩ => (nofoot h).elim) id) v ?_
    have hxs : (evs st xs).length = xs.size := by simp [evs]
    by_cases hlt : i < xs.size
    · have e1 : (evs st xs ++ caps)[i] = st.ev xs[i] := by rw [List.getElem_append_left (by rw [hxs]; exact hlt)]; simp [evs]
      have e2 : v = a.eval xs[i] := by
        rw [Array.getElem?_append_left (by simpa using hlt)] at hv
        simp [hlt] at hv; exact hv.symm
      rw [e1, e2]; exact hb.ev _
    · rw [Array.getElem?_append_right (by simp; omega)] at hv
      have e1 : caps[i - xs.size]? = some (evs st xs ++ caps)[i] := by
        rw [← List.getElem?_eq_getElem hi, List.getElem?_append_right (by rw [hxs]; omega), hxs]
      exact h3 _ _ v e1 (by simpa using hv)
  obtain ⟨hc1, hc2⟩ := hc
  refine (@hc2 ⟨Ban ρ st.objs⟩ [] w _ hgood hsz hargs).mono ?_
  rintro e w' ⟨u, ρ', rfl, hs, ⟨gl, gs, gd, _, _, _⟩, hgm, _, hfr⟩
  have hbel := hs.below (fun x _ ⟨id, h⟩ => nofoot h)
  have hfr' : ∀ b, Own ρ' objs' b → w.heap.size ≤ b := by
    intro b h
    rcases Nat.lt_or_ge b w.heap.size with hlt | hge
    · obtain ⟨id, h6⟩ := hfr b h hlt; exact (nofoot h6).elim
    · exact hge
  have hlen := hb.good.len
  have hext : ∀ (id : Nat) l, ρ'[id]? = some l → (ρ ++ ρ')[st.objs.length + id]? = some l := by
    intro id l h
    rw [List.getElem?_append_right (by omega), hlen, Nat.add_sub_cancel_left]; exact h
  have hfnew : ∀ id b, st.objs.length ≤ id → foot (ρ ++ ρ') (st.objs ++ objs'.map (AO.sh st.objs.length)) id b → foot ρ' objs' (id - st.objs.length) b := by
    rintro id b hle ⟨o, l, h6, h7, h8, h9⟩
    rw [List.getElem?_append_right hle, List.getElem?_map] at h6
    obtain ⟨o0, h10, rfl⟩ := Option.map_eq_some_iff.1 h6
    rw [List.getElem?_append_right (by omega), hlen] at h8
    refine ⟨o0, l, h10, ?_, h8, h9⟩
    cases o0 <;> first | rfl | cases h7
  have hban : ∀ b, Ban (ρ ++ ρ') (st.objs ++ objs'.map (AO.sh st.objs.length)) b → @Ban ⟨Ban ρ st.objs⟩ ρ' objs' b := by
    rintro b (⟨id, h⟩ | hz)
    · rcases foot_app hlen h with ⟨_, h⟩ | ⟨h5, h6⟩
      · exact .inr (.inl ⟨id, h⟩)
      · exact .inl ⟨_, hfnew id b h5 h6⟩
    · exact .inr (.inr hz)
  have happ := hb.good.app (w' := w') (ls := ρ') (os := objs'.map (AO.sh st.objs.length)) (Same.of_below hbel _) (fun b ⟨id, h⟩ => hbel.block b (foot_lt hb.good h)) (by simp [gl])
    (fun id b h6 h7 => hfr' b ⟨_, hfnew id b h6 h7⟩) (fun i j b h6 h7 h8 h9 => by have := gd _ _ b (hfnew i b h6 h8) (hfnew j b h7 h9); omega) (fun i o hi => by
      rw [List.getElem?_map] at hi
      obtain ⟨o0, h10, rfl⟩ := Option.map_eq_some_iff.1 hi
      have hsat := gs i o0 h10
      cases o0 with
      | gone => trivial
      | mat e e' m => obtain ⟨v, us, a1, a2⟩ := hsat; exact ⟨v, us, hext _ _ a1, a2⟩
      | mp m => obtain ⟨v, us, a1, a2⟩ := hsat; exact ⟨v, us, hext _ _ a1, a2⟩
      | row e sz cs =>
        obtain ⟨v, n, us, a1, a2, a3, a4⟩ := hsat
        refine ⟨v, n, us, hext _ _ a1, a2, a3, fun i dt hi => ?_⟩
        obtain ⟨u, hu, hr⟩ := a4 i dt hi
        exact ⟨u, hu, hr.mono (Same.refl _ _) (fun b _ h => hban b h)⟩
      | box l =>
        obtain ⟨b, arr, T, a1, a2, a3, a4⟩ := hsat
        refine ⟨b, arr, T, hext _ _ a1, a2, by rw [shl_len]; exact a3, fun i av hi => ?_⟩
        rw [shl_get] at hi
        obtain ⟨av0, h11, rfl⟩ := Option.map_eq_some_iff.1 hi
        obtain ⟨v, hv, hgv⟩ := a4 i av0 h11
        exact ⟨v, hv, sh_gm hban hext hgv⟩)
  exact hnx _ _ _ hbel (Same.of_below hbel _) (ext_app ρ ρ') happ.2 happ.1 (sh_gm hban hext hgm)
end
section
variable {P : Program} {ops : Array Oper} {K : St → Prop} {ty : TypeId} {pos : String} {af : Array Edge} {d : Tmp} {objs objs' : List AO} {r : List Nat}
theorem zw_callV [Zs] {kk : Nat} {cx : Cx kk} {l2 : List Oper} {n g f i nn : Nat} {listed : List Bool} {vars : List (Nat × AV)} {g' : Operand} {xs : Array Operand} {ats : Array TypeId} {fn : FuncId} {caps args : List AV} {res res' : AV} (hi : ops[i]? = some ⟨some d, .call ⟨.value g', xs, ats⟩, ty, pos, af, none⟩) (hin : Nat.blt i n = true) (hf : Callee' ⟨nn, vars, objs⟩ g' fn caps) (hc : AC P fn args [] res [])
    (hv : VsL (evs ⟨nn, vars, objs⟩ xs ++ caps) args) (hr' : res.sh objs.length = res') (hd : Nat.blt d nn = true)
    (hz : zL P cx ops K l2 n g f (listed.set i true) ⟨nn, (d, res') :: vars, objs⟩) (hr : zAll P cx ops K l2 n g f listed ⟨nn, vars, objs⟩ r) : zAll P cx ops K l2 n g f listed ⟨nn, vars, objs⟩ (i :: r) := by
  subst hr'
  have hg := g_callD (P := P) (ty := ty) (pos := pos) (af := af) (d := d) (ats := ats) hf hc hv
  simp only [List.map_nil, List.append_nil] at hg
  exact ⟨⟨_, _, _, _, _, _, _, hi, hin, hg, hd, hz⟩, hr⟩
end
end Go.Proofs.YtgojkabjgagjcaaDoor
