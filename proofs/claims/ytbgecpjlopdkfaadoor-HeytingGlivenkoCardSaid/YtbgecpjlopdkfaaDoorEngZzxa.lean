import Derived.Test.YtbgecpjlopdkfaaDoorEngZzx
import Derived.Test.YtbgecpjlopdkfaaDoorHfa
set_option linter.unusedSimpArgs false
set_option linter.unusedVariables false
set_option linter.unusedSectionVars false
namespace Go.Proofs.YtbgecpjlopdkfaaDoor
open Go.ChangeShapes Go.WideShapes Go.RowKit Go.Deep
section
variable {H : Type} {enc : TypeId × Value → H} {P : Program} {w : World} {base : Nat} {spare : Nat → Bool} {held : Bool} {fuel : Nat} {cs : List Value} {x : DataW H × List MemPlace} {t e : TypeId}
theorem gatherS {es : List (DataW H)} : ∀ {dss : List (List Dat)}, dss.length = es.length → (∀ (i : Nat) ds d, dss[i]? = some ds → es[i]? = some d → ∃ t : Tr, ds = t.dc ∧ t.sml) → ∃ l : List Tr, dss = l.map Tr.dc ∧ ksml l := by
  induction es with
  | nil =>
    intro dss hl _
    exact ⟨[], List.length_eq_zero_iff.1 hl, by unfold ksml; trivial⟩
  | cons d es ih =>
    intro dss hl h
    match dss, hl with
    | ds :: dss, hl =>
      obtain ⟨t, ht, hc⟩ := h 0 ds d rfl rfl
      obtain ⟨l, e, hk⟩ := ih (dss := dss) (by simpa using hl) fun i ds d h1 h2 => h (i + 1) ds d h1 h2
      refine ⟨t :: l, by rw [ht, e]; rfl, ?_⟩
      unfold ksml
      exact ⟨hc, hk⟩
theorem rd_treeS {f0 f1 f2 : Field} (ht : P.underlying t = some (.struct #[f0, f1, f2])) (hC : P.cellsOf t = 3) (o0 : f0.offset = 0) (o1 : f1.offset = 1) (o2 : f2.offset = 2) (h0 : P.underlying f0.type = some (.int .i64)) (h1 : P.underlying f1.type = some (.int .i64))
    (c0 : P.cellsOf f0.type = 1) (c1 : P.cellsOf f1.type = 1) (h2 : P.underlying f2.type = some (.slice t)) (c2 : P.cellsOf f2.type = 1) : ∀ (fuel : Nat) (cs : List Value) (x : DataW H × List MemPlace), DataW.trod enc P w base spare held fuel t cs = some x →
    ∃ (k p : Int) (l : List Tr) (u : Value), cs = [.int .i64 k, .int .i64 p, u] ∧ Rd w noM u (.sl 3 (kdc l)) ∧ (Tr.mk k p l).sml := by
  intro fuel
  induction fuel using Nat.strongRecOn with
  | ind fuel ih =>
    intro cs x h
    obtain ⟨xs, m, hm, hx, h5, hlen, hg⟩ := DataW.trod_struct ht h
    rw [hC] at h5
    match cs, h5, xs, hlen with
    | [v0, v1, v2], _, [x0, x1, x2], _ =>
      have g0 := hg 0 f0 rfl
      have g1 := hg 1 f1 rfl
      have g2 := hg 2 f2 rfl
      simp [o0, o1, o2, c0, c1, c2] at g0 g1 g2
      obtain ⟨k, e0, b0⟩ := rd_int h0 g0
      obtain ⟨p, e1, b1⟩ := rd_int h1 g1
      simp at e0 e1
      subst e0; subst e1
      obtain ⟨v, dss, e2, hr, hd⟩ := rd_sliceX h2 hC (fun ds d => ∃ t : Tr, ds = t.dc ∧ t.sml) (fun n cs' y hn hy => by
        obtain ⟨k', p', l', u', rfl, hr', hb'⟩ := ih n (by omega) cs' y hy
        refine ⟨(Tr.mk k' p' l').dc, by rw [dc_len]; rfl, fun j v d hv hd => ?_, _, rfl, hb'⟩
        unfold Tr.dc at hd
        match j with
        | 0 => simp at hv hd; subst hv; subst hd; exact .val _
        | 1 => simp at hv hd; subst hv; subst hd; exact .val _
        | 2 => simp at hv hd; subst hv; subst hd; exact hr'
        | j + 3 => simp at hv) g2
      simp at e2
      subst e2
      have hlen2 : dss.length ≤ 9223372036854775807 := by
        rcases DataW.trod_slice h2 g2 with ⟨_, hx2⟩ | ⟨a, len, cap, elems, rest, n, _, _, hx2, _, hl, hcap, hm2, _, _, _⟩
        · rcases hd with ⟨_, rfl⟩ | ⟨es, sp, e3, _, _⟩
          · exact Nat.zero_le _
          · rw [hx2] at e3; cases e3
        · rcases hd with ⟨_, rfl⟩ | ⟨es, sp, e3, hdl, _⟩
          · exact Nat.zero_le _
          · rw [hx2] at e3
            injection e3 with e4 e5
            rw [hdl, ← e4, List.length_map, hm2]
            simpa [maxLen] using Nat.le_trans hl hcap
      rcases hd with ⟨e3, rfl⟩ | ⟨es, sp, e3, hdl, hdd⟩
      · refine ⟨k, p, [], v2, rfl, ?_, ?_⟩
        · unfold kdc; exact hr
        · unfold Tr.sml ksml; exact ⟨Nat.zero_le _, trivial⟩
      · obtain ⟨l, e4, hk⟩ := gatherS hdl hdd
        refine ⟨k, p, l, v2, rfl, ?_, ?_⟩
        · rw [← kdc_flat, ← e4]; exact hr
        · unfold Tr.sml
          refine ⟨?_, hk⟩
          rw [e4, List.length_map] at hlen2
          exact hlen2
end
section
variable {H : Type} {enc : TypeId × Value → H} {P : Program} {w : World} {base : Nat} {spare : Nat → Bool} {held : Bool} {t e : TypeId} {v : Value} {d : DataW H} {ps : List MemPlace} {r : Go.Reach} {b0 : Nat}
theorem arg_treeS {f0 f1 f2 : Field} (ht : P.underlying t = some (.struct #[f0, f1, f2])) (hC : P.cellsOf t = 3) (o0 : f0.offset = 0) (o1 : f1.offset = 1) (o2 : f2.offset = 2) (h0 : P.underlying f0.type = some (.int .i64)) (h1 : P.underlying f1.type = some (.int .i64))
    (c0 : P.cellsOf f0.type = 1) (c1 : P.cellsOf f1.type = 1) (h2 : P.underlying f2.type = some (.slice t)) (c2 : P.cellsOf f2.type = 1) (hval : Value.okWide P w r b0 t v) (hd : DataW.Trod enc P w base spare held t v d ps) :
    ∃ k p l u, v = .agg #[.int .i64 k, .int .i64 p, u] ∧ Rd w noM u (.sl 3 (kdc l)) ∧ (Tr.mk k p l).sml := by
  obtain ⟨cs, rfl, hsz⟩ := okWide_struct ht hval
  obtain ⟨fuel, hf⟩ := hd
  obtain ⟨k, p, l, u, e, h3, h4⟩ := rd_treeS ht hC o0 o1 o2 h0 h1 c0 c1 h2 c2 fuel _ _ hf
  refine ⟨k, p, l, u, ?_, h3, h4⟩
  obtain ⟨lst⟩ := cs
  simp only [Value.cells] at e
  rw [e]
end
/-! A formula that is not so: two formulas in a row; a list of no kids read as such. -/
theorem dc_oneF : ∀ t : Tr, t.dc.all Dat.one = true
  | .mk _ _ _ => by unfold Tr.dc; rfl
theorem rd_weak {w : World} {M : Nat → Prop} {u : Value} {sz : Nat} {cs cs' : List Dat} (h : Rd w M u (.sl sz cs)) (hl : cs'.length = cs.length) (hw : ∀ (k : Nat) d', cs'[k]? = some d' → ∃ d, cs[k]? = some d ∧ ∀ v, Rd w M v d → Rd w M v d') : Rd w M u (.sl sz cs') := by
  cases h with
  | nil _ =>
    have : cs' = [] := List.length_eq_zero_iff.1 hl
    subst this; exact .nil sz
  | sl a n cap _ _ us hn hsp hM hc hr =>
    refine .sl a n cap sz cs' us (by omega) hsp (fun k hk => hM k (by omega)) (fun k d' hk => ?_) (fun k d' hk => ?_)
    · obtain ⟨d, h1, _⟩ := hw k d' hk
      exact hc k d h1
    · obtain ⟨d, h1, h2⟩ := hw k d' hk
      exact h2 _ (hr k d h1)
theorem AC.resW {P : Program} {f : FuncId} {args : List AV} {res res' : AV} (h : AC P f args [] res []) (hw : ∀ (ρ : Ids) (w : World) (M : Nat → Prop) (v : Value), Gm ρ w M res v → Gm ρ w M res' v) : AC P f args [] res' [] := by
  obtain ⟨h1, h2⟩ := h
  refine ⟨h1, ?_⟩
  intro _ ρ w vs hg hsz ha
  refine Calls.mono (h2 ρ w vs hg hsz ha) ?_
  rintro e w' ⟨v, ρ', he, hs, hg', hm, hid, hown⟩
  exact ⟨v, ρ', he, hs, hg', hw _ _ _ _ hm, hid, hown⟩
def ntD : List Dat := [.val (.int .i64 1), .val (.int .i64 0), .val (.slice none 0 0)]
theorem ntD_ev : ntD.map ofD = [AV.val (.int .i64 1), AV.val (.int .i64 0), AV.val (.slice none 0 0)] := rfl
section
variable {P : Program} {k : Nat} {cx : Cx k} {ops : Array Oper} {Q : Exit → St → Prop} {rest : List Oper} {ty : TypeId} {pos : String} {af : Array Edge} {n m : Nat} {vars : List (Nat × AV)} {objs objs' : List AO} {d : Nat}
theorem w_lit_two [Zs] {T e : TypeId} {by' : Nat} {z : Value} {x y : Operand} {t : Tr} (hx : (⟨n, vars, objs⟩ : St).ev x = tv t) (hy : (⟨n, vars, objs⟩ : St).ev y = .agg (ntD.map ofD)) (ht : SlT P T e 3) (hmk : MkT P e z 3 by')
    (ho : objs ++ [.row e 3 (t.dc ++ ntD)] = objs') (hm : objs.length = m) (hd : Nat.blt d n = true) (hk : aL P cx ops Q rest ⟨n, (d, .own m) :: vars, objs'⟩) :
    aL P cx ops Q (⟨some d, .buildSlice T 2 #[(0, x), (1, y)], ty, pos, af, none⟩ :: rest) ⟨n, vars, objs⟩ := by
  subst ho; subst hm
  exact l_lit (xs := [x, y]) (cs := t.dc ++ ntD) rfl rfl ht hmk (by decide) (by decide) ⟨t.dc, ntD, by rw [hx]; rfl, dc_len t, dc_oneF t, ⟨ntD, [], by rw [hy]; rfl, rfl, rfl, rfl, rfl⟩, rfl⟩ hd hk
end
end Go.Proofs.YtbgecpjlopdkfaaDoor
