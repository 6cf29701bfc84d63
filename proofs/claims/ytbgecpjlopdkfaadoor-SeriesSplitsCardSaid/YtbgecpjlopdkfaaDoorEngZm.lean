import Derived.Test.YtbgecpjlopdkfaaDoorEngT
set_option linter.unusedSimpArgs false
set_option linter.unusedVariables false
set_option linter.unusedSectionVars false
namespace Go.Proofs.YtbgecpjlopdkfaaDoor
mutual
/-- It hangs on nothing of the call's own. -/
def roA : AV → Bool
  | .val _ => true
  | .ro _ => true
  | .rpt _ _ => true
  | .agg l => roL l
  | .tup l => roL l
  | .clo _ l => roL l
  | _ => false
def roL : List AV → Bool
  | [] => true
  | a :: l => roA a && roL l
end
theorem roL_get : ∀ {l : List AV} {i : Nat} {a : AV}, roL l = true → l[i]? = some a → roA a = true
  | [], i, a, _, h => by simp at h
  | b :: l, 0, a, hl, h => by
    simp only [List.getElem?_cons_zero, Option.some.injEq] at h
    subst h
    unfold roL at hl
    exact (Bool.and_eq_true _ _ ▸ hl).1
  | b :: l, i + 1, a, hl, h => by
    unfold roL at hl
    exact roL_get (Bool.and_eq_true _ _ ▸ hl).2 (by simpa using h)
theorem roA_gm {ρ ρ' : Ids} {w : World} {M : Nat → Prop} {av : AV} {v : Value} (h : Gm ρ w M av v) : roA av = true → Gm ρ' w M av v := by
  induction h with
  | val v => exact fun _ => .val v
  | ro d v hr => exact fun _ => .ro d v hr
  | own id v l hv h1 => intro h; unfold roA at h; cases h
  | ptr id off b l hv => intro h; unfold roA at h; cases h
  | ept id k b n cap l hv => intro h; unfold roA at h; cases h
  | rpt a cs off us hsp hMk hc hr => exact fun _ => .rpt a cs off us hsp hMk hc hr
  | agg l vs hl _ ih => exact fun h => .agg l vs hl fun i av v h1 h2 => ih i av v h1 h2 (roL_get (by unfold roA at h; exact h) h1)
  | tup l vs hl _ ih => exact fun h => .tup l vs hl fun i av v h1 h2 => ih i av v h1 h2 (roL_get (by unfold roA at h; exact h) h1)
  | clo f l vs hl _ ih => exact fun h => .clo f l vs hl fun i av v h1 h2 => ih i av v h1 h2 (roL_get (by unfold roA at h; exact h) h1)
  | any v => intro h; unfold roA at h; cases h
mutual
theorem roA_fr : ∀ (a : AV) (id : Nat) (d : Dat), roA a = true → a.fr id d = a
  | .val _, _, _, _ => rfl
  | .ro _, _, _, _ => rfl
  | .rpt _ _, _, _, _ => rfl
  | .agg l, id, d, h => by
    show AV.agg (AV.frl id d l) = _
    rw [roL_frl l id d (by unfold roA at h; exact h)]
  | .tup l, id, d, h => by
    show AV.tup (AV.frl id d l) = _
    rw [roL_frl l id d (by unfold roA at h; exact h)]
  | .clo f l, id, d, h => by
    show AV.clo f (AV.frl id d l) = _
    rw [roL_frl l id d (by unfold roA at h; exact h)]
  | .own _, _, _, h => by unfold roA at h; cases h
  | .ptr _ _, _, _, h => by unfold roA at h; cases h
  | .ept _ _, _, _, h => by unfold roA at h; cases h
  | .any, _, _, h => by unfold roA at h; cases h
theorem roL_frl : ∀ (l : List AV) (id : Nat) (d : Dat), roL l = true → AV.frl id d l = l
  | [], _, _, _ => rfl
  | a :: l, id, d, h => by
    unfold roL at h
    obtain ⟨h1, h2⟩ := Bool.and_eq_true _ _ ▸ h
    show a.fr id d :: AV.frl id d l = _
    rw [roA_fr a id d h1, roL_frl l id d h2]
end
/-- What is known of a function, as a reading. -/
def fnd (cl : AV) : FnD := ⟨fun w M v => Gm [] w M cl v ∧ v.oneCell' = true, fun _ _ _ h => h.2, fun _ _ _ _ _ hs hM h => ⟨h.1.mono hs hM fun _ _ h => h, h.2⟩⟩
theorem Rd.fn_inv {w : World} {M : Nat → Prop} {v : Value} {d : Dat} (h : Rd w M v d) {F : FnD} (e : d = .fn F) : F.p w M v := by
  cases h with
  | fn F' _ hp => cases e; exact hp
  | val => cases e
  | nil => cases e
  | sl => cases e
section
variable {P : Program} {k : Nat} {cx : Cx k} {ops : Array Oper} {Q : Exit → St → Prop} {st : St} {rest : List Oper}
theorem rel_fn [Zs] {a : Act} {w : World} (t : Nat) {cl : AV} (h : st.get t = .ro (.fn (fnd cl))) (hro : roA cl = true) (hr : Rel cx st a w) : Rel cx (st.put t cl) a w := by
  obtain ⟨⟨ρ, hb, hf, h0⟩, hs⟩ := hr
  refine ⟨⟨ρ, ⟨fun t' => ?_, hb.size, hb.defers, hb.good⟩, hf, h0⟩, hs⟩
  show Gm ρ w _ (getv ((t, cl) :: st.vars) t') _
  rw [getv_cons]
  by_cases ht : t = t'
  · subst ht
    rw [if_pos rfl]
    have := hb.frame t
    rw [h] at this
    exact roA_gm (Rd.fn_inv this.ro_inv rfl).1 hro
  · rw [if_neg ht]
    exact hb.frame t'
theorem w_fn [Zs] {n : Nat} {vars : List (Nat × AV)} {objs : List AO} (t : Nat) {cl : AV} (h : St.get ⟨n, vars, objs⟩ t = .ro (.fn (fnd cl))) (hro : roA cl = true) (hk : aL P cx ops Q rest ⟨n, (t, cl) :: vars, objs⟩) : aL P cx ops Q rest ⟨n, vars, objs⟩ :=
  fun a w hr => hk a w (rel_fn t h hro hr)
theorem rel_boxfn [Zs] {a : Act} {w : World} (id o : Nat) {cells : List AV} {cl : AV} (ho : st.objs[id]? = some (.box cells)) (hc : cells[o]? = some cl) (hro : roA cl = true) (h1' : cl.one = true) (hr : Rel cx st a w) :
    Rel cx (st.set id (.box (cells.set o (.ro (.fn (fnd cl)))))) a w := by
  obtain ⟨⟨ρ, hb, hf, h0⟩, hs⟩ := hr
  have hid := (List.getElem?_eq_some_iff.1 ho).1
  have hoc := (List.getElem?_eq_some_iff.1 hc).1
  have hfoot : ∀ {i x}, foot ρ (st.objs.set id (.box (cells.set o (.ro (.fn (fnd cl)))))) i x → foot ρ st.objs i x := by
    intro i x h
    rcases foot_set hid h with ⟨rfl, _, l, h5, h6⟩ | ⟨_, h⟩
    · exact ⟨_, l, ho, rfl, h5, h6⟩
    · exact h
  have hM : ∀ b, Ban ρ (st.objs.set id (.box (cells.set o (.ro (.fn (fnd cl)))))) b → Ban ρ st.objs b := fun b h => h.elim (fun ⟨i, h⟩ => .inl ⟨i, hfoot h⟩) .inr
  have hgm : ∀ {av v}, Gm ρ w (Ban ρ st.objs) av v → Gm ρ w (Ban ρ (st.objs.set id (.box (cells.set o (.ro (.fn (fnd cl))))))) av v := fun h => h.mono (Same.refl _ _) (fun b _ h => hM b h) fun _ _ h => h
  refine ⟨⟨ρ, ⟨fun t' => hgm (hb.frame t'), hb.size, hb.defers, ⟨?_, fun i o2 hi => ?_, fun i j x hi hj => hb.good.dis i j x (hfoot hi) (hfoot hj), fun i x h => hb.good.zf i x (hfoot h), hb.good.zl, hb.good.tt.step (Same.refl _ _) fun b _ ⟨i, h⟩ => ⟨i, hfoot h⟩⟩⟩, fun i b h hlt => hf i b (hfoot h) hlt, h0⟩, hs⟩
  · show ρ.length = (st.objs.set id _).length
    rw [List.length_set]; exact hb.good.len
  · change (st.objs.set id _)[i]? = some o2 at hi
    by_cases he : i = id
    · subst he
      rw [List.getElem?_set_self hid] at hi
      obtain rfl := Option.some.inj hi
      obtain ⟨b, arr, T, a1, a2, a3, a4⟩ := hb.good.sat i _ ho
      refine ⟨b, arr, T, a1, a2, by rw [List.length_set]; exact a3, fun j av hj => ?_⟩
      by_cases hjo : j = o
      · subst hjo
        rw [List.getElem?_set_self hoc] at hj
        obtain rfl := Option.some.inj hj
        obtain ⟨v, hv, hg⟩ := a4 j _ hc
        exact ⟨v, hv, .ro _ _ (.fn _ _ ⟨roA_gm (hgm hg) hro, hg.one h1'⟩)⟩
      · rw [List.getElem?_set_ne (Ne.symm hjo)] at hj
        obtain ⟨v, hv, hg⟩ := a4 j av hj
        exact ⟨v, hv, hgm hg⟩
    · rw [List.getElem?_set_ne (Ne.symm he)] at hi
      have hsat := hb.good.sat i o2 hi
      cases o2 with
      | gone => trivial
      | mat e e' m => exact hsat
      | mp m => exact hsat
      | bld T e cs => exact hsat
      | row e sz cs =>
        obtain ⟨v, n, us, a1, a2, a3, a4⟩ := hsat
        refine ⟨v, n, us, a1, a2, a3, fun j dt hj => ?_⟩
        obtain ⟨u, hu, hrd⟩ := a4 j dt hj
        exact ⟨u, hu, hrd.mono (Same.refl _ _) fun b _ h => hM b h⟩
      | box l =>
        obtain ⟨b, arr, T, a1, a2, a3, a4⟩ := hsat
        refine ⟨b, arr, T, a1, a2, a3, fun j av hj => ?_⟩
        obtain ⟨v, hv, hg⟩ := a4 j av hj
        exact ⟨v, hv, hgm hg⟩
end
end Go.Proofs.YtbgecpjlopdkfaaDoor
