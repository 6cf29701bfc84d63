import Derived.Test.YtdbngpkbamhbeaaEngT
set_option linter.unusedSimpArgs false
set_option linter.unusedVariables false
set_option linter.unusedSectionVars false
namespace Go.Proofs.Ytdbngpkbamhbeaa
open Go.RowKit
def frm (l : List AO) : List AO := l.map fun o => match o with | .box _ => .gone | o => o
def thaw : List AO → List AO → List AO
  | o :: l, o' :: l' => (match o with | .box c => .box c | _ => o') :: thaw l l'
  | [], l' => l'
  | _ :: _, [] => []
theorem thaw_len : ∀ {l l' : List AO}, (thaw l l').length = l'.length
  | [], l' => by cases l' <;> rfl
  | _ :: _, [] => rfl
  | o :: l, o' :: l' => by simp only [thaw, List.length_cons]; rw [thaw_len]
theorem thaw_box : ∀ {l l' : List AO} {id : Nat} {c : List AV}, l[id]? = some (.box c) → l.length ≤ l'.length → (thaw l l')[id]? = some (.box c)
  | [], _, id, c, h, _ => by simp at h
  | _ :: _, [], _, _, _, hl => by simp at hl
  | o :: l, o' :: l', 0, c, h, _ => by
    simp only [List.getElem?_cons_zero, Option.some.injEq] at h
    subst h
    rfl
  | o :: l, o' :: l', id + 1, c, h, hl => by
    simp only [List.getElem?_cons_succ] at h
    simp only [thaw, List.getElem?_cons_succ]
    exact thaw_box h (by simpa using hl)
theorem thaw_not : ∀ {l l' : List AO} {id : Nat}, (∀ c, l[id]? ≠ some (.box c)) → (thaw l l')[id]? = l'[id]?
  | [], l', id, _ => by cases l' <;> rfl
  | _ :: _, [], _, _ => rfl
  | o :: l, o' :: l', 0, h => by
    cases o with
    | box c => exact absurd rfl (h c)
    | _ => rfl
  | o :: l, o' :: l', id + 1, h => by
    simp only [thaw, List.getElem?_cons_succ]
    exact thaw_not fun c hc => h c (by simpa using hc)
theorem foot_frm {ρ : Ids} {objs : List AO} {id b : Nat} : foot ρ (frm objs) id b ↔ foot ρ objs id b ∧ ∀ c, objs[id]? ≠ some (.box c) := by
  constructor
  · rintro ⟨o, l, h1, h2, h3, h4⟩
    unfold frm at h1
    rw [List.getElem?_map] at h1
    obtain ⟨o0, h5, h6⟩ := Option.map_eq_some_iff.1 h1
    cases o0 with
    | box c => simp only at h6; subst h6; cases h2
    | row e sz cs => simp only at h6; subst h6; exact ⟨⟨_, l, h5, rfl, h3, h4⟩, fun c hc => by rw [h5] at hc; cases hc⟩
    | mat e e' m => simp only at h6; subst h6; exact ⟨⟨_, l, h5, rfl, h3, h4⟩, fun c hc => by rw [h5] at hc; cases hc⟩
    | mp m => simp only at h6; subst h6; exact ⟨⟨_, l, h5, rfl, h3, h4⟩, fun c hc => by rw [h5] at hc; cases hc⟩
    | gone => simp only at h6; subst h6; cases h2
  · rintro ⟨⟨o, l, h1, h2, h3, h4⟩, h5⟩
    refine ⟨o, l, ?_, h2, h3, h4⟩
    unfold frm
    rw [List.getElem?_map, h1]
    cases o with
    | box c => exact absurd h1 (h5 c)
    | _ => rfl
/-- A block of a box. -/
def BX (ρ : Ids) (objs : List AO) (b : Nat) : Prop := ∃ id c, objs[id]? = some (.box c) ∧ foot ρ objs id b
def SF (ρ : Ids) (objs : List AO) (w w1 : World) : Prop := ∀ b, BX ρ objs b → w1.heap[b]? = w.heap[b]?
theorem SatO.weak {ρ : Ids} {w : World} {M M' : Nat → Prop} {id : Nat} {o : AO} (hM : ∀ b, M' b → M b) (h : SatO ρ w M id o) : SatO ρ w M' id o := by
  have hs := Same.refl M w
  cases o with
  | gone => trivial
  | mat e e' m => exact h
  | mp m => exact h
  | row e sz cs =>
    obtain ⟨v, n, us, h1, h2, h3, h4⟩ := h
    refine ⟨v, n, us, h1, h2, h3, fun i d hi => ?_⟩
    obtain ⟨u, hu, hr⟩ := h4 i d hi
    exact ⟨u, hu, hr.mono hs fun b _ hb => hM b hb⟩
  | box cs =>
    obtain ⟨b, arr, T, h1, h2, h3, h4⟩ := h
    refine ⟨b, arr, T, h1, h2, h3, fun i av hi => ?_⟩
    obtain ⟨v, hv, hg⟩ := h4 i av hi
    exact ⟨v, hv, hg.mono hs (fun b _ hb => hM b hb) fun _ _ h => h⟩
section
variable {P : Program} {ops : Array Oper} {md : Region.Mode} {Q Q' : Exit → Act → World → Prop} {S : World → Prop}
theorem wpOp_q (he : ∀ e, e ≠ .normal → Q e = Q' e) {i : Nat} {K : Act → World → Prop} {a : Act} {w : World} (h : wpOp P ops Q i K a w) : wpOp P ops Q' i K a w := by
  unfold wpOp at *
  split at h
  · exact h
  · split
    · rename_i hw
      rw [if_pos hw] at h
      rcases h with h | ⟨h1, a', w', h2⟩
      · exact .inl (wp_exits he h)
      · exact .inr ⟨h1, a', w', by rw [← he _ (by intro h; cases h)]; exact h2⟩
    · rename_i hw
      rw [if_neg hw] at h
      exact h
theorem anyH_q (hn : ∀ a w, Q .normal a w → Q' .normal a w) (he : ∀ e, e ≠ .normal → Q e = Q' e) : ∀ (f : Nat) (listed : Array Bool) (a : Act) (w : World), wpAnyH P md ops Q S f listed a w → wpAnyH P md ops Q' S f listed a w
  | 0, _, _, _, h => ⟨h.1, hn _ _ h.2⟩
  | f + 1, _, _, _, h => ⟨fun h0 => hn _ _ (h.1 h0), fun i hi => wpOp_q he (wpOp_mono (fun a' w' h' => ⟨h'.1, anyH_q hn he f _ a' w' h'.2⟩) (h.2 i hi))⟩
end
section
variable {P : Program} {k : Nat} {cx : Cx k} {ops : Array Oper} {st : St} {K : St → Prop} {S : World → Prop}
/-- What is left, told by listed, with the boxes at hand. -/
def hL [Zs] (P : Program) {k : Nat} (cx : Cx k) (ops : Array Oper) (K : St → Prop) (f : Nat) (listed : List Bool) (st : St) : Prop :=
  ∀ (ρ : Ids) (w : World) (a : Act), RelB ρ w st a → (∀ id b, foot ρ st.objs id b → b < cx.w0.heap.size → cx.M0 b) → (∀ (id : Nat) l, cx.ρ0[id]? = some l → ρ[id]? = some l) → Same cx.M0 cx.w0 w →
    wpAnyH P .any ops (lift cx (ThenK K)) (SF ρ st.objs w) f listed.toArray a w
def FOp (P : Program) (o : Oper) (st : St) (av : AV) : Prop :=
  ∀ (_ : Zs) (ρ : Ids) (w : World) (a : Act), RelB ρ w st a → ∃ v, Gm ρ w (Ban ρ st.objs) av v ∧ ∀ w1, SF ρ st.objs w w1 → (execOp a.eval o).run P w1 = .ok (.value v) w1
def POp (P : Program) (o : Oper) (st : St) (av : AV) : Prop :=
  ∀ (_ : Zs) (ρ : Ids) (w : World) (a : Act), RelB ρ w st a → ∃ v, Gm ρ w (Ban ρ st.objs) av v ∧ ∀ w1, (execOp a.eval o).run P w1 = .ok (.value v) w1
theorem POp.f {o : Oper} {av : AV} (h : POp P o st av) : FOp P o st av := fun zs ρ w a hb => by
  obtain ⟨v, h1, h2⟩ := h zs ρ w a hb
  exact ⟨v, h1, fun w1 _ => h2 w1⟩
theorem h_first [Zs] {f : Nat} {listed : List Bool} (i : Nat) {d : Tmp} {op : Op} {ty : TypeId} {pos : String} {af : Array Edge} {av : AV} (hi : ops[i]? = some ⟨some d, op, ty, pos, af, none⟩)
    (hb : (Region.noSelect ops && Region.free .any ops listed.toArray i && (Region.ready .any ops listed.toArray).contains i) = true)
    (hq : FOp P ⟨some d, op, ty, pos, af, none⟩ st av) (hd : Nat.blt d st.n = true) (h : hL P cx ops K f (listed.set i true) (st.put d av)) : hL P cx ops K (f + 1) listed st := by
  simp only [Bool.and_eq_true] at hb
  obtain ⟨⟨b1, b2⟩, b3⟩ := hb
  intro ρ w a hr hf h0 hs
  obtain ⟨v, hg, hv⟩ := hq _ ρ w a hr
  have e : listed.toArray.setIfInBounds i true = (listed.set i true).toArray := by simp
  refine wpAnyH_take hi b1 b2 b3 (fun c a w hp => ?_) (v := v) (.inl ⟨by simp [Region.wanted], hv⟩) (fun b _ => rfl) ?_
  · obtain ⟨st', h1, _⟩ := hp
    exact h1.elim
  · rw [e]
    exact h ρ w _ (hr.put hd hg) hf h0 hs
/-- What is left, the boxes set aside. -/
def xH [Zs] (P : Program) {k : Nat} (cx : Cx k) (ops : Array Oper) (K : St → Prop) (S : World → Prop) (f : Nat) (listed : List Bool) (st : St) : Prop :=
  (∀ w, Same cx.M0 cx.w0 w → S w) → ∀ a w, Rel cx st a w → wpAnyH P .any ops (lift cx (ThenK K)) S f listed.toArray a w
def xHQ [Zs] (P : Program) {k : Nat} (cx : Cx k) (ops : Array Oper) (K : St → Prop) (S : World → Prop) (f : Nat) (listed : List Bool) : Exit → St → Prop
  | .normal, st => xH P cx ops K S f listed st
  | _, _ => False
def xHAll [Zs] (P : Program) {k : Nat} (cx : Cx k) (ops : Array Oper) (K : St → Prop) (S : World → Prop) (f : Nat) (listed : List Bool) (st : St) : List Nat → Prop
  | [] => True
  | i :: r => (∃ o, ops[i]? = some o ∧ aL P cx ops (xHQ P cx ops K S f (listed.set i true)) [o] st) ∧ xHAll P cx ops K S f listed st r
theorem xHAll_mem [Zs] {f : Nat} {listed : List Bool} : ∀ {l : List Nat}, xHAll P cx ops K S f listed st l → ∀ i ∈ l, ∃ o, ops[i]? = some o ∧ aL P cx ops (xHQ P cx ops K S f (listed.set i true)) [o] st
  | [], _, i, hi => by simp at hi
  | j :: l, h, i, hi => by
    rcases List.mem_cons.1 hi with rfl | hi
    · exact h.1
    · exact xHAll_mem h.2 i hi
theorem xh_done [Zs] {listed : List Bool} (hr : Region.ready .any ops listed.toArray = []) (h : K st) : xH P cx ops K S 0 listed st :=
  fun _ a w hrel => ⟨hr, st, h, hrel⟩
theorem xh_step [Zs] {f : Nat} {listed : List Bool} {i : Nat} {is : List Nat} (hr : Region.ready .any ops listed.toArray = i :: is) (h : xHAll P cx ops K S f listed st (i :: is)) : xH P cx ops K S (f + 1) listed st := by
  intro hS a w hrel
  refine ⟨fun h0 => (by rw [hr] at h0; cases h0), fun j hj => ?_⟩
  rw [hr] at hj
  obtain ⟨o, ho, hl⟩ := xHAll_mem h j hj
  have hw := hl a w hrel
  unfold wpOp
  simp only [ho]
  unfold wpList at hw
  have hnext : ∀ a' w', wpList P ops (lift cx (xHQ P cx ops K S f (listed.set j true))) [] a' w' → S w' ∧ wpAnyH P .any ops (lift cx (ThenK K)) S f (listed.toArray.setIfInBounds j true) a' w' := by
    rintro a' w' ⟨st', h1, h2⟩
    have := h1 hS a' w' h2
    exact ⟨hS _ h2.same, by rwa [show listed.toArray.setIfInBounds j true = (listed.set j true).toArray by simp]⟩
  have hex : ∀ e, e ≠ .normal → lift cx (xHQ P cx ops K S f (listed.set j true)) e = lift cx (ThenK K) e := by
    intro e he
    cases e <;> first | rfl | exact absurd rfl he
  split
  · rename_i hwant
    rw [if_pos hwant] at hw
    rcases hw with hw | ⟨h1, a', w', h2⟩
    · exact .inl (wp_exits hex (Oper.wp_mono hnext hw))
    · exact .inr ⟨h1, a', w', by rw [← hex _ (by intro h; cases h)]; exact h2⟩
  · rename_i hwant
    rw [if_neg hwant] at hw
    exact hnext _ _ hw
theorem xh_first [Zs] {f : Nat} {listed : List Bool} (i : Nat) {d : Tmp} {op : Op} {ty : TypeId} {pos : String} {af : Array Edge} {av : AV} (hi : ops[i]? = some ⟨some d, op, ty, pos, af, none⟩)
    (hb : (Region.noSelect ops && Region.free .any ops listed.toArray i && (Region.ready .any ops listed.toArray).contains i) = true)
    (hq : POp P ⟨some d, op, ty, pos, af, none⟩ st av) (hd : Nat.blt d st.n = true) (h : xH P cx ops K S f (listed.set i true) (st.put d av)) : xH P cx ops K S (f + 1) listed st := by
  simp only [Bool.and_eq_true] at hb
  obtain ⟨⟨b1, b2⟩, b3⟩ := hb
  intro hS a w hr
  obtain ⟨ρ, hrb, hf, h0⟩ := hr.base
  obtain ⟨v, hg, hv⟩ := hq _ ρ w a hrb
  have e : listed.toArray.setIfInBounds i true = (listed.set i true).toArray := by simp
  refine wpAnyH_take hi b1 b2 b3 (fun c a w hp => ?_) (v := v) (.inl ⟨by simp [Region.wanted], fun w1 _ => hv w1⟩) (hS _ hr.same) ?_
  · obtain ⟨st', h1, _⟩ := hp
    exact h1.elim
  · rw [e]
    exact h hS _ _ ⟨⟨ρ, hrb.put hd hg, hf, h0⟩, hr.same⟩
/-- What is banned within: what was banned, and the boxes. -/
abbrev zsB (zs : Zs) (ρ : Ids) (objs : List AO) : Zs := ⟨fun b => zs.z b ∨ BX ρ objs b⟩
theorem h_frame [zs : Zs] {f : Nat} {listed : List Bool} (h : ∀ (zs' : Zs) (cx1 : Cx st.objs.length) (S : World → Prop), @xH zs' P _ cx1 ops (fun st' => K ⟨st'.n, st'.vars, thaw st.objs st'.objs⟩) S f listed ⟨st.n, st.vars, frm st.objs⟩) : hL P cx ops K f listed st := by
  intro ρ w a hr hf h0 hs
  have hg := hr.good
  have own_of : ∀ b, Own ρ (frm st.objs) b → Own ρ st.objs b := fun b ⟨id, hb⟩ => ⟨id, (foot_frm.1 hb).1⟩
  have bx_own : ∀ b, BX ρ st.objs b → Own ρ st.objs b := fun b ⟨id, _, _, hb⟩ => ⟨id, hb⟩
  have bx_not : ∀ b, BX ρ st.objs b → ¬ Own ρ (frm st.objs) b := by
    rintro b ⟨id, c, hc, hb⟩ ⟨j, hj⟩
    obtain ⟨hj1, hj2⟩ := foot_frm.1 hj
    obtain rfl := hg.dis id j b hb hj1
    exact hj2 c hc
  have ban_eq : ∀ b, @Ban (zsB zs ρ st.objs) ρ (frm st.objs) b → @Ban zs ρ st.objs b := by
    rintro b (hb | hb | hb)
    · exact .inl (own_of b hb)
    · exact .inr hb
    · exact .inl (bx_own b hb)
  let cx1 : Cx st.objs.length := ⟨w, Own ρ (frm st.objs), ρ, hg.len⟩
  have hgood : @Good (zsB zs ρ st.objs) ρ w (frm st.objs) := by
    refine @Good.mk (zsB zs ρ st.objs) ρ w (frm st.objs) (by rw [hg.len]; simp [frm]) (fun id o ho => ?_) (fun i j b hi hj => hg.dis i j b (foot_frm.1 hi).1 (foot_frm.1 hj).1) (fun id b hb hz => ?_) (fun b hz => ?_) (hg.tt.step (Same.refl _ _) fun b _ h => own_of b h)
    · unfold frm at ho
      rw [List.getElem?_map] at ho
      obtain ⟨o0, h5, h6⟩ := Option.map_eq_some_iff.1 ho
      have hsat := (hg.sat id o0 h5).weak ban_eq
      cases o0 with
      | box c => simp only at h6; subst h6; trivial
      | row e sz cs => simp only at h6; subst h6; exact hsat
      | mat e e' m => simp only at h6; subst h6; exact hsat
      | mp m => simp only at h6; subst h6; exact hsat
      | gone => simp only at h6; subst h6; trivial
    · rcases hz with hz | hz
      · exact hg.zf id b (foot_frm.1 hb).1 hz
      · exact bx_not b hz ⟨id, hb⟩
    · rcases hz with hz | ⟨id, c, hc, hb⟩
      · exact hg.zl b hz
      · exact foot_lt hg hb
  have hrel : @Rel (zsB zs ρ st.objs) _ cx1 ⟨st.n, st.vars, frm st.objs⟩ a w :=
    @Rel.mk (zsB zs ρ st.objs) _ cx1 _ a w ⟨ρ, @RelB.mk (zsB zs ρ st.objs) ρ w _ a (fun t => (hr.frame t).mono (Same.refl _ w) (fun b _ hb => ban_eq b hb) fun _ _ h => h) hr.size hr.defers hgood, fun id b hb _ => ⟨id, hb⟩, fun _ _ h => h⟩ (Same.refl _ w)
  have hS : ∀ w1, Same cx1.M0 cx1.w0 w1 → SF ρ st.objs w w1 := fun w1 h1 b hb => by
    obtain ⟨id, c, hc, hb'⟩ := hb
    exact h1.block b (foot_lt hg hb') (bx_not b ⟨id, c, hc, hb'⟩)
  refine anyH_q ?_ ?_ _ _ _ _ (h (zsB zs ρ st.objs) cx1 (SF ρ st.objs w) hS a w hrel)
  · rintro a' w' ⟨st', hK, hr'⟩
    obtain ⟨ρ', hb', hf', h0'⟩ := @Rel.base (zsB zs ρ st.objs) _ _ _ _ _ hr'
    have hg' := @RelB.good (zsB zs ρ st.objs) _ _ _ _ hb'
    have g_len := @Good.len (zsB zs ρ st.objs) _ _ _ hg'
    have g_sat := @Good.sat (zsB zs ρ st.objs) _ _ _ hg'
    have g_dis := @Good.dis (zsB zs ρ st.objs) _ _ _ hg'
    have g_zf := @Good.zf (zsB zs ρ st.objs) _ _ _ hg'
    have b_frame := @RelB.frame (zsB zs ρ st.objs) _ _ _ _ hb'
    have b_size := @RelB.size (zsB zs ρ st.objs) _ _ _ _ hb'
    have b_def := @RelB.defers (zsB zs ρ st.objs) _ _ _ _ hb'
    have hsm : Same (Own ρ (frm st.objs)) w w' := @Rel.same (zsB zs ρ st.objs) _ _ _ _ _ hr'
    have hle : st.objs.length ≤ st'.objs.length := by
      rw [← g_len]
      rcases Nat.lt_or_ge ρ'.length st.objs.length with hlt | hge
      · have hx : ρ'.length < ρ.length := by rw [hg.len]; exact hlt
        have := h0' _ _ (List.getElem?_eq_getElem hx)
        simp at this
      · exact hge
    have foot_box : ∀ {id b c}, st.objs[id]? = some (.box c) → foot ρ' (thaw st.objs st'.objs) id b → foot ρ st.objs id b := by
      rintro id b c hc ⟨o, l, h1, h2, h3, h4⟩
      have hid : id < ρ.length := by rw [hg.len]; exact (List.getElem?_eq_some_iff.1 hc).1
      have := h0' id _ (List.getElem?_eq_getElem hid)
      rw [this] at h3
      obtain rfl := Option.some.inj h3
      exact ⟨_, _, hc, rfl, List.getElem?_eq_getElem hid, h4⟩
    have foot_not : ∀ {id b}, (∀ c, st.objs[id]? ≠ some (.box c)) → foot ρ' (thaw st.objs st'.objs) id b → foot ρ' st'.objs id b := by
      rintro id b hn ⟨o, l, h1, h2, h3, h4⟩
      rw [thaw_not hn] at h1
      exact ⟨o, l, h1, h2, h3, h4⟩
    have cases' : ∀ {id b}, foot ρ' (thaw st.objs st'.objs) id b → (∃ c, st.objs[id]? = some (.box c) ∧ foot ρ st.objs id b) ∨ ((∀ c, st.objs[id]? ≠ some (.box c)) ∧ foot ρ' st'.objs id b) := by
      intro id b hfo
      by_cases hq : ∃ c, st.objs[id]? = some (.box c)
      · obtain ⟨c, hc⟩ := hq
        exact .inl ⟨c, hc, foot_box hc hfo⟩
      · have hn : ∀ c, st.objs[id]? ≠ some (.box c) := fun c hc => hq ⟨c, hc⟩
        exact .inr ⟨hn, foot_not hn hfo⟩
    have ban_back : ∀ b, @Ban zs ρ' (thaw st.objs st'.objs) b → @Ban (zsB zs ρ st.objs) ρ' st'.objs b := by
      rintro b (⟨id, hfo⟩ | hz)
      · rcases cases' hfo with ⟨c, hc, hb1⟩ | ⟨_, hb1⟩
        · exact .inr (.inr ⟨id, c, hc, hb1⟩)
        · exact .inl ⟨id, hb1⟩
      · exact .inr (.inl hz)
    have hM : ∀ b, b < w.heap.size → Own ρ' (thaw st.objs st'.objs) b → Own ρ st.objs b := by
      rintro b hlt ⟨id, hfo⟩
      rcases cases' hfo with ⟨c, hc, hb1⟩ | ⟨_, hb1⟩
      · exact ⟨id, hb1⟩
      · exact own_of b (hf' id b hb1 hlt)
    have hsm2 : Same (Own ρ st.objs) w w' := ⟨hsm.os, hsm.tape, hsm.output, hsm.size, fun k hk hn => hsm.block k hk fun hx => hn (own_of k hx)⟩
    have hgT : @Good zs ρ' w' (thaw st.objs st'.objs) := by
      refine ⟨by rw [g_len, thaw_len], fun id o ho => ?_, fun i j b hi hj => ?_, fun id b hb hz => ?_, fun b hz => Nat.lt_of_lt_of_le (hg.zl b hz) hsm.size, hg.tt.step hsm2 hM⟩
      · by_cases hq : ∃ c, st.objs[id]? = some (.box c)
        · obtain ⟨c, hc⟩ := hq
          rw [thaw_box hc hle] at ho
          obtain rfl := Option.some.inj ho
          refine (hg.sat id _ hc).keep hsm2 h0' hM fun l v b hl hv hb => ?_
          have hfo : foot ρ st.objs id b := ⟨_, l, hc, rfl, hl, v, hv, hb⟩
          exact fun _ => hsm.block b (foot_lt hg hfo) (bx_not b ⟨id, c, hc, hfo⟩)
        · have hn : ∀ c, st.objs[id]? ≠ some (.box c) := fun c hc => hq ⟨c, hc⟩
          rw [thaw_not hn] at ho
          exact (g_sat id o ho).weak ban_back
      · rcases cases' hi with ⟨c, hc, h1⟩ | ⟨_, h1⟩ <;> rcases cases' hj with ⟨c2, hc2, h2⟩ | ⟨_, h2⟩
        · exact hg.dis i j b h1 h2
        · exact absurd (.inr ⟨i, c, hc, h1⟩) (g_zf j b h2)
        · exact absurd (.inr ⟨j, c2, hc2, h2⟩) (g_zf i b h1)
        · exact g_dis i j b h1 h2
      · rcases cases' hb with ⟨c, hc, h1⟩ | ⟨_, h1⟩
        · exact hg.zf id b h1 hz
        · exact g_zf id b h1 (.inl hz)
    refine ⟨_, hK, ⟨ρ', ⟨fun t => (b_frame t).mono (Same.refl _ w') (fun b _ hb => ban_back b hb) fun _ _ h => h, b_size, b_def, hgT⟩, fun id b hb hlt => ?_, fun id l hl => h0' _ _ (h0 id l hl)⟩, hs.trans hsm fun x hx ⟨id, hfo⟩ => hf id x (foot_frm.1 hfo).1 hx⟩
    rcases cases' hb with ⟨c, hc, h1⟩ | ⟨_, h1⟩
    · exact hf id b h1 hlt
    · obtain ⟨id2, h2⟩ := hf' id b h1 (Nat.lt_of_lt_of_le hlt hs.size)
      exact hf id2 b (foot_frm.1 h2).1 hlt
  · intro e he
    funext a' w'
    apply propext
    constructor
    · rintro ⟨st', h1, _⟩
      cases e <;> first | exact absurd rfl he | exact h1.elim
    · rintro ⟨st', h1, _⟩
      cases e <;> first | exact absurd rfl he | exact h1.elim
theorem a_hold [Zs] {id : Nat} {l : List Oper} {n : Nat} {Q : Exit → St → Prop} (hm : P.follows .mixedOrders = true) (hn : l.length = n) (h : hL P cx l.toArray K n (List.replicate n false) st) : aC P cx (.region id l.toArray true) (thenA K Q) st := by
  subst hn
  refine a_mono (Q := ThenK K) ?_ fun e st h => by cases e <;> first | exact h | exact h.elim
  intro a w hr
  have hr2 := hr.mono (w' := { w with drawn := w.drawn + 1 }) ⟨rfl, rfl, rfl, Nat.le_refl _, fun _ _ => rfl⟩
  obtain ⟨ρ, hb, hf, h0⟩ := hr2.base
  refine wp_region_held (S := SF ρ st.objs { w with drawn := w.drawn + 1 }) hm ?_
  have := h ρ _ a hb hf h0 hr2.same
  simpa using this
/-! Laws. -/
variable {ty : TypeId} {pos : String} {af : Array Edge} {d : Option Tmp} {g : Option (Nat × Bool)} {T : TypeId} {x : Operand}
theorem P_move {av : AV} (hx : st.ev x = av) : POp P ⟨d, .move x, ty, pos, af, g⟩ st av := fun _ _ _ a hb => ⟨a.eval x, hx ▸ hb.ev x, fun _ => rfl⟩
theorem P_assign {av : AV} (hx : st.ev x = av) : POp P ⟨d, .assign x, ty, pos, af, g⟩ st av := fun _ _ _ a hb => ⟨a.eval x, hx ▸ hb.ev x, fun _ => rfl⟩
theorem P_extract {i : Nat} {l : List AV} {av : AV} (hx : st.ev x = .tup l) (hi : l[i]? = some av) : POp P ⟨d, .extract x i, ty, pos, af, g⟩ st av := fun _ ρ w a hr => by
  have h := hr.ev x
  rw [hx] at h
  obtain ⟨vs, he, hl, hvs⟩ := h.tup_inv
  have hlt : i < vs.size := by rw [← hl]; exact (List.getElem?_eq_some_iff.1 hi).1
  refine ⟨vs[i], hvs i av _ hi (Array.getElem?_eq_getElem hlt), fun w1 => ?_⟩
  simp [execOp, he, Instr.extract, hlt]
theorem P_fieldAddr {f off id o : Nat} (hx : st.ev x = .ptr id o) (ht : FlT P T f off) : POp P ⟨d, .fieldAddr T x f, ty, pos, af, g⟩ st (.ptr id (o + off)) := fun _ ρ w a hr => by
  have h := hr.ev x
  rw [hx] at h
  obtain ⟨b, l, he, hl⟩ := h.ptr_inv
  refine ⟨.pointer (some ⟨b, o + off, none⟩), .ptr id _ b l hl, fun w1 => ?_⟩
  simp [execOp, he, run_fieldAt ht, spot_add]
theorem F_move {av : AV} (hx : st.ev x = av) : FOp P ⟨d, .move x, ty, pos, af, g⟩ st av := POp.f (P_move hx)
theorem F_assign {av : AV} (hx : st.ev x = av) : FOp P ⟨d, .assign x, ty, pos, af, g⟩ st av := POp.f (P_assign hx)
theorem F_extract {i : Nat} {l : List AV} {av : AV} (hx : st.ev x = .tup l) (hi : l[i]? = some av) : FOp P ⟨d, .extract x i, ty, pos, af, g⟩ st av := POp.f (P_extract hx hi)
theorem F_fieldAddr {f off id o : Nat} (hx : st.ev x = .ptr id o) (ht : FlT P T f off) : FOp P ⟨d, .fieldAddr T x f, ty, pos, af, g⟩ st (.ptr id (o + off)) := POp.f (P_fieldAddr hx ht)
theorem bx_cell [Zs] {ρ : Ids} {w w1 : World} {objs : List AO} {id b i : Nat} {cells : List AV} {l : List Value} (ho : objs[id]? = some (.box cells)) (hl : ρ[id]? = some l) (hv : .pointer (some ⟨b, 0, none⟩) ∈ l) (hs : SF ρ objs w w1) : w1.cell? ⟨b, i, none⟩ = w.cell? ⟨b, i, none⟩ :=
  World.cell?_of_block (w := w) (hs b ⟨id, cells, ho, _, l, ho, rfl, hl, _, hv, rfl⟩)
theorem F_load {id o : Nat} {cells : List AV} {av : AV} (hx : st.ev x = .ptr id o) (ho : st.objs[id]? = some (.box cells)) (hc : cells[o]? = some av) (ht : ScT P T) : FOp P ⟨d, .load T x, ty, pos, af, g⟩ st av := fun _ ρ w a hr => by
  have h := hr.ev x
  rw [hx] at h
  obtain ⟨b, arr, T', he, hρ, hh, _, hcell, hcs⟩ := box_cells hr.good ho h
  obtain ⟨v, h1, h2⟩ := hcs o av hc
  refine ⟨v, h2, fun w1 hw => ?_⟩
  have : w1.cell? ⟨b, o, none⟩ = some v := by
    rw [bx_cell ho hρ (by simp) hw, hcell]; exact h1
  simp [execOp, he, Instr.loadAt, Instr.sureAddr, run_loadSc ht _ this]
theorem F_load_all {id : Nat} {cells : List AV} (hx : st.ev x = .ptr id 0) (ho : st.objs[id]? = some (.box cells)) (ht : AgT P T cells.length) : FOp P ⟨d, .load T x, ty, pos, af, g⟩ st (.agg cells) := fun _ ρ w a hr => by
  have h := hr.ev x
  rw [hx] at h
  obtain ⟨b, arr, T', he, hρ, hh, hsz, hcell, hcs⟩ := box_cells hr.good ho h
  refine ⟨.agg arr, .agg _ _ hsz.symm fun i av v h1 h2 => ?_, fun w1 hw => ?_⟩
  · obtain ⟨v', h3, h4⟩ := hcs i av h1
    rw [h3] at h2
    obtain rfl := Option.some.inj h2
    exact h4
  · have := run_loadAgg (P := P) (w := w1) ht ⟨b, 0, none⟩ arr.toList (by simp [hsz]) fun j v hv => by
      rw [spot_add rfl]
      simp only [Nat.zero_add]
      rw [bx_cell ho hρ (by simp) hw, hcell]
      simpa using hv
    simp [execOp, he, Instr.loadAt, Instr.sureAddr, this]
end
/-! On states that stand written out. -/
section
variable {P : Program} {k : Nat} {cx : Cx k} {ops : Array Oper} {K : St → Prop} {S : World → Prop} {ty : TypeId} {pos : String} {af : Array Edge} {d nn f : Nat} {vars : List (Nat × AV)} {objs objs' : List AO} {listed : List Bool}
theorem hw_first [Zs] (i : Nat) {op : Op} {av : AV} (hi : ops[i]? = some ⟨some d, op, ty, pos, af, none⟩) (hb : (Region.noSelect ops && Region.free .any ops listed.toArray i && (Region.ready .any ops listed.toArray).contains i) = true)
    (hq : FOp P ⟨some d, op, ty, pos, af, none⟩ ⟨nn, vars, objs⟩ av) (hd : Nat.blt d nn = true) (h : hL P cx ops K f (listed.set i true) ⟨nn, (d, av) :: vars, objs⟩) : hL P cx ops K (f + 1) listed ⟨nn, vars, objs⟩ := h_first i hi hb hq hd h
theorem xw_first [Zs] (i : Nat) {op : Op} {av : AV} (hi : ops[i]? = some ⟨some d, op, ty, pos, af, none⟩) (hb : (Region.noSelect ops && Region.free .any ops listed.toArray i && (Region.ready .any ops listed.toArray).contains i) = true)
    (hq : POp P ⟨some d, op, ty, pos, af, none⟩ ⟨nn, vars, objs⟩ av) (hd : Nat.blt d nn = true) (h : xH P cx ops K S f (listed.set i true) ⟨nn, (d, av) :: vars, objs⟩) : xH P cx ops K S (f + 1) listed ⟨nn, vars, objs⟩ := xh_first i hi hb hq hd h
theorem hw_frame [Zs] (ho : frm objs = objs') (h : ∀ (zs' : Zs) (cx1 : Cx objs.length) (S : World → Prop), @xH zs' P _ cx1 ops (fun st' => K ⟨st'.n, st'.vars, thaw objs st'.objs⟩) S f listed ⟨nn, vars, objs'⟩) : hL P cx ops K f listed ⟨nn, vars, objs⟩ := by
  subst ho
  exact h_frame h
theorem w_ap_pairsR [Zs] {cx : Cx k} {Q : Exit → St → Prop} {rest : List Oper} {d m : Nat} {T e : TypeId} {x y : Operand} {id : Nat} {l r : List (Int × Int)} (hx : (⟨nn, vars, objs⟩ : St).ev x = .own id) (hob : objs[id]? = some (.row e 2 (pairc l))) (hy : (⟨nn, vars, objs⟩ : St).ev y = pairs r)
    (ht : SlT P T e 2) (hmk : MkT P e (.agg #[.int .i64 0, .int .i64 0]) 2 16) (hbig : l.length + r.length ≤ 1000000000) (ho : objs.set id .gone ++ [.row e 2 (pairc (l ++ r))] = objs') (hm : objs.length = m) (hd : Nat.blt d nn = true)
    (hk : aL P cx ops Q rest ⟨nn, (d, .own m) :: vars, objs'⟩) : aL P cx ops Q (⟨some d, .call ⟨.builtin .append, #[x, y], #[T, T]⟩, ty, pos, af, none⟩ :: rest) ⟨nn, vars, objs⟩ := by
  subst ho; subst hm
  exact l_append (cs := pairc l) (cs2 := pairc r) rfl rfl hx hob (.inl hy) ht hmk rfl (pairc_len l) (pairc_len r) (by decide) (pairc_one r) (by decide) (by omega) hd (by rw [pairc_app]; exact hk)
end
end Go.Proofs.Ytdbngpkbamhbeaa
