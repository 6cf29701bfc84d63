/- Weakening of what is known, and contracts of calls. -/
import Derived.Test.YthchhaaplimafaaEngA
set_option linter.unusedSimpArgs false
set_option linter.unusedVariables false
namespace Go.Proofs.Ythchhaaplimafaa
open Go.RowKit

/-- av, as known beside the objects objs, may be taken as av', whose numbers are read through σ. -/
inductive Vw (objs : List AO) (σ : List Nat) : AV → AV → Prop where
  | val (v : Value) : Vw objs σ (.val v) (.val v)
  | ro (d : Dat) : Vw objs σ (.ro d) (.ro d)
  | own (id id' : Nat) (h : σ[id']? = some id) : Vw objs σ (.own id) (.own id')
  | ptr (id id' off : Nat) (h : σ[id']? = some id) : Vw objs σ (.ptr id off) (.ptr id' off)
  | ept (id id' k : Nat) (h : σ[id']? = some id) : Vw objs σ (.ept id k) (.ept id' k)
  | rpt (cs : List Dat) (off : Nat) : Vw objs σ (.rpt cs off) (.rpt cs off)
  | valro (v : Value) : Vw objs σ (.val v) (.ro (.val v))
  | nilro (sz : Nat) : Vw objs σ (.val (.slice none 0 0)) (.ro (.sl sz []))
  | rowro (id : Nat) (e : TypeId) (sz : Nat) (cs : List Dat) (h : objs[id]? = some (.row e sz cs)) (hn : id ∉ σ) : Vw objs σ (.own id) (.ro (.sl sz cs))
  | matro (id : Nat) (e e' : TypeId) (m : List (List Value)) (h : objs[id]? = some (.mat e e' m)) (hn : id ∉ σ) : Vw objs σ (.own id) (.ro (.sl 1 (m.map fun r => .sl 1 (r.map .val))))
  | boxrpt (id off : Nat) (cells : List AV) (ds : List Dat) (h : objs[id]? = some (.box cells)) (hn : id ∉ σ)
      (avs : Nat → AV) (hc : ∀ (k : Nat) (d : Dat), ds[k]? = some d → cells[off + k]? = some (avs k)) (hd : ∀ (k : Nat) (d : Dat), ds[k]? = some d → Vw objs σ (avs k) (.ro d)) : Vw objs σ (.ptr id off) (.rpt ds 0)
  | agg (l l' : List AV) (hl : l.length = l'.length) (h : ∀ (i : Nat) (a b : AV), l[i]? = some a → l'[i]? = some b → Vw objs σ a b) : Vw objs σ (.agg l) (.agg l')
  | tup (l l' : List AV) (hl : l.length = l'.length) (h : ∀ (i : Nat) (a b : AV), l[i]? = some a → l'[i]? = some b → Vw objs σ a b) : Vw objs σ (.tup l) (.tup l')
  | clo (f : FuncId) (l l' : List AV) (hl : l.length = l'.length) (h : ∀ (i : Nat) (a b : AV), l[i]? = some a → l'[i]? = some b → Vw objs σ a b) : Vw objs σ (.clo f l) (.clo f l')
  | any (av : AV) : Vw objs σ av .any

inductive VwO (objs : List AO) (σ : List Nat) : AO → AO → Prop where
  | box (l l' : List AV) (hl : l.length = l'.length) (h : ∀ (i : Nat) (a b : AV), l[i]? = some a → l'[i]? = some b → Vw objs σ a b) : VwO objs σ (.box l) (.box l')
  | row (e : TypeId) (sz : Nat) (cs : List Dat) : VwO objs σ (.row e sz cs) (.row e sz cs)
  | mat (e e' : TypeId) (m : List (List Value)) : VwO objs σ (.mat e e' m) (.mat e e' m)
  | gone (o : AO) : VwO objs σ o .gone

/-- Each new object is an old one: the one whose number stands in σ. -/
def VwOs (objs : List AO) (σ : List Nat) (objs' : List AO) : Prop :=
  σ.length = objs'.length ∧ σ.Nodup ∧ ∀ (id' : Nat) (o' : AO), objs'[id']? = some o' → ∃ id o, σ[id']? = some id ∧ objs[id]? = some o ∧ VwO objs σ o o'

def reId (ρ : Ids) (σ : List Nat) : Ids := σ.map fun id => ρ.getD id []

theorem reId_get {ρ : Ids} {σ : List Nat} {id' id : Nat} {l : List Value} (h : σ[id']? = some id) (hl : ρ[id]? = some l) : (reId ρ σ)[id']? = some l := by
  simp [reId, h, hl]

theorem reId_inv {ρ : Ids} {σ : List Nat} {id' : Nat} {l : List Value} (h : (reId ρ σ)[id']? = some l) (hσ : ∀ id, id ∈ σ → id < ρ.length) : ∃ id, σ[id']? = some id ∧ ρ[id]? = some l := by
  simp only [reId, List.getElem?_map, Option.map_eq_some_iff] at h
  obtain ⟨id, h1, h2⟩ := h
  have hlt := hσ id (List.mem_of_getElem? h1)
  refine ⟨id, h1, ?_⟩
  rw [← h2]
  simp [hlt]

theorem foot_view [Zs] {ρ : Ids} {w : World} {objs objs' : List AO} {σ : List Nat} (hg : Good ρ w objs) (ho : VwOs objs σ objs') {id' b : Nat} (h : foot (reId ρ σ) objs' id' b) :
    ∃ id, σ[id']? = some id ∧ foot ρ objs id b := by
  obtain ⟨o', l, h1, h2, h3, v, h4, h5⟩ := h
  obtain ⟨id, o, h6, h7, h8⟩ := ho.2.2 id' o' h1
  have hin : ∀ id, id ∈ σ → id < ρ.length := by
    intro id hid
    obtain ⟨i, hi, rfl⟩ := List.getElem_of_mem hid
    have hi' : i < objs'.length := by rw [← ho.1]; exact hi
    obtain ⟨id2, o2, a1, a2, _⟩ := ho.2.2 i _ (List.getElem?_eq_getElem hi')
    rw [List.getElem?_eq_getElem hi] at a1
    have := (List.getElem?_eq_some_iff.1 a2).1
    rw [hg.len]
    cases a1
    exact this
  obtain ⟨id2, h9, h10⟩ := reId_inv h3 hin
  rw [h6] at h9
  obtain rfl := Option.some.inj h9
  refine ⟨id, h6, o, l, h7, ?_, h10, v, h4, h5⟩
  cases h8 with
  | box => rfl
  | row => rfl
  | mat => rfl
  | gone => cases h2

theorem own_view [Zs] {ρ : Ids} {w : World} {objs objs' : List AO} {σ : List Nat} (hg : Good ρ w objs) (ho : VwOs objs σ objs') {b : Nat} (h : Own (reId ρ σ) objs' b) : Own ρ objs b := by
  obtain ⟨id', h⟩ := h
  obtain ⟨id, _, h⟩ := foot_view hg ho h
  exact ⟨id, h⟩

theorem ban_view [Zs] {ρ : Ids} {w : World} {objs objs' : List AO} {σ : List Nat} (hg : Good ρ w objs) (ho : VwOs objs σ objs') {b : Nat} (h : Ban (reId ρ σ) objs' b) : Ban ρ objs b :=
  h.elim (fun h => .inl (own_view hg ho h)) .inr

theorem not_own_view [Zs] {ρ : Ids} {w : World} {objs objs' : List AO} {σ : List Nat} (hg : Good ρ w objs) (ho : VwOs objs σ objs') {id b : Nat} (hf : foot ρ objs id b) (hn : id ∉ σ) : ¬ Ban (reId ρ σ) objs' b := by
  rintro (⟨id', h⟩ | h)
  rotate_left 1
  · exact hg.zf id b hf h
  obtain ⟨id2, h1, h2⟩ := foot_view hg ho h
  have := hg.dis id id2 b hf h2
  subst this
  exact hn (List.mem_of_getElem? h1)

theorem row_rd {w : World} {M' : Nat → Prop} {e : TypeId} {sz n : Nat} {v : Value} {us : List Value} {cs : List Dat} (ho : w.ownsRow 0 e sz v n us) (hl : us.length = cs.length)
    (hM : ∀ b, ablk v = some b → ¬ M' b) (h : ∀ (i : Nat) (d : Dat), cs[i]? = some d → ∃ u, us[i]? = some u ∧ Rd w M' u d) : Rd w M' v (.sl sz cs) := by
  rcases ho.2 with ⟨rfl, rfl⟩ | ⟨g, cap, cur, rfl, _, hgg, hnc, hcm, hcs, htake⟩
  · have hx : cs = [] := by
      apply List.eq_nil_of_length_eq_zero
      rw [← hl, ho.1]; simp
    subst hx
    exact .nil sz
  · refine .sl ⟨g, 0, none⟩ n cap sz cs (fun k => us.getD k undef) (by rw [← hl]; exact ho.1) trivial (fun _ _ => hM g rfl) ?_ ?_
    · intro k d hd
      obtain ⟨u, hu, _⟩ := h k d hd
      have := ho.cells (g := g) rfl k u hu
      rw [this]
      simp [hu]
    · intro k d hd
      obtain ⟨u, hu, hr⟩ := h k d hd
      have : us.getD k undef = u := by simp [hu]
      rw [this]; exact hr

theorem Vw.gm [Zs] {ρ : Ids} {w : World} {objs objs' : List AO} {σ : List Nat} (hg : Good ρ w objs) (ho : VwOs objs σ objs') {av av' : AV} (hv : Vw objs σ av av') :
    ∀ v, Gm ρ w (Ban ρ objs) av v → Gm (reId ρ σ) w (Ban (reId ρ σ) objs') av' v := by
  have rd : ∀ {v d}, Rd w (Ban ρ objs) v d → Rd w (Ban (reId ρ σ) objs') v d := fun h => h.mono (Same.refl (Ban ρ objs) w) (fun b _ hb => ban_view hg ho hb)
  induction hv with
  | val v => intro u hu; cases hu; exact .val _
  | ro d => intro u hu; cases hu with | ro _ _ h => exact .ro d u (rd h)
  | own id id' h => intro u hu; cases hu with | own _ _ l hl h1 => exact .own id' u l (reId_get h hl) h1
  | ptr id id' off h => intro u hu; cases hu with | ptr _ _ b l hl => exact .ptr id' off b l (reId_get h hl)
  | ept id id' k h => intro u hu; cases hu with | ept _ _ b n cap l hl => exact .ept id' k b n cap l (reId_get h hl)
  | rpt cs off =>
    intro u hu
    cases hu with
    | rpt a _ _ us hsp hM hc hr =>
      exact .rpt a cs off us hsp (fun k hk hm => hM k hk (ban_view hg ho hm)) hc (fun k d hd => rd (hr k d hd))
  | valro v => intro u hu; cases hu; exact .ro _ _ (.val _)
  | nilro sz => intro u hu; cases hu; exact .ro _ _ (.nil sz)
  | rowro id e sz cs h hn =>
    intro u hu
    cases hu with
    | own _ _ l hl _ =>
      obtain ⟨v, n, us, h1, h2, h3, h4⟩ := hg.sat id _ h
      rw [h1] at hl
      obtain ⟨rfl, rfl⟩ := List.cons.inj (Option.some.inj hl)
      refine .ro _ _ (row_rd h2 h3 (fun b hb => not_own_view hg ho ⟨_, _, h, rfl, h1, v, by simp, hb⟩ hn) fun i d hd => ?_)
      obtain ⟨u, hu, hr⟩ := h4 i d hd
      exact ⟨u, hu, rd hr⟩
  | matro id e e' m h hn =>
    intro u hu
    cases hu with
    | own _ _ l hl _ =>
      obtain ⟨v, us, h1, h2, h3, h4, h5⟩ := hg.sat id _ h
      rw [h1] at hl
      obtain ⟨rfl, rfl⟩ := List.cons.inj (Option.some.inj hl)
      refine .ro _ _ (row_rd h2 (by simp [h3]) (fun b hb => not_own_view hg ho ⟨_, _, h, rfl, h1, v, by simp, hb⟩ hn) fun i d hd => ?_)
      simp only [List.getElem?_map, Option.map_eq_some_iff] at hd
      obtain ⟨r, hr, rfl⟩ := hd
      obtain ⟨u, hu, how⟩ := h4 i r hr
      refine ⟨u, hu, row_rd how (by simp) (fun b hb => not_own_view hg ho ⟨_, _, h, rfl, h1, u, List.mem_cons_of_mem _ (List.mem_of_getElem? hu), hb⟩ hn) fun k d hd => ?_⟩
      simp only [List.getElem?_map, Option.map_eq_some_iff] at hd
      obtain ⟨x, hx, rfl⟩ := hd
      exact ⟨x, hx, .val x⟩
  | boxrpt id off cells ds h hn avs hc hd ih =>
    intro u hu
    cases hu with
    | ptr _ _ b l hl =>
      obtain ⟨b', arr, T, h1, h2, h3, h4⟩ := hg.sat id _ h
      rw [h1] at hl
      simp only [Option.some.injEq, List.cons.injEq, Value.pointer.injEq, Addr.mk.injEq] at hl
      obtain ⟨⟨rfl, _⟩, rfl⟩ := hl
      have key : ∀ (k : Nat) (d : Dat), ds[k]? = some d → ∃ x, arr[off + k]? = some x ∧ Gm (reId ρ σ) w (Ban (reId ρ σ) objs') (.ro d) x := by
        intro k d hk
        obtain ⟨x, hx, hgm⟩ := h4 _ _ (hc k d hk)
        exact ⟨x, hx, ih k d hk x hgm⟩
      have hadd : ∀ k, (⟨b', off, none⟩ : Addr).add k = ⟨b', off + k, none⟩ := fun k => by unfold Addr.add; split <;> simp_all
      refine .rpt ⟨b', off, none⟩ ds 0 (fun k => arr.getD (off + k) undef) trivial (fun k _ => ?_) ?_ ?_
      · exact not_own_view hg ho ⟨_, _, h, rfl, h1, .pointer (some ⟨b', 0, none⟩), by simp, rfl⟩ hn
      · intro k d hk
        obtain ⟨x, hx, _⟩ := key k d hk
        rw [hadd, cell_of_row w b' (off + k) arr T (0, 0) h2, hx]
        simp [hx]
      · intro k d hk
        obtain ⟨x, hx, hgm⟩ := key k d hk
        have : arr.getD (off + k) undef = x := by simp [hx]
        rw [this]
        cases hgm with | ro _ _ h => exact h
  | agg l l' hl h ih =>
    intro u hu
    cases hu with
    | agg _ vs hlen hi =>
      refine .agg l' vs (by rw [← hl]; exact hlen) fun i b v hb hv => ?_
      have hlt : i < l.length := by rw [hl]; exact (List.getElem?_eq_some_iff.1 hb).1
      exact ih i _ b (List.getElem?_eq_getElem hlt) hb v (hi i _ v (List.getElem?_eq_getElem hlt) hv)
  | tup l l' hl h ih =>
    intro u hu
    cases hu with
    | tup _ vs hlen hi =>
      refine .tup l' vs (by rw [← hl]; exact hlen) fun i b v hb hv => ?_
      have hlt : i < l.length := by rw [hl]; exact (List.getElem?_eq_some_iff.1 hb).1
      exact ih i _ b (List.getElem?_eq_getElem hlt) hb v (hi i _ v (List.getElem?_eq_getElem hlt) hv)
  | clo f l l' hl h ih =>
    intro u hu
    cases hu with
    | clo _ _ vs hlen hi =>
      refine .clo f l' vs (by rw [← hl]; exact hlen) fun i b v hb hv => ?_
      have hlt : i < l.length := by rw [hl]; exact (List.getElem?_eq_some_iff.1 hb).1
      exact ih i _ b (List.getElem?_eq_getElem hlt) hb v (hi i _ v (List.getElem?_eq_getElem hlt) hv)
  | any av => intro u _; exact .any u

theorem Good.view [Zs] {ρ : Ids} {w : World} {objs objs' : List AO} {σ : List Nat} (hg : Good ρ w objs) (ho : VwOs objs σ objs') : Good (reId ρ σ) w objs' := by
  refine ⟨by rw [← ho.1]; simp [reId], ?_, ?_, ?_, ?_⟩
  · intro id' o' h'
    obtain ⟨id, o, h1, h2, h3⟩ := ho.2.2 id' o' h'
    have hs := hg.sat id o h2
    have rd : ∀ {v d}, Rd w (Ban ρ objs) v d → Rd w (Ban (reId ρ σ) objs') v d := fun h => h.mono (Same.refl (Ban ρ objs) w) (fun b _ hb => ban_view hg ho hb)
    cases h3 with
    | gone => trivial
    | box l l' hl h =>
      obtain ⟨b, arr, T, a1, a2, a3, a4⟩ := hs
      refine ⟨b, arr, T, reId_get h1 a1, a2, a3.trans hl, fun i av hi => ?_⟩
      have hlt : i < l.length := by rw [hl]; exact (List.getElem?_eq_some_iff.1 hi).1
      obtain ⟨v, hv, hgm⟩ := a4 i _ (List.getElem?_eq_getElem hlt)
      exact ⟨v, hv, (h i _ av (List.getElem?_eq_getElem hlt) hi).gm hg ho v hgm⟩
    | row e sz cs =>
      obtain ⟨v, n, us, a1, a2, a3, a4⟩ := hs
      refine ⟨v, n, us, reId_get h1 a1, a2, a3, fun i d hi => ?_⟩
      obtain ⟨u, hu, hr⟩ := a4 i d hi
      exact ⟨u, hu, rd hr⟩
    | mat e e' m =>
      obtain ⟨v, us, a1, a2⟩ := hs
      exact ⟨v, us, reId_get h1 a1, a2⟩
  rotate_left 1
  · exact fun id b h => (foot_view hg ho h).elim fun id2 h2 => hg.zf id2 b h2.2
  · exact hg.zl
  · intro i j b hi hj
    obtain ⟨i2, h1, h2⟩ := foot_view hg ho hi
    obtain ⟨j2, h3, h4⟩ := foot_view hg ho hj
    have := hg.dis i2 j2 b h2 h4
    subst this
    have hi' := (List.getElem?_eq_some_iff.1 h1).1
    exact (List.getElem?_inj hi' ho.2.1).1 (h1.trans h3.symm)

/-- What is known as st may be taken as st'. -/
structure St.le (st st' : St) (σ : List Nat) : Prop where
  n : st.n = st'.n
  objs : VwOs st.objs σ st'.objs
  vars : ∀ t, Vw st.objs σ (st.get t) (st'.get t)

theorem RelB.le [Zs] {ρ : Ids} {w : World} {st st' : St} {a : Act} {σ : List Nat} (h : RelB ρ w st a) (hle : st.le st' σ) : RelB (reId ρ σ) w st' a :=
  ⟨fun t => (hle.vars t).gm h.good hle.objs _ (h.frame t), h.size.trans hle.n, h.defers, h.good.view hle.objs⟩

/-- What came in keeps its number. -/
def fixB : Nat → List Nat → Bool
  | 0, _ => true
  | k + 1, σ => fixB k σ && (match σ[k]? with | some j => Nat.beq j k | none => false)

theorem fixB_spec : ∀ {k : Nat} {σ : List Nat}, fixB k σ = true → ∀ i, i < k → σ[i]? = some i
  | 0, _, _, i, hi => by omega
  | k + 1, σ, h, i, hi => by
    simp only [fixB, Bool.and_eq_true] at h
    rcases Nat.lt_succ_iff_lt_or_eq.1 hi with hi | rfl
    · exact fixB_spec h.1 i hi
    · have h2 := h.2
      split at h2
      · rename_i j hj; rw [hj, Nat.eq_of_beq_eq_true h2]
      · cases h2

theorem Rel.le [Zs] {k : Nat} {cx : Cx k} {st st' : St} {a : Act} {w : World} {σ : List Nat} (h : Rel cx st a w) (hle : st.le st' σ) (hσ : fixB k σ = true) : Rel cx st' a w := by
  obtain ⟨⟨ρ, hb, hf, h0⟩, hs⟩ := h
  refine ⟨⟨reId ρ σ, hb.le hle, fun id' b h hlt => ?_, fun id l hl => ?_⟩, hs⟩
  · obtain ⟨id, _, h2⟩ := foot_view hb.good hle.objs h
    exact hf id b h2 hlt
  · have hlt := (List.getElem?_eq_some_iff.1 hl).1
    rw [cx.len] at hlt
    exact reId_get (fixB_spec hσ id hlt) (h0 id l hl)

/-! Weakening, checked slot by slot. -/
def LeV (st : St) (σ : List Nat) : List (Nat × AV) → Prop
  | [] => True
  | (t, av) :: r => Vw st.objs σ (st.get t) av ∧ LeV st σ r

theorem leV_get {st : St} {σ : List Nat} : ∀ {vars : List (Nat × AV)}, LeV st σ vars → ∀ t, Vw st.objs σ (st.get t) (getv vars t)
  | [], _, t => .any _
  | (t', av) :: r, h, t => by
    rw [getv_cons]
    by_cases ht : t' = t
    · subst ht; rw [if_pos rfl]; exact h.1
    · rw [if_neg ht]; exact leV_get h.2 t

theorem St.le_mk {st : St} {σ : List Nat} {n : Nat} {vars : List (Nat × AV)} {objs : List AO} (hn : st.n = n) (ho : VwOs st.objs σ objs) (hv : LeV st σ vars) : st.le ⟨n, vars, objs⟩ σ :=
  ⟨hn, ho, fun t => leV_get hv t⟩

def LeO (objs : List AO) (σ : List Nat) : List Nat → List AO → Prop
  | [], [] => True
  | id :: s, o' :: r => (∃ o, objs[id]? = some o ∧ VwO objs σ o o') ∧ LeO objs σ s r
  | _, _ => False

theorem leO_spec {objs : List AO} {σ : List Nat} : ∀ {s : List Nat} {r : List AO}, LeO objs σ s r → s.length = r.length ∧ ∀ (id' : Nat) (o' : AO), r[id']? = some o' → ∃ id o, s[id']? = some id ∧ objs[id]? = some o ∧ VwO objs σ o o'
  | [], [], _ => ⟨rfl, fun id' o' h => by simp at h⟩
  | id :: s, o' :: r, h => by
    obtain ⟨⟨o, h1, h2⟩, h3⟩ := h
    obtain ⟨h4, h5⟩ := leO_spec h3
    refine ⟨by simp [h4], fun id' o'' hh => ?_⟩
    cases id' with
    | zero => simp only [List.getElem?_cons_zero, Option.some.injEq] at hh; subst hh; exact ⟨id, o, rfl, h1, h2⟩
    | succ k => simp only [List.getElem?_cons_succ] at hh ⊢; exact h5 k o'' hh

theorem VwOs.mk {objs : List AO} {σ : List Nat} {objs' : List AO} (hn : σ.Nodup) (h : LeO objs σ σ objs') : VwOs objs σ objs' := by
  obtain ⟨h1, h2⟩ := leO_spec h
  exact ⟨h1, hn, h2⟩

def VwL (objs : List AO) (σ : List Nat) : List AV → List AV → Prop
  | [], [] => True
  | a :: l, b :: r => Vw objs σ a b ∧ VwL objs σ l r
  | _, _ => False

theorem vwL_spec {objs : List AO} {σ : List Nat} : ∀ {l l' : List AV}, VwL objs σ l l' → l.length = l'.length ∧ ∀ (i : Nat) (a b : AV), l[i]? = some a → l'[i]? = some b → Vw objs σ a b
  | [], [], _ => ⟨rfl, fun i a b h => by simp at h⟩
  | x :: l, y :: r, h => by
    obtain ⟨h1, h2⟩ := h
    obtain ⟨h4, h5⟩ := vwL_spec h2
    refine ⟨by simp [h4], fun i a b ha hb => ?_⟩
    cases i with
    | zero => simp only [List.getElem?_cons_zero, Option.some.injEq] at ha hb; subst ha; subst hb; exact h1
    | succ k => simp only [List.getElem?_cons_succ] at ha hb; exact h5 k a b ha hb

theorem Vw.agg' {objs : List AO} {σ : List Nat} {l l' : List AV} (h : VwL objs σ l l') : Vw objs σ (.agg l) (.agg l') := .agg l l' (vwL_spec h).1 (vwL_spec h).2
theorem Vw.tup' {objs : List AO} {σ : List Nat} {l l' : List AV} (h : VwL objs σ l l') : Vw objs σ (.tup l) (.tup l') := .tup l l' (vwL_spec h).1 (vwL_spec h).2
theorem Vw.clo' {objs : List AO} {σ : List Nat} {f : FuncId} {l l' : List AV} (h : VwL objs σ l l') : Vw objs σ (.clo f l) (.clo f l') := .clo f l l' (vwL_spec h).1 (vwL_spec h).2
theorem VwO.box' {objs : List AO} {σ : List Nat} {l l' : List AV} (h : VwL objs σ l l') : VwO objs σ (.box l) (.box l') := .box l l' (vwL_spec h).1 (vwL_spec h).2

def DatV (objs : List AO) (σ : List Nat) (cells : List AV) : List Dat → Nat → Prop
  | [], _ => True
  | d :: r, k => (k < cells.length ∧ Vw objs σ (cells.getD k .any) (.ro d)) ∧ DatV objs σ cells r (k + 1)

theorem datV_spec {objs : List AO} {σ : List Nat} {cells : List AV} : ∀ {ds : List Dat} {off : Nat}, DatV objs σ cells ds off → ∀ (k : Nat) (d : Dat), ds[k]? = some d → cells[off + k]? = some (cells.getD (off + k) .any) ∧ Vw objs σ (cells.getD (off + k) .any) (.ro d)
  | [], _, _, k, d, h => by simp at h
  | x :: r, off, h, k, d, hk => by
    obtain ⟨⟨h0, h1⟩, h2⟩ := h
    cases k with
    | zero =>
      simp only [List.getElem?_cons_zero, Option.some.injEq] at hk; subst hk
      exact ⟨by simp [h0], h1⟩
    | succ k =>
      simp only [List.getElem?_cons_succ] at hk
      have := datV_spec h2 k d hk
      rw [show off + 1 + k = off + (k + 1) by omega] at this
      exact this

theorem Vw.boxrpt' {objs : List AO} {σ : List Nat} {id off : Nat} {cells : List AV} {ds : List Dat} (h : objs[id]? = some (.box cells)) (hn : id ∉ σ) (hd : DatV objs σ cells ds off) :
    Vw objs σ (.ptr id off) (.rpt ds 0) :=
  .boxrpt id off cells ds h hn (fun k => cells.getD (off + k) .any) (fun k d hk => (datV_spec hd k d hk).1) (fun k d hk => (datV_spec hd k d hk).2)

/-! Contracts. -/
def Enters (P : Program) (f : FuncId) : Prop := ∃ fn, P.funcs[f]? = some fn ∧ (fn.name == "runtime.NumGoroutine") = false ∧ fn.body.isNone = false

theorem Enters.run {P : Program} {f : FuncId} (h : Enters P f) (args : Array Value) (w : World) : (callFunc f args).run P w = .ok (.enter f args) w := by
  obtain ⟨fn, h1, h2, h3⟩ := h
  simp only [callFunc, Sem.run_bind, run_program, Result.andThen_ok, h1, h2, h3, Bool.false_eq_true, if_false, Sem.run_pure]

/-- A call of f with args, beside objs that it may write, gives back res, beside objs'; it touches nothing else that was there. -/
def AC (P : Program) (f : FuncId) (args : List AV) (objs : List AO) (res : AV) (objs' : List AO) : Prop :=
  Enters P f ∧ ∀ [Zs] (ρ : Ids) (w : World) (vs : Array Value), Good ρ w objs → vs.size = args.length → (∀ (i : Nat) (av : AV) (v : Value), args[i]? = some av → vs[i]? = some v → Gm ρ w (Ban ρ objs) av v) →
    Calls P f vs w fun e w' => ∃ v ρ', e = .returned v ∧ Same (Own ρ objs) w w' ∧ Good ρ' w' objs' ∧ Gm ρ' w' (Ban ρ' objs') res v ∧
      (∀ (id : Nat) l, ρ[id]? = some l → ρ'[id]? = some l) ∧ (∀ b, Own ρ' objs' b → b < w.heap.size → Own ρ objs b)

def lift [Zs] {k : Nat} (cx : Cx k) (Q : Exit → St → Prop) : Exit → Act → World → Prop := fun e a w => ∃ st, Q e st ∧ Rel cx st a w

/-- The code c, begun where st is known, ends where Q is. -/
def aC [Zs] (P : Program) {k : Nat} (cx : Cx k) (c : Code) (Q : Exit → St → Prop) (st : St) : Prop :=
  ∀ a w, Rel cx st a w → c.wp P (lift cx Q) a w

def argv : Nat → List AV → List (Nat × AV)
  | _, [] => []
  | i, a :: r => (i, a) :: argv (i + 1) r

theorem getv_argv : ∀ (l : List AV) (i t : Nat), getv (argv i l) t = if i ≤ t then l.getD (t - i) .any else .any
  | [], i, t => by simp [argv, getv]
  | a :: r, i, t => by
    rw [argv, getv_cons, getv_argv r (i + 1) t]
    by_cases h : i = t
    · subst h; simp
    · rw [if_neg h]
      by_cases h2 : i ≤ t
      · rw [if_pos h2, if_pos (by omega), show t - i = (t - (i + 1)) + 1 by omega]; simp
      · rw [if_neg h2, if_neg (by omega)]

/-! Types, as the walk asks of them. -/
def SzOf (P : Program) (t : TypeId) (n : Nat) : Prop := (P.info? t).map (·.size) = some n
def scalarD : TypeDesc → Bool
  | .struct _ | .array _ _ => false
  | _ => true
/-- A type of one cell. -/
def ScT (P : Program) (t : TypeId) : Prop := ∃ d, P.underlying t = some d ∧ scalarD d = true
/-- A struct or an array of n cells. -/
def AgT (P : Program) (t : TypeId) (n : Nat) : Prop := (∃ d, P.underlying t = some d ∧ scalarD d = false) ∧ SzOf P t n
def SlT (P : Program) (t e : TypeId) (sz : Nat) : Prop := P.underlying t = some (.slice e) ∧ SzOf P e sz
def ArT (P : Program) (t : TypeId) (n : Nat) (e : TypeId) (sz : Nat) : Prop := P.underlying t = some (.array n e) ∧ SzOf P e sz
def FlT (P : Program) (t : TypeId) (f off : Nat) : Prop := ∃ fs fd n, P.underlying t = some (.struct fs) ∧ fs[f]? = some fd ∧ SzOf P fd.type (n + 1) ∧ fd.offset = off
def MkT (P : Program) (e : TypeId) (z : Value) (sz bytes : Nat) : Prop := (P.info? e).map (fun i => (i.zero, i.size, i.bytes)) = some (some z, sz, bytes)

theorem SzOf.run {P : Program} {t : TypeId} {n : Nat} (h : SzOf P t n) (w : World) : (sizeOf t).run P w = .ok n w := by
  unfold SzOf at h
  cases hi : P.info? t with
  | none => rw [hi] at h; cases h
  | some i =>
    rw [hi] at h
    simp only [Option.map_some, Option.some.injEq] at h
    subst h
    simp [sizeOf, typeInfo, hi]

theorem ScT.run {P : Program} {t : TypeId} (h : ScT P t) (w : World) : (isAgg t).run P w = .ok false w := by
  obtain ⟨d, h1, h2⟩ := h
  simp only [isAgg, Sem.run_bind, run_underlying h1, Result.andThen_ok]
  cases d <;> first | rfl | cases h2

theorem AgT.run {P : Program} {t : TypeId} {n : Nat} (h : AgT P t n) (w : World) : (isAgg t).run P w = .ok true w := by
  obtain ⟨⟨d, h1, h2⟩, _⟩ := h
  simp only [isAgg, Sem.run_bind, run_underlying h1, Result.andThen_ok]
  cases d <;> first | rfl | cases h2

theorem run_loadCellsFrom {P : Program} {w : World} (a : Addr) : ∀ (n i : Nat) (vs : List Value) (acc : Array Value), vs.length = n → (∀ (j : Nat) v, vs[j]? = some v → w.cell? (a.add (i + j)) = some v) →
    (loadCellsFrom a i n acc).run P w = .ok (acc ++ vs.toArray) w
  | 0, i, vs, acc, hl, _ => by
    have : vs = [] := List.eq_nil_of_length_eq_zero hl
    subst this
    simp [loadCellsFrom]
  | n + 1, i, [], acc, hl, _ => by cases hl
  | n + 1, i, v :: vs, acc, hl, h => by
    have h0 := h 0 v rfl
    rw [Nat.add_zero] at h0
    have ih := run_loadCellsFrom (P := P) (w := w) a n (i + 1) vs (acc.push v) (by simpa using hl) (fun j u hu => by
      have := h (j + 1) u hu
      rw [show i + 1 + j = i + (j + 1) by omega]; exact this)
    simp only [loadCellsFrom, Sem.run_bind, run_load, h0, Result.andThen_ok, ih]
    simp

theorem run_loadAgg {P : Program} {w : World} {t : TypeId} {n : Nat} (ht : AgT P t n) (a : Addr) (vs : List Value) (hl : vs.length = n) (h : ∀ (j : Nat) v, vs[j]? = some v → w.cell? (a.add j) = some v) :
    (loadVar t a).run P w = .ok (.agg vs.toArray) w := by
  have := run_loadCellsFrom (P := P) (w := w) a n 0 vs #[] hl (fun j v hv => by rw [Nat.zero_add]; exact h j v hv)
  simp [loadVar, ht.run, ht.2.run, loadCells, this]

theorem run_loadSc {P : Program} {w : World} {t : TypeId} (ht : ScT P t) (a : Addr) {v : Value} (h : w.cell? a = some v) : (loadVar t a).run P w = .ok v w := by
  simp [loadVar, ht.run, run_load, h]

/-- A box's cells, in the world. -/
theorem box_cells [Zs] {ρ : Ids} {w : World} {objs : List AO} (hg : Good ρ w objs) {id off : Nat} {cells : List AV} {u : Value} (ho : objs[id]? = some (.box cells)) (hu : Gm ρ w (Ban ρ objs) (.ptr id off) u) :
    ∃ b arr T, u = .pointer (some ⟨b, off, none⟩) ∧ ρ[id]? = some [.pointer (some ⟨b, 0, none⟩)] ∧ w.heap[b]? = some (.cells arr T (0, 0)) ∧ arr.size = cells.length ∧
      (∀ i, w.cell? ⟨b, i, none⟩ = arr[i]?) ∧ ∀ (i : Nat) (av : AV), cells[i]? = some av → ∃ v, arr[i]? = some v ∧ Gm ρ w (Ban ρ objs) av v := by
  obtain ⟨b, arr, T, h1, h2, h3, h4⟩ := hg.sat id _ ho
  obtain ⟨b', l, rfl, h6⟩ := hu.ptr_inv
  rw [h1] at h6
  simp only [Option.some.injEq, List.cons.injEq, Value.pointer.injEq, Addr.mk.injEq] at h6
  obtain ⟨⟨rfl, _⟩, _⟩ := h6
  exact ⟨b, arr, T, rfl, h1, h2, h3, fun i => cell_of_row w b i arr T (0, 0) h2, h4⟩

/-- What stands in a result's variable. -/
def ResV (P : Program) (st : St) : ResultVar → AV → Prop
  | .tmp t, av => st.get t = av
  | .cell a T, av => ∃ id cells, st.get a = .ptr id 0 ∧ st.objs[id]? = some (.box cells) ∧ ((AgT P T cells.length ∧ av = .agg cells) ∨ (ScT P T ∧ cells[0]? = some av))

def ResVs (P : Program) (st : St) : List ResultVar → List AV → Prop
  | [], [] => True
  | r :: rs, av :: avs => ResV P st r av ∧ ResVs P st rs avs
  | _, _ => False

def tupOf : List AV → AV
  | [av] => av
  | avs => .tup avs

/-- How a function's body must end: σ numbers the objects that are left; those that came in keep their numbers. -/
def Ends (P : Program) (k : Nat) (rs : List ResultVar) (res : AV) (objs' : List AO) (st : St) : Prop :=
  ∃ avs σ, ResVs P st rs avs ∧ VwOs st.objs σ objs' ∧ Vw st.objs σ (tupOf avs) res ∧ fixB k σ = true

def retA (P : Program) (k : Nat) (rs : List ResultVar) (res : AV) (objs' : List AO) : Exit → St → Prop
  | .normal, st => Ends P k rs res objs' st
  | .ret, st => Ends P k rs res objs' st
  | _, _ => False

theorem gm_resV [Zs] {ρ : Ids} {w : World} {st : St} {a : Act} (h : RelB ρ w st a) {P : Program} {r : ResultVar} {av : AV} (hr : ResV P st r av) :
    ∃ v, (∀ g : ResultVar → Sem Value, (∀ t, g (.tmp t) = pure (a.tmps.getD t undef)) → (∀ ad T, g (.cell ad T) = (do loadVar T (← asAddr (a.tmps.getD ad undef)))) → (g r).run P w = .ok v w) ∧ Gm ρ w (Ban ρ st.objs) av v := by
  cases r with
  | tmp t =>
    have : st.get t = av := hr
    subst this
    exact ⟨_, fun g h1 _ => by rw [h1]; rfl, h.frame t⟩
  | cell ad T =>
    obtain ⟨id, cells, h1, h2, h3⟩ := hr
    have hp := h.frame ad
    rw [h1] at hp
    obtain ⟨b, arr, T', hu, _, hh, hsz, hcell, hc⟩ := box_cells h.good h2 hp
    have hadd : ∀ j, (⟨b, 0, none⟩ : Addr).add j = ⟨b, j, none⟩ := fun j => by unfold Addr.add; split <;> simp_all
    rcases h3 with ⟨ht, rfl⟩ | ⟨ht, hav⟩
    · refine ⟨.agg arr, fun g _ hg => ?_, .agg cells arr hsz.symm fun i av v h4 h5 => ?_⟩
      · have := run_loadAgg (P := P) (w := w) ht ⟨b, 0, none⟩ arr.toList (by simpa using hsz) (fun j v hv => by rw [hadd, hcell]; simpa using hv)
        simp only [hg, hu, asAddr, Sem.run_bind, Sem.run_pure, Result.andThen_ok, this]
      · obtain ⟨v', h6, h7⟩ := hc i av h4
        rw [h5] at h6
        obtain rfl := Option.some.inj h6
        exact h7
    · obtain ⟨v, h6, h7⟩ := hc 0 av hav
      refine ⟨v, fun g _ hg => ?_, h7⟩
      have := run_loadSc (P := P) (w := w) ht ⟨b, 0, none⟩ (v := v) (by rw [hcell]; exact h6)
      simp only [hg, hu, asAddr, Sem.run_bind, Sem.run_pure, Result.andThen_ok, this]

theorem gm_results [Zs] {ρ : Ids} {w : World} {st : St} {a : Act} (h : RelB ρ w st a) {fn : Func} {rs : List ResultVar} {avs : List AV} (hr : fn.results = rs.toArray) {P : Program} (hv : ResVs P st rs avs) :
    ∃ v, (results fn a.tmps).run P w = .ok v w ∧ Gm ρ w (Ban ρ st.objs) (tupOf avs) v := by
  have hm : ∀ (rs : List ResultVar) (avs : List AV), ResVs P st rs avs → ∃ vs : List Value, vs.length = avs.length ∧ (∀ (i : Nat) (av : AV) (v : Value), avs[i]? = some av → vs[i]? = some v → Gm ρ w (Ban ρ st.objs) av v) ∧
      ∀ g : ResultVar → Sem Value, (∀ t, g (.tmp t) = pure (a.tmps.getD t undef)) → (∀ ad T, g (.cell ad T) = (do loadVar T (← asAddr (a.tmps.getD ad undef)))) → (rs.mapM g).run P w = .ok vs w := by
    intro rs
    induction rs with
    | nil =>
      intro avs h'
      cases avs with
      | nil => exact ⟨[], rfl, fun i av v h => by simp at h, fun g _ _ => rfl⟩
      | cons _ _ => cases h'
    | cons r rs ih =>
      intro avs h'
      cases avs with
      | nil => cases h'
      | cons av avs =>
        obtain ⟨h1, h2⟩ := h'
        obtain ⟨v, hv, hg⟩ := gm_resV h h1
        obtain ⟨vs, h3, h4, h5⟩ := ih avs h2
        refine ⟨v :: vs, by simp [h3], fun i av' v' ha hv' => ?_, fun g hg1 hg2 => ?_⟩
        · cases i with
          | zero => simp only [List.getElem?_cons_zero, Option.some.injEq] at ha hv'; subst ha; subst hv'; exact hg
          | succ i => simp only [List.getElem?_cons_succ] at ha hv'; exact h4 i av' v' ha hv'
        · simp only [List.mapM_cons, Sem.run_bind, hv g hg1 hg2, h5 g hg1 hg2, Result.andThen_ok, Sem.run_pure]
  obtain ⟨vs, h1, h2, h3⟩ := hm rs avs hv
  have hrun : (results fn a.tmps).run P w = .ok (if h : (vs.toArray).size = 1 then (vs.toArray)[0] else .tuple vs.toArray) w := by
    unfold results
    rw [hr, List.mapM_toArray]
    rw [Sem.run_bind, Sem.run_map, h3 _ (fun t => rfl) (fun ad T => rfl)]
    rfl
  refine ⟨_, hrun, ?_⟩
  clear hrun h3 hm hv
  match avs, vs, h1, h2 with
  | [], [], _, _ => exact .tup [] #[] rfl (fun i av v h => by simp at h)
  | [av], [v], _, h2 => exact h2 0 av v rfl rfl
  | av :: av' :: avs, v :: v' :: vs, hl, h2 =>
    have : ¬ (v :: v' :: vs).toArray.size = 1 := by simp
    rw [dif_neg this]
    exact .tup _ _ (by simpa using hl.symm) fun i av v h4 h5 => h2 i av v h4 (by simpa using h5)

theorem AC.mk {P : Program} {f : FuncId} {fn : Func} {c : Code} {n : Nat} {rs : List ResultVar} {args : List AV} {objs : List AO} {res : AV} {objs' : List AO}
    (hf : P.funcs[f]? = some fn) (hnm : (fn.name == "runtime.NumGoroutine") = false) (hb : fn.body = some c) (hn : fn.ntmps = n) (hle' : Nat.ble args.length n = true) (hr : fn.results = rs.toArray)
    (h : ∀ [Zs] (cx : Cx objs.length), aC P cx c (retA P objs.length rs res objs') ⟨n, argv 0 args, objs⟩) : AC P f args objs res objs' := by
  refine ⟨⟨fn, hf, hnm, by rw [hb]; rfl⟩, ?_⟩
  have hle : args.length ≤ n := Nat.le_of_ble_eq_true hle'
  intro _ ρ w vs hg hsz hargs
  refine calls_of_wp hf hb ?_
  have hrel : Rel (⟨w, Own ρ objs, ρ, hg.len⟩ : Cx objs.length) ⟨n, argv 0 args, objs⟩ { tmps := vs ++ Array.replicate (fn.ntmps - vs.size) undef, defers := [] } w := by
    refine ⟨⟨ρ, ⟨fun t => ?_, by simp; omega, rfl, hg⟩, fun id b hfo _ => ⟨id, hfo⟩, fun _ _ h => h⟩, Same.refl _ _⟩
    show Gm ρ w (Ban ρ objs) (getv (argv 0 args) t) _
    rw [getv_argv, if_pos (Nat.zero_le _)]
    by_cases ht : t < args.length
    · have h1 : args[t]? = some args[t] := List.getElem?_eq_getElem ht
      have ht' : t < vs.size := by omega
      have h2 : vs[t]? = some vs[t] := Array.getElem?_eq_getElem ht'
      have h3 : (vs ++ Array.replicate (fn.ntmps - vs.size) undef).getD t undef = vs[t] := by simp [ht', Array.getElem?_append]
      rw [h3]
      simp only [Nat.sub_zero, List.getD_eq_getElem?_getD, h1, Option.getD_some]
      exact hargs t _ _ h1 h2
    · have : args.getD (t - 0) AV.any = .any := by simp; rw [List.getElem?_eq_none (by omega)]; rfl
      rw [this]
      exact .any _
  refine wp_mono (h _ _ _ hrel) ?_
  intro e a w' ⟨st, hq, ⟨ρ1, hb1, hf1, h01⟩, hs1⟩
  have fin : Ends P objs.length rs res objs' st → bodyPost P fn (fun e w' => ∃ v ρ', e = .returned v ∧ Same (Own ρ objs) w w' ∧ Good ρ' w' objs' ∧ Gm ρ' w' (Ban ρ' objs') res v ∧
      (∀ (id : Nat) l, ρ[id]? = some l → ρ'[id]? = some l) ∧ (∀ b, Own ρ' objs' b → b < w.heap.size → Own ρ objs b)) .ret a w' := by
    rintro ⟨avs, σ, hrv, ho, hv, hσ⟩
    obtain ⟨v, hrun, hgm⟩ := gm_results hb1 hr hrv
    refine ⟨hb1.defers, v, hrun, v, reId ρ1 σ, rfl, hs1, hb1.good.view ho, hv.gm hb1.good ho v hgm, fun id l hl => ?_, fun b hb hlt => ?_⟩
    · have hlt := (List.getElem?_eq_some_iff.1 hl).1
      rw [hg.len] at hlt
      exact reId_get (fixB_spec hσ id hlt) (h01 id l hl)
    · obtain ⟨id', hfo⟩ := hb
      obtain ⟨id, _, hfo'⟩ := foot_view hb1.good ho hfo
      exact hf1 id b hfo' hlt
  cases e with
  | normal => exact fin hq
  | ret => exact fin hq
  | _ => exact hq.elim

end Go.Proofs.Ythchhaaplimafaa
