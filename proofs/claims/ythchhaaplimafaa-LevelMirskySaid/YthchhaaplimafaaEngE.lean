/- The operations that make memory, or write to the call's own. -/
import Derived.Test.YthchhaaplimafaaEngD
set_option linter.unusedSimpArgs false
set_option linter.unusedVariables false
namespace Go.Proofs.Ythchhaaplimafaa
open Go.RowKit

theorem Gm.ext [Zs] {ρ ρ' : Ids} {w w' : World} {objs objs' : List AO} (hs : Same (Own ρ objs) w w') (hρ : ∀ (id : Nat) l, ρ[id]? = some l → ρ'[id]? = some l) (hM : ∀ b, b < w.heap.size → Own ρ' objs' b → Own ρ objs b)
    {av : AV} {v : Value} (h : Gm ρ w (Ban ρ objs) av v) : Gm ρ' w' (Ban ρ' objs') av v := h.mono hs.ban (Ban.mono hM) hρ

/-- An object that nobody has touched is what it was. -/
theorem SatO.keep [Zs] {ρ ρ' : Ids} {w w' : World} {objs objs' : List AO} {id : Nat} {o : AO} (h : SatO ρ w (Ban ρ objs) id o) (hs : Same (Own ρ objs) w w') (hρ : ∀ (id : Nat) l, ρ[id]? = some l → ρ'[id]? = some l)
    (hM : ∀ b, b < w.heap.size → Own ρ' objs' b → Own ρ objs b) (hf : ∀ l v b, ρ[id]? = some l → v ∈ l → ablk v = some b → b < w.heap.size → w'.heap[b]? = w.heap[b]?) : SatO ρ' w' (Ban ρ' objs') id o := by
  have hrow : ∀ {l : List Value} {e : TypeId} {sz n : Nat} {u : Value} {xs : List Value}, ρ[id]? = some l → u ∈ l → w.ownsRow 0 e sz u n xs → w'.ownsRow 0 e sz u n xs := by
    intro l e sz n u xs hl hu ho
    refine ⟨ho.1, ?_⟩
    rcases ho.2 with hn | ⟨g, cap, cur, rfl, hbg, hgg, rest⟩
    · exact .inl hn
    · refine .inr ⟨g, cap, cur, rfl, hbg, ?_, rest⟩
      rw [hf l _ g hl hu rfl (Array.getElem?_eq_some_iff.1 hgg).1]
      exact hgg
  cases o with
  | gone => trivial
  | box cs =>
    obtain ⟨b, arr, T, h1, h2, h3, h4⟩ := h
    refine ⟨b, arr, T, hρ _ _ h1, ?_, h3, fun i av hi => ?_⟩
    · rw [hf _ _ b h1 (List.mem_singleton.2 rfl) rfl (Array.getElem?_eq_some_iff.1 h2).1]; exact h2
    · obtain ⟨v, hv, hg⟩ := h4 i av hi
      exact ⟨v, hv, hg.ext hs hρ hM⟩
  | row e sz cs =>
    obtain ⟨v, n, us, h1, h2, h3, h4⟩ := h
    refine ⟨v, n, us, hρ _ _ h1, hrow h1 (List.mem_singleton.2 rfl) h2, h3, fun i d hi => ?_⟩
    obtain ⟨u, hu, hr⟩ := h4 i d hi
    exact ⟨u, hu, hr.mono hs.ban (Ban.mono hM)⟩
  | mat e e' m =>
    obtain ⟨v, us, h1, h2, h3, h4, h5⟩ := h
    refine ⟨v, us, hρ _ _ h1, hrow h1 (List.mem_cons_self ..) h2, h3, fun i r hi => ?_, h5⟩
    obtain ⟨u, hu, hr⟩ := h4 i r hi
    exact ⟨u, hu, hrow h1 (List.mem_cons_of_mem _ (List.mem_of_getElem? hu)) hr⟩

/-- The numbers that stay apart: one object turned, others as they were, new ones behind. -/
theorem foot_set {ρ : Ids} {objs : List AO} {id id' : Nat} {o : AO} {b : Nat} (hid : id < objs.length) (h : foot ρ (objs.set id o) id' b) : (id' = id ∧ o.live = true ∧ ∃ l, ρ[id]? = some l ∧ ∃ v, v ∈ l ∧ ablk v = some b) ∨ (id' ≠ id ∧ foot ρ objs id' b) := by
  obtain ⟨o', l, h1, h2, h3, h4⟩ := h
  by_cases he : id' = id
  · subst he
    rw [List.getElem?_set_self hid] at h1
    obtain rfl := Option.some.inj h1
    exact .inl ⟨rfl, h2, l, h3, h4⟩
  · rw [List.getElem?_set_ne (Ne.symm he)] at h1
    exact .inr ⟨he, o', l, h1, h2, h3, h4⟩

theorem foot_app {ρ ls : Ids} {objs os : List AO} (hlen : ρ.length = objs.length) {id b : Nat} (h : foot (ρ ++ ls) (objs ++ os) id b) : (id < objs.length ∧ foot ρ objs id b) ∨ (objs.length ≤ id ∧ foot (ρ ++ ls) (objs ++ os) id b) := by
  by_cases hid : id < objs.length
  · left
    obtain ⟨o, l, h1, h2, h3, h4⟩ := h
    rw [List.getElem?_append_left hid] at h1
    rw [List.getElem?_append_left (by omega)] at h3
    exact ⟨hid, o, l, h1, h2, h3, h4⟩
  · exact .inr ⟨by omega, h⟩

theorem ext_app (ρ ls : Ids) : ∀ (id : Nat) l, ρ[id]? = some l → (ρ ++ ls)[id]? = some l := by
  intro id l h
  rw [List.getElem?_append_left (List.getElem?_eq_some_iff.1 h).1]
  exact h

/-- New objects behind the old ones. -/
theorem Good.app [Zs] {ρ ls : Ids} {w w' : World} {objs os : List AO} (hg : Good ρ w objs) (hs : Same (Own ρ objs) w w') (hk : ∀ b, Own ρ objs b → w'.heap[b]? = w.heap[b]?) (hlen : ls.length = os.length)
    (hfr : ∀ id b, objs.length ≤ id → foot (ρ ++ ls) (objs ++ os) id b → w.heap.size ≤ b)
    (hdis : ∀ i j b, objs.length ≤ i → objs.length ≤ j → foot (ρ ++ ls) (objs ++ os) i b → foot (ρ ++ ls) (objs ++ os) j b → i = j)
    (hsat : ∀ i o, os[i]? = some o → SatO (ρ ++ ls) w' (Ban (ρ ++ ls) (objs ++ os)) (objs.length + i) o) : Good (ρ ++ ls) w' (objs ++ os) ∧ ∀ b, b < w.heap.size → Own (ρ ++ ls) (objs ++ os) b → Own ρ objs b := by
  have hM : ∀ b, b < w.heap.size → Own (ρ ++ ls) (objs ++ os) b → Own ρ objs b := by
    rintro b hb ⟨id, h⟩
    rcases foot_app hg.len h with ⟨_, h⟩ | ⟨h1, h2⟩
    · exact ⟨id, h⟩
    · have := hfr id b h1 h2; omega
  have hzf : ∀ id b, foot (ρ ++ ls) (objs ++ os) id b → ¬ Zs.z b := fun id b h hz => by
    rcases foot_app hg.len h with ⟨_, h⟩ | ⟨h1, h2⟩
    · exact hg.zf id b h hz
    · have := hfr id b h1 h2
      have := hg.zl b hz
      omega
  refine ⟨⟨by simp [hg.len, hlen], fun id o ho => ?_, fun i j b hi hj => ?_, hzf, fun b hz => Nat.lt_of_lt_of_le (hg.zl b hz) hs.size⟩, hM⟩
  · by_cases hid : id < objs.length
    · rw [List.getElem?_append_left hid] at ho
      have hsat0 := hg.sat id o ho
      by_cases hl : o.live = true
      · exact hsat0.keep hs (ext_app ρ ls) hM fun l v b h1 h2 h3 _ => hk b ⟨id, o, l, ho, hl, h1, v, h2, h3⟩
      · cases o with
        | gone => trivial
        | _ => exact absurd rfl hl
    · rw [List.getElem?_append_right (by omega)] at ho
      have := hsat _ o ho
      rw [show objs.length + (id - objs.length) = id by omega] at this
      exact this
  · rcases foot_app hg.len hi with ⟨a1, a2⟩ | ⟨a1, a2⟩ <;> rcases foot_app hg.len hj with ⟨b1, b2⟩ | ⟨b1, b2⟩
    · exact hg.dis i j b a2 b2
    · have h1 := foot_lt hg a2; have h2 := hfr j b b1 b2; omega
    · have h1 := foot_lt hg b2; have h2 := hfr i b a1 a2; omega
    · exact hdis i j b a1 b1 a2 b2

/-- An object is no more looked at. -/
theorem Good.drop [Zs] {ρ : Ids} {w : World} {objs : List AO} (hg : Good ρ w objs) (id : Nat) : Good ρ w (objs.set id .gone) ∧ ∀ b, Own ρ (objs.set id .gone) b → Own ρ objs b := by
  by_cases hid : id < objs.length
  case neg =>
    rw [List.set_eq_of_length_le (by omega)]
    exact ⟨hg, fun _ h => h⟩
  have hM : ∀ b, Own ρ (objs.set id .gone) b → Own ρ objs b := by
    rintro b ⟨id', h⟩
    rcases foot_set hid h with ⟨_, h, _⟩ | ⟨_, h⟩
    · cases h
    · exact ⟨id', h⟩
  have hzf : ∀ id' b, foot ρ (objs.set id .gone) id' b → ¬ Zs.z b := fun id' b h hz => by
    rcases foot_set hid h with ⟨_, h, _⟩ | ⟨_, h⟩
    · cases h
    · exact hg.zf id' b h hz
  refine ⟨⟨by simp [hg.len], fun id' o ho => ?_, fun i j b hi hj => ?_, hzf, hg.zl⟩, hM⟩
  · by_cases he : id' = id
    · subst he
      rw [List.getElem?_set_self hid] at ho
      obtain rfl := Option.some.inj ho
      trivial
    · rw [List.getElem?_set_ne (Ne.symm he)] at ho
      exact (hg.sat id' o ho).keep (Same.refl _ _) (fun _ _ h => h) (fun b _ h => hM b h) (fun _ _ _ _ _ _ _ => rfl)
  · rcases foot_set hid hi with ⟨_, h, _⟩ | ⟨_, h1⟩
    · cases h
    · rcases foot_set hid hj with ⟨_, h, _⟩ | ⟨_, h2⟩
      · cases h
      · exact hg.dis i j b h1 h2

/-- One object of one block turns, in its own block. -/
theorem Good.turn [Zs] {ρ : Ids} {w w' : World} {objs : List AO} (hg : Good ρ w objs) {id : Nat} {o o' : AO} (ho : objs[id]? = some o) (hl : o.live = true) {v : Value} {b : Nat} (hρ : ρ[id]? = some [v]) (hb : ablk v = some b)
    (hs : Same (fun x => x = b) w w') (hsat : SatO ρ w' (Ban ρ (objs.set id o')) id o') : Good ρ w' (objs.set id o') ∧ (∀ b, Own ρ (objs.set id o') b → Own ρ objs b) ∧ Same (Own ρ objs) w w' := by
  have hid := (List.getElem?_eq_some_iff.1 ho).1
  have hfb : foot ρ objs id b := ⟨o, [v], ho, hl, hρ, v, List.mem_singleton.2 rfl, hb⟩
  have hsm : Same (Own ρ objs) w w' := ⟨hs.os, hs.tape, hs.output, hs.size, fun k hk hn => hs.block k hk (fun e => hn (e ▸ ⟨id, hfb⟩))⟩
  have hfoot : ∀ {i x}, foot ρ (objs.set id o') i x → foot ρ objs i x := by
    intro i x h
    rcases foot_set hid h with ⟨rfl, _, l, h1, u, h2, h3⟩ | ⟨_, h⟩
    · rw [hρ] at h1
      obtain rfl := Option.some.inj h1
      obtain rfl := List.mem_singleton.1 h2
      rw [hb] at h3
      obtain rfl := Option.some.inj h3
      exact hfb
    · exact h
  have hM : ∀ b, Own ρ (objs.set id o') b → Own ρ objs b := fun x ⟨i, h⟩ => ⟨i, hfoot h⟩
  refine ⟨⟨by simp [hg.len], fun id' o2 ho2 => ?_, fun i j x hi hj => hg.dis i j x (hfoot hi) (hfoot hj), fun i x h => hg.zf i x (hfoot h), fun x hz => Nat.lt_of_lt_of_le (hg.zl x hz) hs.size⟩, hM, hsm⟩
  by_cases he : id' = id
  · subst he
    rw [List.getElem?_set_self hid] at ho2
    obtain rfl := Option.some.inj ho2
    exact hsat
  · rw [List.getElem?_set_ne (Ne.symm he)] at ho2
    by_cases hl2 : o2.live = true
    · refine (hg.sat id' o2 ho2).keep hsm (fun _ _ h => h) (fun x _ h => hM x h) fun l u x h1 h2 h3 hx => hs.block x hx ?_
      rintro rfl
      exact he (hg.dis id' id x ⟨o2, l, ho2, hl2, h1, u, h2, h3⟩ hfb)
    · cases o2 with
      | gone => trivial
      | _ => exact absurd rfl hl2

theorem new_id {ρ : Ids} {objs : List AO} (h : ρ.length = objs.length) (l : List Value) : (ρ ++ [l])[objs.length]? = some l := by
  rw [List.getElem?_append_right (by rw [h]; exact Nat.le_refl _), h, Nat.sub_self]; rfl

theorem MkT.info {P : Program} {e : TypeId} {z : Value} {sz by' : Nat} (h : MkT P e z sz by') : ∃ i, P.info? e = some i ∧ i.zero = some z ∧ i.size = sz ∧ i.bytes = by' := by
  unfold MkT at h
  cases hi : P.info? e with
  | none => rw [hi] at h; cases h
  | some i =>
    rw [hi] at h
    simp only [Option.map_some, Option.some.injEq, Prod.mk.injEq] at h
    exact ⟨i, rfl, h⟩

section
variable {P : Program} {k : Nat} {cx : Cx k} {ops : Array Oper} {Q : Exit → St → Prop} {st : St} {rest : List Oper} {ty : TypeId} {pos : String} {af : Array Edge}

theorem Rel.step [Zs] {a : Act} {w w' : World} {ρ ρ' : Ids} {st2 : St} {a' : Act} (hr : Rel cx st a w) (hf : ∀ id b, foot ρ st.objs id b → b < cx.w0.heap.size → cx.M0 b) (h0 : ∀ (id : Nat) l, cx.ρ0[id]? = some l → ρ[id]? = some l)
    (hs : Same (Own ρ st.objs) w w') (hρ : ∀ (id : Nat) l, ρ[id]? = some l → ρ'[id]? = some l) (hM : ∀ b, b < w.heap.size → Own ρ' st2.objs b → Own ρ st.objs b) (hb : RelB ρ' w' st2 a') : Rel cx st2 a' w' := by
  refine ⟨⟨ρ', hb, fun id b h hlt => ?_, fun id l h => hρ _ _ (h0 id l h)⟩, hr.same.trans hs fun x hx ⟨id, h⟩ => hf id x h hx⟩
  obtain ⟨id2, h2⟩ := hM b (Nat.lt_of_lt_of_le hlt hr.same.size) ⟨id, h⟩
  exact hf id2 b h2 hlt

/-- An operation that gives back a value. -/
theorem l_step [Zs] {d : Tmp} {op : Op} {st2 : St} {av : AV} (hd : Nat.blt d st2.n = true) (hn : st.n = st2.n)
    (h : ∀ (ρ : Ids) (w : World) (a : Act), RelB ρ w st a → ∃ v w' ρ', (execOp a.eval ⟨some d, op, ty, pos, af, none⟩).run P w = .ok (.value v) w' ∧ Same (Own ρ st.objs) w w' ∧ (∀ (id : Nat) l, ρ[id]? = some l → ρ'[id]? = some l) ∧
      (∀ b, b < w.heap.size → Own ρ' st2.objs b → Own ρ st.objs b) ∧ Good ρ' w' st2.objs ∧ Gm ρ' w' (Ban ρ' st2.objs) av v)
    (hv : st.vars = st2.vars) (hk : aL P cx ops Q rest (st2.put d av)) : aL P cx ops Q (⟨some d, op, ty, pos, af, none⟩ :: rest) st := by
  intro a w hr
  obtain ⟨ρ, hb, hf, h0⟩ := hr.base
  obtain ⟨v, w', ρ', hrun, hs, hρ, hM, hg, hgm⟩ := h ρ w a hb
  unfold wpList
  rw [if_pos (by simp [Region.wanted])]
  left
  unfold Oper.wp
  rw [hrun]
  refine hk _ _ (Rel.step hr hf h0 hs hρ (st2 := st2.put d av) hM (RelB.put (st := st2) ⟨fun t => ?_, hb.size.trans hn, hb.defers, hg⟩ hd hgm))
  have := (hb.frame t).ext hs hρ hM
  unfold St.get at this ⊢
  rw [← hv]; exact this

/-- An operation that gives nothing back. -/
theorem l_skip [Zs] {op : Op} {st2 : St} (hn : st.n = st2.n)
    (h : ∀ (ρ : Ids) (w : World) (a : Act), RelB ρ w st a → ∃ w' ρ', (execOp a.eval ⟨none, op, ty, pos, af, none⟩).run P w = .ok .skip w' ∧ Same (Own ρ st.objs) w w' ∧ (∀ (id : Nat) l, ρ[id]? = some l → ρ'[id]? = some l) ∧
      (∀ b, b < w.heap.size → Own ρ' st2.objs b → Own ρ st.objs b) ∧ Good ρ' w' st2.objs)
    (hv : st.vars = st2.vars) (hk : aL P cx ops Q rest st2) : aL P cx ops Q (⟨none, op, ty, pos, af, none⟩ :: rest) st := by
  intro a w hr
  obtain ⟨ρ, hb, hf, h0⟩ := hr.base
  obtain ⟨w', ρ', hrun, hs, hρ, hM, hg⟩ := h ρ w a hb
  unfold wpList
  rw [if_pos (by simp [Region.wanted])]
  left
  unfold Oper.wp
  rw [hrun]
  refine hk _ _ (Rel.step hr hf h0 hs hρ (st2 := st2) hM ⟨fun t => ?_, hb.size.trans hn, hb.defers, hg⟩)
  have := (hb.frame t).ext hs hρ hM
  unfold St.get at this ⊢
  rw [← hv]; exact this

/-- A new object of one block. -/
theorem app_one [Zs] {ρ : Ids} {w : World} {objs : List AO} (hg : Good ρ w objs) {w' : World} {o : AO} {v : Value} (hs : Below w.heap.size w w') (hfr : ∀ b, ablk v = some b → w.heap.size ≤ b)
    (hsat : (ρ ++ [[v]])[objs.length]? = some [v] → (∀ b, b < w.heap.size → Own (ρ ++ [[v]]) (objs ++ [o]) b → Own ρ objs b) → SatO (ρ ++ [[v]]) w' (Ban (ρ ++ [[v]]) (objs ++ [o])) objs.length o) :
    Same (Own ρ objs) w w' ∧ (∀ (id : Nat) l, ρ[id]? = some l → (ρ ++ [[v]])[id]? = some l) ∧ (∀ b, b < w.heap.size → Own (ρ ++ [[v]]) (objs ++ [o]) b → Own ρ objs b) ∧ Good (ρ ++ [[v]]) w' (objs ++ [o]) := by
  have hlast : ∀ id b, objs.length ≤ id → foot (ρ ++ [[v]]) (objs ++ [o]) id b → id = objs.length ∧ ablk v = some b := by
    rintro id b h ⟨o', l, h1, _, h3, u, h4, h5⟩
    have hlt := (List.getElem?_eq_some_iff.1 h1).1
    simp at hlt
    obtain rfl : id = objs.length := by omega
    rw [List.getElem?_append_right (by rw [hg.len]; exact Nat.le_refl _), hg.len, Nat.sub_self] at h3
    obtain rfl := Option.some.inj h3
    obtain rfl := List.mem_singleton.1 h4
    exact ⟨rfl, h5⟩
  have hM : ∀ b, b < w.heap.size → Own (ρ ++ [[v]]) (objs ++ [o]) b → Own ρ objs b := by
    rintro b hb ⟨id, h⟩
    rcases foot_app hg.len h with ⟨_, h⟩ | ⟨h1, h2⟩
    · exact ⟨id, h⟩
    · have := hfr b (hlast id b h1 h2).2; omega
  have hnew : (ρ ++ [[v]])[objs.length]? = some [v] := by
    rw [List.getElem?_append_right (by rw [hg.len]; exact Nat.le_refl _), hg.len, Nat.sub_self]; rfl
  have := hg.app (ls := [[v]]) (os := [o]) (Same.of_below hs _) (fun b ⟨id, h⟩ => hs.block b (foot_lt hg h)) rfl (fun id b h1 h2 => hfr b (hlast id b h1 h2).2)
    (fun i j b h1 h2 h3 h4 => (hlast i b h1 h3).1.trans (hlast j b h2 h4).1.symm) (fun i o' h => by
      cases i with
      | zero => simp at h; subst h; exact hsat hnew hM
      | succ i => simp at h)
  exact ⟨Same.of_below hs _, ext_app ρ _, this.2, this.1⟩

def AV.cells : AV → List AV
  | .agg l => l
  | .val v => v.cells.toList.map .val
  | av => [av]
def AV.one : AV → Bool
  | .val v => v.oneCell'
  | .ro (.val v) => v.oneCell'
  | .agg _ | .tup _ | .any => false
  | _ => true

theorem cells_one {v : Value} (h : v.oneCell' = true) : v.cells = #[v] := by cases v <;> first | rfl | cases h

theorem Gm.one {ρ : Ids} {w : World} {M : Nat → Prop} {av : AV} {v : Value} (h : Gm ρ w M av v) (ho : av.one = true) : v.oneCell' = true := by
  cases h with
  | val v => exact ho
  | ro d v hr => cases hr with
    | val v => exact ho
    | nil => rfl
    | sl => rfl
  | own id v l hl h1 => exact h1
  | ptr => rfl
  | ept => rfl
  | rpt => rfl
  | agg => cases ho
  | tup => cases ho
  | clo => rfl
  | any => cases ho

/-- The cells of a value, as known. -/
theorem gm_cells {ρ : Ids} {w : World} {M : Nat → Prop} {av : AV} {v : Value} {l : List AV} (h : Gm ρ w M av v) (hl : av.cells = l) (ho : ∀ a ∈ l, a.one = true) :
    v.cells.size = l.length ∧ (∀ (i : Nat) (a : AV) (u : Value), l[i]? = some a → v.cells[i]? = some u → Gm ρ w M a u) ∧ ∀ u ∈ v.cells.toList, u.oneCell' = true := by
  have key : v.cells.size = l.length ∧ ∀ (i : Nat) (a : AV) (u : Value), l[i]? = some a → v.cells[i]? = some u → Gm ρ w M a u := by
    have one : av.cells = [av] → v.oneCell' = true → v.cells.size = l.length ∧ ∀ (i : Nat) (a : AV) (u : Value), l[i]? = some a → v.cells[i]? = some u → Gm ρ w M a u := by
      intro h1 h2
      rw [h1] at hl
      subst hl
      rw [cells_one h2]
      refine ⟨rfl, fun i a u h3 h4 => ?_⟩
      cases i with
      | zero => simp at h3 h4; subst h3; subst h4; exact h
      | succ i => simp at h3
    have hone : av.cells = [av] → av.one = true := fun h1 => by
      rw [h1] at hl; subst hl; exact ho av (List.mem_singleton.2 rfl)
    cases h with
    | val v =>
      subst hl
      refine ⟨by simp [AV.cells], fun i a u h3 h4 => ?_⟩
      simp only [AV.cells, List.getElem?_map, Array.getElem?_toList, h4, Option.map_some, Option.some.injEq] at h3
      subst h3
      exact .val u
    | agg l' vs hlen hv =>
      subst hl
      exact ⟨hlen.symm, fun i a u h3 h4 => hv i a u h3 h4⟩
    | ro d v hr => exact one rfl ((Gm.ro d v hr : Gm ρ w M _ v).one (hone rfl))
    | own id v l hl h1 => exact one rfl h1
    | ptr => exact one rfl rfl
    | ept => exact one rfl rfl
    | rpt => exact one rfl rfl
    | tup => exact absurd (hone rfl) (by simp [AV.one])
    | clo => exact one rfl rfl
    | any => exact absurd (hone rfl) (by simp [AV.one])
  refine ⟨key.1, key.2, fun u hu => ?_⟩
  obtain ⟨i, hi, rfl⟩ := List.getElem_of_mem hu
  simp only [Array.length_toList] at hi
  have hi' : i < l.length := by rw [← key.1]; exact hi
  exact (key.2 i _ _ (List.getElem?_eq_getElem hi') (by simp [hi])).one (ho _ (List.getElem_mem hi'))

theorem l_box [Zs] {d : Tmp} {T : TypeId} {x : Operand} {av : AV} {l : List AV} (hx : st.ev x = av) (hl : av.cells = l) (ho' : l.all AV.one = true) (hd : Nat.blt d st.n = true)
    (hk : aL P cx ops Q rest ((st.add (.box l)).put d (.ptr st.objs.length 0))) : aL P cx ops Q (⟨some d, .box T x, ty, pos, af, none⟩ :: rest) st := by
  have ho : ∀ a ∈ l, a.one = true := List.all_eq_true.1 ho'
  refine l_step (st2 := st.add (.box l)) hd rfl ?_ rfl hk
  intro ρ w a hb
  have hg := hb.ev x
  rw [hx] at hg
  obtain ⟨h1, h2, _⟩ := gm_cells hg hl ho
  have hbel : Below w.heap.size w (w.alloc (.cells (a.eval x).cells T)) := (Below.refl _ _).alloc (Nat.le_refl _) _
  have happ := app_one hb.good (o := .box l) (v := .pointer (some ⟨w.heap.size, 0, none⟩)) hbel (fun b hb' => by cases hb'; exact Nat.le_refl _) fun hnew hM => ⟨w.heap.size, (a.eval x).cells, T, hnew, heap_alloc_new w _, h1, fun i av' hi => by
    have hi' : i < (a.eval x).cells.size := by rw [h1]; exact (List.getElem?_eq_some_iff.1 hi).1
    exact ⟨_, Array.getElem?_eq_getElem hi', (h2 i av' _ hi (Array.getElem?_eq_getElem hi')).ext (Same.of_below hbel _) (ext_app ρ _) hM⟩⟩
  refine ⟨.pointer (some ⟨w.heap.size, 0, none⟩), _, _, ?_, happ.1, happ.2.1, happ.2.2.1, happ.2.2.2, .ptr _ 0 _ [] (new_id hb.good.len _)⟩
  simp [execOp, Instr.box, newVar, newRow]

/-- A new variable of a type whose nought is written out. -/
theorem l_alloc [Zs] {d : Tmp} {T : TypeId} {z : Value} {sz by' : Nat} {l : List AV} (ht : MkT P T z sz by') (hl : (AV.val z).cells = l) (ho' : l.all AV.one = true) (hd : Nat.blt d st.n = true)
    (hk : aL P cx ops Q rest ((st.add (.box l)).put d (.ptr st.objs.length 0))) : aL P cx ops Q (⟨some d, .alloc T, ty, pos, af, none⟩ :: rest) st := by
  have ho : ∀ a ∈ l, a.one = true := List.all_eq_true.1 ho'
  refine l_step (st2 := st.add (.box l)) hd rfl ?_ rfl hk
  intro ρ w a hb
  have hg : Gm ρ w (Ban ρ st.objs) (.val z) z := .val z
  obtain ⟨h1, h2, _⟩ := gm_cells hg hl ho
  have hbel : Below w.heap.size w (w.alloc (.cells z.cells T)) := (Below.refl _ _).alloc (Nat.le_refl _) _
  have happ := app_one hb.good (o := .box l) (v := .pointer (some ⟨w.heap.size, 0, none⟩)) hbel (fun b hb' => by cases hb'; exact Nat.le_refl _) fun hnew hM => ⟨w.heap.size, z.cells, T, hnew, heap_alloc_new w _, h1, fun i av' hi => by
    have hi' : i < z.cells.size := by rw [h1]; exact (List.getElem?_eq_some_iff.1 hi).1
    exact ⟨_, Array.getElem?_eq_getElem hi', (h2 i av' _ hi (Array.getElem?_eq_getElem hi')).ext (Same.of_below hbel _) (ext_app ρ _) hM⟩⟩
  refine ⟨.pointer (some ⟨w.heap.size, 0, none⟩), _, _, ?_, happ.1, happ.2.1, happ.2.2.1, happ.2.2.2, .ptr _ 0 _ [] (new_id hb.good.len _)⟩
  obtain ⟨i, hi, hz⟩ := ht.info
  simp [execOp, Instr.alloc, newVar, newRow, zeroValue, typeInfo, hi, hz.1]

/-- A store of one cell into a box. -/
theorem l_store_ptr [Zs] {T : TypeId} {x y : Operand} {id o : Nat} {cells : List AV} {av : AV} (hx : st.ev x = .ptr id o) (ho : st.objs[id]? = some (.box cells)) (hlt : Nat.blt o cells.length = true) (hy : st.ev y = av) (h1 : av.one = true) (ht : SzOf P T 1)
    (hk : aL P cx ops Q rest (st.set id (.box (cells.set o av)))) : aL P cx ops Q (⟨none, .store T x y, ty, pos, af, none⟩ :: rest) st := by
  refine l_skip (st2 := st.set id (.box (cells.set o av))) rfl ?_ rfl hk
  intro ρ w a hb
  have hlt' : o < cells.length := by simpa [Nat.blt_eq] using hlt
  have hg := hb.ev x
  rw [hx] at hg
  obtain ⟨b, arr, T', he, hρ, hh, hsz, hcell, hcs⟩ := box_cells hb.good ho hg
  have hgy := hb.ev y
  rw [hy] at hgy
  have hone := hgy.one h1
  have hrun := run_storeCells_at P b o T' [a.eval y] 0 arr w hh (by simp; omega) (by simpa using hone)
  have hsm : Same (fun x => x = b) w (w.setRow b (arr.toList.take (o + 0) ++ [a.eval y] ++ arr.toList.drop (o + 0 + [a.eval y].length)).toArray) :=
    ⟨rfl, rfl, rfl, by simp, fun k _ hn => setRow_other w b k _ hn⟩
  have hheap := setRow_heap w b arr (arr.toList.take (o + 0) ++ [a.eval y] ++ arr.toList.drop (o + 0 + [a.eval y].length)).toArray T' (0, 0) hh
  have key := hb.good.turn (o' := .box (cells.set o av)) ho rfl hρ (b := b) rfl hsm
  generalize hw : w.setRow b (arr.toList.take (o + 0) ++ [a.eval y] ++ arr.toList.drop (o + 0 + [a.eval y].length)).toArray = w' at *
  have hids : ∀ b', Own ρ (st.objs.set id (.box (cells.set o av))) b' → Own ρ st.objs b' := by
    rintro b' ⟨i, h⟩
    rcases foot_set (List.getElem?_eq_some_iff.1 ho).1 h with ⟨rfl, _, l, h3, h4⟩ | ⟨_, h⟩
    · exact ⟨i, _, l, ho, rfl, h3, h4⟩
    · exact ⟨i, h⟩
  have hsm' : Same (Own ρ st.objs) w w' := ⟨hsm.os, hsm.tape, hsm.output, hsm.size, fun k hk hn => hsm.block k hk (fun e => hn (e ▸ ⟨id, _, _, ho, rfl, hρ, _, List.mem_singleton.2 rfl, rfl⟩))⟩
  have hgm : ∀ {av' : AV} {v : Value}, Gm ρ w (Ban ρ st.objs) av' v → Gm ρ w' (Ban ρ (st.objs.set id (.box (cells.set o av)))) av' v := fun h => h.ext hsm' (fun _ _ h => h) (fun b' _ h => hids b' h)
  have hfin := key ⟨b, _, T', hρ, hheap, by simp [hsz]; omega, fun i av' hi => by
    by_cases hio : i = o
    · subst hio
      rw [List.getElem?_set_self hlt'] at hi
      obtain rfl := Option.some.inj hi
      refine ⟨a.eval y, ?_, hgm hgy⟩
      have hl : (arr.toList.take i).length = i := by simp; omega
      simp [hl]
    · rw [List.getElem?_set_ne (Ne.symm hio)] at hi
      obtain ⟨v, hv, hgv⟩ := hcs i av' hi
      refine ⟨v, ?_, hgm hgv⟩
      have hi2 : i < arr.size := (Array.getElem?_eq_some_iff.1 hv).1
      rw [← hv]
      simp only [Nat.add_zero, List.length_singleton, List.getElem?_toArray, List.append_assoc, List.singleton_append]
      rw [List.getElem?_append]
      have hl : (arr.toList.take o).length = o := by simp; omega
      rw [hl]
      by_cases hlt2 : i < o
      · rw [if_pos hlt2, List.getElem?_take, if_pos hlt2]; simp
      · rw [if_neg hlt2, show i - o = (i - o - 1) + 1 by omega, List.getElem?_cons_succ, List.getElem?_drop, show o + 1 + (i - o - 1) = i by omega]; simp⟩
  refine ⟨w', ρ, ?_, hsm', fun _ _ h => h, fun b' _ h => hids b' h, hfin.1⟩
  simp only [execOp, he, Instr.storeAt, Instr.sureAddr, storeVar, cells_one hone, Sem.run_bind, Sem.run_pure, Result.andThen_ok, ht.run]
  simp [hrun]
end
end Go.Proofs.Ythchhaaplimafaa
