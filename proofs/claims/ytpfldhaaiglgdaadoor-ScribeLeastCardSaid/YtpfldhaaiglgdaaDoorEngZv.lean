import Derived.Test.YtpfldhaaiglgdaaDoorEngZr
set_option linter.unusedSimpArgs false
set_option linter.unusedVariables false
set_option linter.unusedSectionVars false
namespace Go.Proofs.YtpfldhaaiglgdaaDoor
open Go.RowKit
section
/-! What hangs on the heads of the objects' values alone. -/
theorem Gm.heads {ρ ρ' : Ids} {w : World} {M : Nat → Prop} (hh : ∀ (id : Nat) (v : Value) l, ρ[id]? = some (v :: l) → ∃ l', ρ'[id]? = some (v :: l')) {av : AV} {u : Value} (h : Gm ρ w M av u) : Gm ρ' w M av u := by
  induction h with
  | val v => exact .val v
  | ro d v hr => exact .ro d v hr
  | own id v l hv h1 => obtain ⟨l', h'⟩ := hh _ _ _ hv; exact .own id v l' h' h1
  | ptr id off b l hv => obtain ⟨l', h'⟩ := hh _ _ _ hv; exact .ptr id off b l' h'
  | ept id k b n cap l hv => obtain ⟨l', h'⟩ := hh _ _ _ hv; exact .ept id k b n cap l' h'
  | rpt a cs off us hsp hMk hc hr => exact .rpt a cs off us hsp hMk hc hr
  | agg l vs hl _ ih => exact .agg l vs hl ih
  | tup l vs hl _ ih => exact .tup l vs hl ih
  | clo f l vs hl _ ih => exact .clo f l vs hl ih
  | any v => exact .any v
theorem SatO.heads {ρ ρ' : Ids} {w : World} {M : Nat → Prop} {id : Nat} {o : AO} (h : SatO ρ w M id o) (hi : ρ'[id]? = ρ[id]?) (hh : ∀ (id : Nat) (v : Value) l, ρ[id]? = some (v :: l) → ∃ l', ρ'[id]? = some (v :: l')) : SatO ρ' w M id o := by
  cases o with
  | box cs =>
    obtain ⟨b, arr, T, h1, h2, h3, h4⟩ := h
    refine ⟨b, arr, T, hi.trans h1, h2, h3, fun i av hj => ?_⟩
    obtain ⟨v, hv, hg⟩ := h4 i av hj
    exact ⟨v, hv, hg.heads hh⟩
  | row e sz cs => obtain ⟨v, n, us, h1, h2⟩ := h; exact ⟨v, n, us, hi.trans h1, h2⟩
  | mat e e' m => obtain ⟨v, us, h1, h2⟩ := h; exact ⟨v, us, hi.trans h1, h2⟩
  | mp m => obtain ⟨v, us, h1, h2⟩ := h; exact ⟨v, us, hi.trans h1, h2⟩
  | bld T e cs => obtain ⟨b, v, h1, h2⟩ := h; exact ⟨b, v, hi.trans h1, h2⟩
  | gone => trivial
/-- A slice of slices, each told by its value and what its cells hold. -/
theorem sat_mat {ρ : Ids} {w : World} {M : Nat → Prop} {id : Nat} {e e' : TypeId} {m : List (Value × List Value)} {v : Value} (hρ : ρ[id]? = some (v :: m.map Prod.fst)) (ho : w.ownsRow 0 e 1 v m.length (m.map Prod.fst))
    (hr : ∀ (i : Nat) (r : Value × List Value), m[i]? = some r → w.ownsRow 0 e' 1 r.1 r.2.length r.2)
    (hd : ∀ (i j : Nat) u u' b, (v :: m.map Prod.fst)[i]? = some u → (v :: m.map Prod.fst)[j]? = some u' → ablk u = some b → ablk u' = some b → i = j) : SatO ρ w M id (.mat e e' m) :=
  ⟨v, m.map Prod.fst, hρ, by rw [List.length_map]; exact ho, List.length_map .., fun i r h => ⟨by rw [List.getElem?_map, h]; rfl, hr i r h⟩, hd⟩
theorem mat_inv {ρ : Ids} {w : World} {M : Nat → Prop} {id : Nat} {e e' : TypeId} {m : List (Value × List Value)} (h : SatO ρ w M id (.mat e e' m)) : ∃ v, ρ[id]? = some (v :: m.map Prod.fst) ∧ w.ownsRow 0 e 1 v m.length (m.map Prod.fst) ∧
    (∀ (i : Nat) (r : Value × List Value), m[i]? = some r → w.ownsRow 0 e' 1 r.1 r.2.length r.2) ∧ ∀ (i j : Nat) u u' b, (v :: m.map Prod.fst)[i]? = some u → (v :: m.map Prod.fst)[j]? = some u' → ablk u = some b → ablk u' = some b → i = j := by
  obtain ⟨v, us, h1, h2, h3, h4, h5⟩ := h
  have e : us = m.map Prod.fst := by
    apply List.ext_getElem?
    intro i
    rw [List.getElem?_map]
    by_cases hi : i < m.length
    · rw [(h4 i _ (List.getElem?_eq_getElem hi)).1, List.getElem?_eq_getElem hi]; rfl
    · rw [List.getElem?_eq_none (by omega), List.getElem?_eq_none (by omega)]; rfl
  subst e
  rw [List.length_map] at h2
  exact ⟨v, h1, h2, fun i r h => (h4 i r h).2, h5⟩
end
section
variable {P : Program} {k : Nat} {cx : Cx k} {ops : Array Oper} {Q : Exit → St → Prop} {st : St} {rest : List Oper} {ty : TypeId} {pos : String} {af : Array Edge}
/-- make([][]T, n). -/
theorem l_makeM [Zs] {d : Tmp} {T e e' : TypeId} {x y : Operand} {n : Nat} (hx : st.ev x = .val (.int .i64 (n : Int))) (hy : st.ev y = .val (.int .i64 (n : Int))) (ht : SlT P T e 1) (hm : MkT P e (.slice none 0 0) 1 24) (hn : n ≤ 10000000000) (hd : Nat.blt d st.n = true)
    (hk : aL P cx ops Q rest ((st.add (.mat e e' (List.replicate n (.slice none 0 0, [])))).put d (.own st.objs.length))) : aL P cx ops Q (⟨some d, .makeSlice T x y, ty, pos, af, none⟩ :: rest) st := by
  refine l_step (st2 := st.add (.mat e e' (List.replicate n (.slice none 0 0, [])))) hd rfl ?_ rfl hk
  intro ρ w a hb
  obtain ⟨i, hi, hz1, hsz1, hby1⟩ := hm.info
  have hrun := run_make (P := P) w T e i (.slice none 0 0) ht.1 hi hz1 .i64 .i64 (n : Int) (n : Int) (by omega) (Int.le_refl _) (by rw [hby1]; omega) (by omega)
  simp only [Int.toNat_natCast] at hrun
  rw [hsz1] at hrun
  have hl := madeCells_list (.slice none 0 0) (.slice none 0 0) 1 n rfl (by decide)
  generalize hw : w.alloc (.cells (madeCells (Value.slice none 0 0).cells (n * 1)) e) = w' at *
  have hbel : Below w.heap.size w w' := hw ▸ (Below.refl _ _).alloc (Nat.le_refl _) _
  have hmap : (List.replicate n ((Value.slice none 0 0, []) : Value × List Value)).map Prod.fst = List.replicate n (Value.slice none 0 0) := by rw [List.map_replicate]
  have hlast : ∀ id b, st.objs.length ≤ id → foot (ρ ++ [.slice (some ⟨w.heap.size, 0, none⟩) n n :: List.replicate n (.slice none 0 0)]) (st.objs ++ [.mat e e' (List.replicate n (.slice none 0 0, []))]) id b → id = st.objs.length ∧ b = w.heap.size := by
    rintro id b h ⟨o', l, h1, _, h3, u, h4, h5⟩
    have hlt := (List.getElem?_eq_some_iff.1 h1).1
    simp at hlt
    obtain rfl : id = st.objs.length := by omega
    rw [List.getElem?_append_right (by rw [hb.good.len]; exact Nat.le_refl _), hb.good.len, Nat.sub_self] at h3
    obtain rfl := Option.some.inj h3
    rcases List.mem_cons.1 h4 with rfl | h4
    · cases h5; exact ⟨rfl, rfl⟩
    · rw [List.eq_of_mem_replicate h4] at h5; cases h5
  have hnew : (ρ ++ [.slice (some ⟨w.heap.size, 0, none⟩) n n :: List.replicate n (.slice none 0 0)])[st.objs.length]? = some (.slice (some ⟨w.heap.size, 0, none⟩) n n :: List.replicate n (.slice none 0 0)) := new_id hb.good.len _
  have happ := hb.good.app (ls := [.slice (some ⟨w.heap.size, 0, none⟩) n n :: List.replicate n (.slice none 0 0)]) (os := [.mat e e' (List.replicate n (.slice none 0 0, []))]) (w' := w') (Same.of_below hbel _) (fun b ⟨id, h⟩ => hbel.block b (foot_lt hb.good h)) rfl
    (fun id b h1 h2 => by rw [(hlast id b h1 h2).2]; exact Nat.le_refl _) (fun i j b h1 h2 h3 h4 => (hlast i b h1 h3).1.trans (hlast j b h2 h4).1.symm) (fun i o' h => by
      cases i with
      | succ i => simp at h
      | zero =>
        simp at h
        subst h
        refine sat_mat (v := .slice (some ⟨w.heap.size, 0, none⟩) n n) (by rw [hmap]; exact hnew) ?_ ?_ ?_
        · rw [hmap, List.length_replicate, ← hw]
          exact ownsRow_new _ e 1 n n _ (by simp) (by rw [size_madeCells]) (Nat.le_refl _) (by unfold maxLen; omega) (by rw [hl]; simp)
        · intro j r hj
          rw [List.getElem?_replicate] at hj
          split at hj
          · obtain rfl := Option.some.inj hj
            exact ⟨rfl, .inl ⟨rfl, rfl⟩⟩
          · cases hj
        · intro i j u u' b h1 h2 h3 h4
          rw [hmap] at h1 h2
          have key : ∀ {i : Nat} {u : Value}, (Value.slice (some ⟨w.heap.size, 0, none⟩) n n :: List.replicate n (Value.slice none 0 0))[i]? = some u → ablk u = some b → i = 0 := by
            intro i u h h'
            cases i with
            | zero => rfl
            | succ i =>
              rw [List.getElem?_cons_succ, List.getElem?_replicate] at h
              split at h
              · obtain rfl := Option.some.inj h; cases h'
              · cases h
          rw [key h1 h3, key h2 h4])
  refine ⟨.slice (some ⟨w.heap.size, 0, none⟩) n n, w', _, ?_, Same.of_below hbel _, ext_app ρ _, happ.2, happ.1, .own _ _ _ hnew rfl⟩
  simp only [execOp, hb.evv hx, hb.evv hy, Sem.run_bind, hrun, Result.andThen_ok, Sem.run_pure]
/-- A slice, stored into a slice of slices: it becomes a part of that. -/
theorem l_stM [Zs] {T : TypeId} {x y : Operand} {id kk i : Nat} {e e' : TypeId} {m : List (Value × List Value)} {r : List Value} (hx : st.ev x = .ept id i) (ho : st.objs[id]? = some (.mat e e' m)) (hi : i < m.length) (hy : st.ev y = .own kk)
    (hok : st.objs[kk]? = some (.row e' 1 (r.map .val))) (hne : kk ≠ id) (hk0 : k ≤ id) (ht : SzOf P T 1)
    (hk : ∀ u, (r ≠ [] → ∃ g cap, u = .slice (some ⟨g, 0, none⟩) r.length cap) → aL P cx ops Q rest ((st.set kk .gone).set id (.mat e e' (m.set i (u, r))))) :
    aL P cx ops Q (⟨none, .store T x y, ty, pos, af, none⟩ :: rest) st := by
  intro a w hr
  obtain ⟨ρ, hb, hf, h0⟩ := hr.base
  obtain ⟨v, h1, how, hrows, hdis⟩ := mat_inv (hb.good.sat id _ ho)
  obtain ⟨v2, n2, us2, g1, g2, g3, g4⟩ := hb.good.sat kk _ hok
  have hid := (List.getElem?_eq_some_iff.1 ho).1
  have hkk := (List.getElem?_eq_some_iff.1 hok).1
  have hus2 : us2 = r := by
    rw [List.length_map] at g3
    apply List.ext_getElem?
    intro j
    by_cases hj : j < r.length
    · obtain ⟨u, hu, hrd⟩ := g4 j (.val r[j]) (by rw [List.getElem?_map, List.getElem?_eq_getElem hj]; rfl)
      cases hrd
      rw [hu, List.getElem?_eq_getElem hj]
    · rw [List.getElem?_eq_none (by omega), List.getElem?_eq_none (by omega)]
  subst hus2
  have hn2 : n2 = us2.length := by have := g2.1; omega
  subst hn2
  have hgy := hb.ev y
  rw [hy] at hgy
  obtain ⟨l2, hl2⟩ := hgy.own_inv
  rw [g1] at hl2
  obtain ⟨hv2, _⟩ := List.cons.inj (Option.some.inj hl2)
  have hone : (a.eval y).oneCell' = true := by rw [← hv2]; cases hgy with | own _ _ _ _ h => exact hv2 ▸ h
  have hg := hb.ev x
  rw [hx] at hg
  obtain ⟨b, n, cap, l, he, hl⟩ := hg.ept_inv
  rw [h1] at hl
  obtain ⟨rfl, rfl⟩ := List.cons.inj (Option.some.inj hl)
  rcases how.2 with ⟨hv, _⟩ | ⟨b', cap', cur, hv, _, hh, hnc, hcm, hcsz, htake⟩
  · cases hv
  cases hv
  have hlen : (m.map Prod.fst).length = m.length := List.length_map ..
  have hocur : i < cur.size := by
    have : (m.map Prod.fst).length ≤ cur.size := by rw [← htake, List.length_take]; simp; omega
    omega
  have hrun := run_storeCells_at P b i e [a.eval y] 0 cur w hh (by simp; omega) (by simpa using hone)
  have hsm : Same (fun x => x = b) w (w.setRow b (cur.toList.take (i + 0) ++ [a.eval y] ++ cur.toList.drop (i + 0 + [a.eval y].length)).toArray) :=
    ⟨rfl, rfl, rfl, by simp, fun k _ hn => setRow_other w b k _ hn⟩
  have hheap := setRow_heap w b cur (cur.toList.take (i + 0) ++ [a.eval y] ++ cur.toList.drop (i + 0 + [a.eval y].length)).toArray e (0, 0) hh
  have hset : cur.toList.take (i + 0) ++ [a.eval y] ++ cur.toList.drop (i + 0 + [a.eval y].length) = cur.toList.set i (a.eval y) := by
    rw [List.set_eq_take_append_cons_drop, if_pos (by simpa using hocur)]
    simp
  rw [hset] at hsm hheap hrun
  rw [← hv2] at hsm hheap hrun
  generalize hw : w.setRow b (cur.toList.set i v2).toArray = w' at *
  have hub : us2 ≠ [] → ∃ g cap, v2 = .slice (some ⟨g, 0, none⟩) us2.length cap := fun hne => by
    rcases g2.2 with ⟨_, h2⟩ | ⟨g, cp, cu, h2, _⟩
    · exact absurd (List.eq_nil_of_length_eq_zero h2) hne
    · exact ⟨g, cp, h2⟩
  have hfid : ∀ {u b'}, u ∈ (Value.slice (some ⟨b, 0, none⟩) m.length cap :: m.map Prod.fst) → ablk u = some b' → foot ρ st.objs id b' := fun h h' => ⟨_, _, ho, rfl, h1, _, h, h'⟩
  have hfk : ∀ {b'}, ablk v2 = some b' → foot ρ st.objs kk b' := fun h' => ⟨_, _, hok, rfl, g1, _, List.mem_singleton.2 rfl, h'⟩
  have hfb : foot ρ st.objs id b := hfid (List.mem_cons_self ..) rfl
  generalize hρ' : ρ.set id (.slice (some ⟨b, 0, none⟩) m.length cap :: (m.set i (v2, us2)).map Prod.fst) = ρ'
  have hmap : (m.set i (v2, us2)).map Prod.fst = (m.map Prod.fst).set i v2 := by rw [List.map_set]
  have hidρ : id < ρ.length := by rw [hb.good.len]; exact hid
  have hρid : ρ'[id]? = some (.slice (some ⟨b, 0, none⟩) m.length cap :: (m.set i (v2, us2)).map Prod.fst) := by rw [← hρ', List.getElem?_set_self hidρ]
  have hρne : ∀ j, j ≠ id → ρ'[j]? = ρ[j]? := fun j hj => by rw [← hρ', List.getElem?_set_ne (Ne.symm hj)]
  have hheads : ∀ (j : Nat) (v : Value) l, ρ[j]? = some (v :: l) → ∃ l', ρ'[j]? = some (v :: l') := fun j v l h => by
    by_cases hj : j = id
    · subst hj
      rw [h1] at h
      obtain ⟨rfl, _⟩ := List.cons.inj (Option.some.inj h)
      exact ⟨_, hρid⟩
    · exact ⟨l, (hρne j hj).trans h⟩
  generalize hobj : (st.objs.set kk .gone).set id (.mat e e' (m.set i (v2, us2))) = objs'
  have hoid : objs'[id]? = some (.mat e e' (m.set i (v2, us2))) := by rw [← hobj, List.getElem?_set_self (by simpa using hid)]
  have hokk : objs'[kk]? = some .gone := by rw [← hobj, List.getElem?_set_ne (Ne.symm hne), List.getElem?_set_self hkk]
  have hoth : ∀ j, j ≠ id → j ≠ kk → objs'[j]? = st.objs[j]? := fun j h1 h2 => by rw [← hobj, List.getElem?_set_ne (Ne.symm h1), List.getElem?_set_ne (Ne.symm h2)]
  have hmem : ∀ {u}, u ∈ (m.map Prod.fst).set i v2 → u = v2 ∨ u ∈ m.map Prod.fst := fun h => by
    rcases List.mem_or_eq_of_mem_set h with h | h
    · exact .inr h
    · exact .inl h
  have hfoot : ∀ {j b'}, foot ρ' objs' j b' → (j ≠ id ∧ j ≠ kk ∧ foot ρ st.objs j b') ∨ (j = id ∧ (foot ρ st.objs id b' ∨ foot ρ st.objs kk b')) := by
    rintro j b' ⟨o, l, q1, q2, q3, u, q4, q5⟩
    by_cases hj : j = id
    · subst hj
      rw [hρid] at q3
      obtain rfl := Option.some.inj q3
      refine .inr ⟨rfl, ?_⟩
      rcases List.mem_cons.1 q4 with rfl | q4
      · exact .inl (hfid (List.mem_cons_self ..) q5)
      · rw [hmap] at q4
        rcases hmem q4 with rfl | q4
        · exact .inr (hfk q5)
        · exact .inl (hfid (List.mem_cons_of_mem _ q4) q5)
    · by_cases hj2 : j = kk
      · subst hj2
        rw [hokk] at q1
        obtain rfl := Option.some.inj q1
        cases q2
      · rw [hoth j hj hj2] at q1
        rw [hρne j hj] at q3
        exact .inl ⟨hj, hj2, o, l, q1, q2, q3, u, q4, q5⟩
  have hM : ∀ b', Own ρ' objs' b' → Own ρ st.objs b' := by
    rintro b' ⟨j, h⟩
    rcases hfoot h with ⟨_, _, h⟩ | ⟨_, h | h⟩
    · exact ⟨j, h⟩
    · exact ⟨id, h⟩
    · exact ⟨kk, h⟩
  have hsmO : Same (Own ρ st.objs) w w' := ⟨hsm.os, hsm.tape, hsm.output, hsm.size, fun k hk hn => hsm.block k hk (fun e => hn (e ▸ ⟨id, hfb⟩))⟩
  have hidk : ∀ {b'}, foot ρ st.objs id b' → foot ρ st.objs kk b' → False := fun h h' => hne (hb.good.dis _ _ _ h' h)
  have hsat : SatO ρ' w' (Ban ρ' objs') id (.mat e e' (m.set i (v2, us2))) := by
    refine sat_mat hρid ?_ ?_ ?_
    · rw [hmap, List.length_set]
      refine ⟨by rw [List.length_set]; exact how.1, .inr ⟨b, cap, _, rfl, Nat.zero_le _, hheap, hnc, hcm, by simpa using hcsz, ?_⟩⟩
      simp only [List.take_set, htake]
    · intro j q hj
      by_cases hji : j = i
      · subst hji
        rw [List.getElem?_set_self hi] at hj
        obtain rfl := Option.some.inj hj
        exact ownsRow_same hsm (fun b' hb' e => hidk (e ▸ hfb) (hfk hb')) g2
      · rw [List.getElem?_set_ne (Ne.symm hji)] at hj
        refine ownsRow_same hsm (fun b' hb' e => ?_) (hrows j q hj)
        have := hdis 0 (j + 1) _ q.1 b rfl (by rw [List.getElem?_cons_succ, List.getElem?_map, hj]; rfl) rfl (e ▸ hb')
        cases this
    · intro p q u u' b' q1 q2 q3 q4
      rw [hmap] at q1 q2
      have key : ∀ {p u}, (Value.slice (some ⟨b, 0, none⟩) m.length cap :: (m.map Prod.fst).set i v2)[p]? = some u → ablk u = some b' → (p = i + 1 ∧ u = v2) ∨ (p ≠ i + 1 ∧ (Value.slice (some ⟨b, 0, none⟩) m.length cap :: m.map Prod.fst)[p]? = some u) := by
        intro p u h h'
        cases p with
        | zero => exact .inr ⟨by omega, h⟩
        | succ p =>
          rw [List.getElem?_cons_succ] at h
          by_cases hp : p = i
          · subst hp
            rw [List.getElem?_set_self (by omega)] at h
            exact .inl ⟨rfl, (Option.some.inj h).symm⟩
          · rw [List.getElem?_set_ne (Ne.symm hp)] at h
            exact .inr ⟨by omega, by rw [List.getElem?_cons_succ]; exact h⟩
      rcases key q1 q3 with ⟨rfl, rfl⟩ | ⟨n1, k1⟩ <;> rcases key q2 q4 with ⟨rfl, rfl⟩ | ⟨n3, k3⟩
      · rfl
      · exact (hidk (hfid (List.mem_of_getElem? k3) q4) (hfk q3)).elim
      · exact (hidk (hfid (List.mem_of_getElem? k1) q3) (hfk q4)).elim
      · exact hdis p q u u' b' k1 k3 q3 q4
  have hgood : Good ρ' w' objs' := by
    refine ⟨by rw [← hρ', ← hobj]; simp [hb.good.len], fun j o hj => ?_, fun p q b' hp hq => ?_, fun j b' h hz => ?_, fun b' hz => Nat.lt_of_lt_of_le (hb.good.zl b' hz) hsm.size, hb.good.tt.step hsmO fun b' _ h => hM b' h⟩
    · by_cases hj1 : j = id
      · subst hj1
        rw [hoid] at hj
        obtain rfl := Option.some.inj hj
        exact hsat
      · by_cases hj2 : j = kk
        · subst hj2
          rw [hokk] at hj
          obtain rfl := Option.some.inj hj
          trivial
        · rw [hoth j hj1 hj2] at hj
          refine SatO.heads ((hb.good.sat j o hj).chg hsmO.ban (Ban.mono fun b' _ h => hM b' h) fun hlv l u b' q1 q2 q3 q4 => hsm.block b' q4 fun e => ?_) (hρne j hj1) hheads
          exact hj1 (hb.good.dis j id b' ⟨o, l, hj, hlv, q1, u, q2, q3⟩ (e ▸ hfb))
    · rcases hfoot hp with ⟨p1, p2, p3⟩ | ⟨rfl, p3⟩ <;> rcases hfoot hq with ⟨q1, q2, q3⟩ | ⟨rfl, q3⟩
      · exact hb.good.dis p q b' p3 q3
      · rcases q3 with q3 | q3
        · exact absurd (hb.good.dis _ _ _ p3 q3) p1
        · exact absurd (hb.good.dis _ _ _ p3 q3) p2
      · rcases p3 with p3 | p3
        · exact absurd (hb.good.dis _ _ _ q3 p3) q1
        · exact absurd (hb.good.dis _ _ _ q3 p3) q2
      · rfl
    · obtain ⟨j2, h2⟩ := hM b' ⟨j, h⟩
      exact hb.good.zf j2 b' h2 hz
  unfold wpList
  rw [if_pos (by simp [Region.wanted])]
  left
  unfold Oper.wp
  have hex : (execOp a.eval ⟨none, .store T x y, ty, pos, af, none⟩).run P w = .ok .skip w' := by
    simp only [execOp, he, Instr.storeAt, Instr.sureAddr, storeVar, cells_one hone, Sem.run_bind, Sem.run_pure, Result.andThen_ok, ht.run]
    rw [← hv2]
    simp [hrun]
  rw [hex]
  refine hk v2 hub _ _ ⟨⟨ρ', ⟨fun t => ?_, hb.size, hb.defers, ?_⟩, fun j b' h hlt => ?_, fun j l h => ?_⟩, hr.same.trans hsmO fun x hx ⟨j, h⟩ => hf j x h hx⟩
  · have := ((hb.frame t).mono hsmO.ban (Ban.mono fun b' _ h => hM b' h) fun _ _ h => h).heads hheads
    show Gm ρ' w' (Ban ρ' ((st.objs.set kk .gone).set id (.mat e e' (m.set i (v2, us2))))) _ _
    rw [hobj]
    exact this
  · show Good ρ' w' ((st.objs.set kk .gone).set id (.mat e e' (m.set i (v2, us2))))
    rw [hobj]
    exact hgood
  · change foot ρ' ((st.objs.set kk .gone).set id (.mat e e' (m.set i (v2, us2)))) j b' at h
    rw [hobj] at h
    obtain ⟨j2, h2⟩ := hM b' ⟨j, h⟩
    exact hf j2 b' h2 hlt
  · have hjk : j < k := by rw [← cx.len]; exact (List.getElem?_eq_some_iff.1 h).1
    rw [hρne j (by omega)]
    exact h0 j l h
/-- A store into a slice that lies in a slice of slices. -/
theorem l_stI [Zs] {T : TypeId} {x y : Operand} {id i o g n cap : Nat} {e e' : TypeId} {m : List (Value × List Value)} {r : List Value} {v : Value} (hx : st.ev x = .val (.pointer (some ⟨g, o, none⟩))) (ho : st.objs[id]? = some (.mat e e' m))
    (hm : m[i]? = some (.slice (some ⟨g, 0, none⟩) n cap, r)) (hor : o < r.length) (hy : st.ev y = .val v) (h1v : v.oneCell' = true) (ht : SzOf P T 1)
    (hk : aL P cx ops Q rest (st.set id (.mat e e' (m.set i (.slice (some ⟨g, 0, none⟩) n cap, r.set o v))))) : aL P cx ops Q (⟨none, .store T x y, ty, pos, af, none⟩ :: rest) st := by
  refine l_skip (st2 := st.set id (.mat e e' (m.set i (.slice (some ⟨g, 0, none⟩) n cap, r.set o v)))) rfl ?_ rfl hk
  intro ρ w a hb
  have he := hb.evv hx
  have hey := hb.evv hy
  obtain ⟨vm, h1, how, hrows, hdis⟩ := mat_inv (hb.good.sat id _ ho)
  have hid := (List.getElem?_eq_some_iff.1 ho).1
  have hil := (List.getElem?_eq_some_iff.1 hm).1
  have hri := hrows i _ hm
  rcases hri.2 with ⟨hv, _⟩ | ⟨b', cap', cur, hv, _, hh, hnc, hcm, hcsz, htake⟩
  · cases hv
  simp only [Value.slice.injEq, Option.some.injEq, Addr.mk.injEq, and_true] at hv
  obtain ⟨rfl, rfl, rfl⟩ := hv
  dsimp only at hh hnc hcsz htake
  have hocur : o < cur.size := by
    have : r.length ≤ cur.size := by rw [← htake, List.length_take]; simp; omega
    omega
  have hrun := run_storeCells_at P g o e' [v] 0 cur w hh (by simp; omega) (by simpa using h1v)
  have hsm : Same (fun x => x = g) w (w.setRow g (cur.toList.take (o + 0) ++ [v] ++ cur.toList.drop (o + 0 + [v].length)).toArray) :=
    ⟨rfl, rfl, rfl, by simp, fun k _ hn => setRow_other w g k _ hn⟩
  have hheap := setRow_heap w g cur (cur.toList.take (o + 0) ++ [v] ++ cur.toList.drop (o + 0 + [v].length)).toArray e' (0, 0) hh
  have hset : cur.toList.take (o + 0) ++ [v] ++ cur.toList.drop (o + 0 + [v].length) = cur.toList.set o v := by
    rw [List.set_eq_take_append_cons_drop, if_pos (by simpa using hocur)]
    simp
  rw [hset] at hsm hheap hrun
  generalize hw : w.setRow g (cur.toList.set o v).toArray = w' at *
  have hmap : (m.set i (.slice (some ⟨g, 0, none⟩) r.length cap, r.set o v)).map Prod.fst = m.map Prod.fst := by
    rw [List.map_set]
    apply List.ext_getElem?
    intro j
    by_cases hj : j = i
    · subst hj
      rw [List.getElem?_set_self (by rw [List.length_map]; exact hil), List.getElem?_map, hm]; rfl
    · rw [List.getElem?_set_ne (Ne.symm hj)]
  have hgi : (vm :: m.map Prod.fst)[i + 1]? = some (.slice (some ⟨g, 0, none⟩) r.length cap) := by rw [List.getElem?_cons_succ, List.getElem?_map, hm]; rfl
  have hfg : foot ρ st.objs id g := ⟨_, _, ho, rfl, h1, _, List.mem_of_getElem? hgi, rfl⟩
  have hfoot : ∀ {j b'}, foot ρ (st.objs.set id (.mat e e' (m.set i (.slice (some ⟨g, 0, none⟩) r.length cap, r.set o v)))) j b' → foot ρ st.objs j b' := by
    intro j b' h
    rcases foot_set hid h with ⟨rfl, _, l, q1, q2⟩ | ⟨_, h⟩
    · exact ⟨_, l, ho, rfl, q1, q2⟩
    · exact h
  have hM : ∀ b', Own ρ (st.objs.set id (.mat e e' (m.set i (.slice (some ⟨g, 0, none⟩) r.length cap, r.set o v)))) b' → Own ρ st.objs b' := fun b' ⟨j, h⟩ => ⟨j, hfoot h⟩
  have hsmO : Same (Own ρ st.objs) w w' := ⟨hsm.os, hsm.tape, hsm.output, hsm.size, fun k hk hn => hsm.block k hk (fun e => hn (e ▸ ⟨id, hfg⟩))⟩
  refine ⟨w', ρ, ?_, hsmO, fun _ _ h => h, fun b' _ h => hM b' h, ⟨by simp [St.set, hb.good.len], fun j o' hj => ?_, fun p q b' hp hq => hb.good.dis p q b' (hfoot hp) (hfoot hq), fun j b' h => hb.good.zf j b' (hfoot h), fun b' hz => Nat.lt_of_lt_of_le (hb.good.zl b' hz) hsm.size, hb.good.tt.step hsmO fun b' _ h => hM b' h⟩⟩
  · simp only [execOp, he, hey, Instr.storeAt, Instr.sureAddr, storeVar, cells_one h1v, Sem.run_bind, Sem.run_pure, Result.andThen_ok, ht.run]
    simp [hrun]
  · change (st.objs.set id _)[j]? = some o' at hj
    by_cases hj1 : j = id
    · subst hj1
      rw [List.getElem?_set_self hid] at hj
      obtain rfl := Option.some.inj hj
      refine sat_mat (by rw [hmap]; exact h1) ?_ ?_ (by rw [hmap]; exact hdis)
      · rw [hmap, List.length_set]
        refine ownsRow_same hsm (fun b' hb' e => ?_) how
        have := hdis 0 (i + 1) _ _ g rfl hgi (e ▸ hb') rfl
        cases this
      · intro p q hp
        by_cases hpi : p = i
        · subst hpi
          rw [List.getElem?_set_self hil] at hp
          obtain rfl := Option.some.inj hp
          refine ⟨by simp, .inr ⟨g, cap, _, by simp, Nat.zero_le _, hheap, by simpa using hnc, hcm, by simpa using hcsz, ?_⟩⟩
          simp only [List.length_set, List.take_set, htake]
        · rw [List.getElem?_set_ne (Ne.symm hpi)] at hp
          refine ownsRow_same hsm (fun b' hb' e => ?_) (hrows p q hp)
          have := hdis (i + 1) (p + 1) _ q.1 g hgi (by rw [List.getElem?_cons_succ, List.getElem?_map, hp]; rfl) rfl (e ▸ hb')
          omega
    · rw [List.getElem?_set_ne (Ne.symm hj1)] at hj
      refine (hb.good.sat j o' hj).chg hsmO.ban (Ban.mono fun b' _ h => hM b' h) fun hlv l u b' q1 q2 q3 q4 => hsm.block b' q4 fun e => ?_
      exact hj1 (hb.good.dis j id b' ⟨o', l, hj, hlv, q1, u, q2, q3⟩ (e ▸ hfg))
end
section
variable {P : Program} {st : St} {d : Option Tmp} {ty : TypeId} {pos : String} {af : Array Edge} {g : Option (Nat × Bool)}
theorem Q_ix_mat {x ix : Operand} {T e e0 e' : TypeId} {id i : Nat} {m : List (Value × List Value)} {z : Int} (hx : st.ev x = .own id) (ho : st.objs[id]? = some (.mat e0 e' m)) (hi : st.ev ix = .val (.int .i64 z)) (hz : z = (i : Int)) (ht : SlT P T e 1) (h : i < m.length) :
    QOp P ⟨d, .indexAddr T x ix, ty, pos, af, g⟩ st (.ept id i) :=
  .run fun ρ w a hr => by
    have hg := hr.ev x
    rw [hx] at hg
    obtain ⟨v, h1, how, _, _⟩ := mat_inv (hr.good.sat id _ ho)
    obtain ⟨l, hl⟩ := hg.own_inv
    rw [h1] at hl
    obtain ⟨hv, _⟩ := List.cons.inj (Option.some.inj hl)
    rcases how.2 with ⟨_, h2⟩ | ⟨b, cap, cur, hb, _, _, _, _, _⟩
    · omega
    · subst hz
      refine ⟨.pointer (some ⟨b, i, none⟩), .ept id _ b m.length cap _ (by rw [h1, hb]), fun w1 _ => ?_⟩
      have := run_indexAt_slice (P := P) ht ⟨b, 0, none⟩ m.length cap .i64 (i : Int) (by omega) (by omega) w1
      rw [spot_add rfl] at this
      simp only [execOp, ← hv, hb, hr.evv hi, Sem.run_bind, this, Result.andThen_ok, Sem.run_pure]
      simp
theorem Q_ld_mat {x : Operand} {T e0 e' : TypeId} {id i : Nat} {m : List (Value × List Value)} {q : Value × List Value} (hx : st.ev x = .ept id i) (ho : st.objs[id]? = some (.mat e0 e' m)) (hm : m[i]? = some q) (ht : ScT P T) :
    QOp P ⟨d, .load T x, ty, pos, af, g⟩ st (.val q.1) :=
  .run fun ρ w a hr => by
    have hg := hr.ev x
    rw [hx] at hg
    obtain ⟨b, n, cap, l, he, hl⟩ := hg.ept_inv
    obtain ⟨v, h1, how, _, _⟩ := mat_inv (hr.good.sat id _ ho)
    rw [h1] at hl
    obtain ⟨hv, _⟩ := List.cons.inj (Option.some.inj hl)
    have hmf : (m.map Prod.fst)[i]? = some q.1 := by rw [List.getElem?_map, hm]; rfl
    have hc := how.cells (g := b) (by rw [hv]; rfl) i q.1 hmf
    rw [spot_add rfl] at hc
    have hh : b < w.heap.size := by
      rcases how.2 with ⟨h2, _⟩ | ⟨b2, cap2, cur, hb, _, hh, _⟩
      · rw [hv] at h2; cases h2
      · rw [hv] at hb; cases hb; exact (Array.getElem?_eq_some_iff.1 hh).1
    refine ⟨q.1, .val _, fun w1 hw => ?_⟩
    have : w1.cell? ⟨b, i, none⟩ = some q.1 := by rw [hw.cell (p := ⟨b, i, none⟩) hh]; simpa using hc
    simp [execOp, he, Instr.loadAt, Instr.sureAddr, run_loadSc ht _ this]
theorem Q_ix_slv {x ix : Operand} {T e : TypeId} {b n cap i : Nat} {z : Int} (hx : st.ev x = .val (.slice (some ⟨b, 0, none⟩) n cap)) (hi : st.ev ix = .val (.int .i64 z)) (hz : z = (i : Int)) (ht : SlT P T e 1) (h : i < n) :
    QOp P ⟨d, .indexAddr T x ix, ty, pos, af, g⟩ st (.val (.pointer (some ⟨b, i, none⟩))) :=
  .run fun ρ w a hr => by
    subst hz
    refine ⟨.pointer (some ⟨b, i, none⟩), .val _, fun w1 _ => ?_⟩
    have := run_indexAt_slice (P := P) ht ⟨b, 0, none⟩ n cap .i64 (i : Int) (by omega) (by omega) w1
    rw [spot_add rfl] at this
    simp only [execOp, hr.evv hx, hr.evv hi, Sem.run_bind, this, Result.andThen_ok, Sem.run_pure]
    simp
theorem Q_ld_in {x : Operand} {T e0 e' : TypeId} {id i o b n cap : Nat} {m : List (Value × List Value)} {r : List Value} {v : Value} (hx : st.ev x = .val (.pointer (some ⟨b, o, none⟩))) (ho : st.objs[id]? = some (.mat e0 e' m)) (hm : m[i]? = some (.slice (some ⟨b, 0, none⟩) n cap, r)) (hv : r[o]? = some v) (ht : ScT P T) :
    QOp P ⟨d, .load T x, ty, pos, af, g⟩ st (.val v) :=
  .run fun ρ w a hr => by
    obtain ⟨vm, h1, how, hrows, _⟩ := mat_inv (hr.good.sat id _ ho)
    have hri := hrows i _ hm
    have hc := hri.cells (g := b) rfl o v hv
    rw [spot_add rfl] at hc
    have hh : b < w.heap.size := by
      rcases hri.2 with ⟨h2, _⟩ | ⟨b2, cap2, cur, hb, _, hh, _⟩
      · cases h2
      · simp only [Value.slice.injEq, Option.some.injEq, Addr.mk.injEq, and_true] at hb
        rw [hb.1]
        exact (Array.getElem?_eq_some_iff.1 hh).1
    refine ⟨v, .val _, fun w1 hw => ?_⟩
    have : w1.cell? ⟨b, o, none⟩ = some v := by rw [hw.cell (p := ⟨b, o, none⟩) hh]; simpa using hc
    simp [execOp, hr.evv hx, Instr.loadAt, Instr.sureAddr, run_loadSc ht _ this]
end
section
variable {P : Program} {k : Nat} {cx : Cx k} {ops : Array Oper} {Q : Exit → St → Prop} {st : St} {rest : List Oper}
/-- A slice of slices, wherever it stands, is only read from now on. -/
theorem rel_freezeM [Zs] {a : Act} {w : World} (id : Nat) {e e' : TypeId} {m : List (Value × List Value)} (ho : st.objs[id]? = some (.mat e e' m)) (hr : Rel cx st a w) :
    Rel cx ⟨st.n, frv id (.sl 1 (m.map fun r => .sl 1 (r.2.map .val))) st.vars, fro id (.sl 1 (m.map fun r => .sl 1 (r.2.map .val))) (st.objs.set id .gone)⟩ a w := by
  obtain ⟨ρ, hb, hf, h0⟩ := hr.base
  obtain ⟨hg, hM⟩ := hb.good.drop id
  have hid := (List.getElem?_eq_some_iff.1 ho).1
  have hfoot : ∀ {i b}, foot ρ (fro id (.sl 1 (m.map fun r => .sl 1 (r.2.map .val))) (st.objs.set id .gone)) i b → foot ρ (st.objs.set id .gone) i b := by
    rintro i b ⟨o, l, h1, h2, h3, h4⟩
    rw [fro_get] at h1
    obtain ⟨o0, h5, rfl⟩ := Option.map_eq_some_iff.1 h1
    refine ⟨o0, l, h5, ?_, h3, h4⟩
    cases o0 <;> first | rfl | cases h2
  have hban : ∀ b, Ban ρ (fro id (.sl 1 (m.map fun r => .sl 1 (r.2.map .val))) (st.objs.set id .gone)) b → Ban ρ st.objs b := by
    rintro b (⟨i, h⟩ | h)
    · exact .inl (hM b ⟨i, hfoot h⟩)
    · exact .inr h
  have hrd : ∀ v l, ρ[id]? = some (v :: l) → Rd w (Ban ρ (fro id (.sl 1 (m.map fun r => .sl 1 (r.2.map .val))) (st.objs.set id .gone))) v (.sl 1 (m.map fun r => .sl 1 (r.2.map .val))) := by
    intro v' l hl
    obtain ⟨v, h1, how, hrows, hdis⟩ := mat_inv (hb.good.sat id _ ho)
    rw [h1] at hl
    obtain ⟨hv, _⟩ := List.cons.inj (Option.some.inj hl)
    rw [← hv]
    have hno : ∀ u b, u ∈ (v :: m.map Prod.fst) → ablk u = some b → ¬ Ban ρ (fro id (.sl 1 (m.map fun r => .sl 1 (r.2.map .val))) (st.objs.set id .gone)) b := by
      rintro u b hu hb' (⟨id', hft⟩ | hz)
      · rcases foot_set hid (hfoot hft) with ⟨_, hlive, _⟩ | ⟨hne, hft'⟩
        · cases hlive
        · exact hne (hb.good.dis _ _ _ hft' ⟨_, _, ho, rfl, h1, u, hu, hb'⟩)
      · exact hb.good.zf _ _ ⟨_, _, ho, rfl, h1, u, hu, hb'⟩ hz
    refine row_rd how (by simp) (fun b hb' => hno v b (List.mem_cons_self ..) hb') fun i d hd => ?_
    simp only [List.getElem?_map, Option.map_eq_some_iff] at hd
    obtain ⟨r, hr, rfl⟩ := hd
    have hmf : (m.map Prod.fst)[i]? = some r.1 := by rw [List.getElem?_map, hr]; rfl
    refine ⟨r.1, hmf, row_rd (hrows i r hr) (by simp) (fun b hb' => hno r.1 b (List.mem_cons_of_mem _ (List.mem_of_getElem? hmf)) hb') fun k d hd => ?_⟩
    simp only [List.getElem?_map, Option.map_eq_some_iff] at hd
    obtain ⟨x, hx, rfl⟩ := hd
    exact ⟨x, hx, .val x⟩
  have hgm : ∀ {av v}, Gm ρ w (Ban ρ st.objs) av v → Gm ρ w (Ban ρ (fro id (.sl 1 (m.map fun r => .sl 1 (r.2.map .val))) (st.objs.set id .gone))) (av.fr id (.sl 1 (m.map fun r => .sl 1 (r.2.map .val)))) v := fun h => fr_gm hban hrd h
  refine Rel.step hr hf h0 (Same.refl _ _) (fun _ _ h => h) (fun b _ ⟨i, h⟩ => hM b ⟨i, hfoot h⟩) (ρ' := ρ) ⟨fun t' => ?_, hb.size, hb.defers, ?_⟩
  · show Gm ρ w _ (getv (frv id (.sl 1 (m.map fun r => .sl 1 (r.2.map .val))) st.vars) t') _
    rw [getv_frv]
    exact hgm (hb.frame t')
  · refine ⟨by rw [fro_len]; exact hg.len, fun i o hi => ?_, fun i j b h1 h2 => hg.dis i j b (hfoot h1) (hfoot h2), fun i b h => hg.zf i b (hfoot h), hg.zl, hg.tt.step (Same.refl _ _) fun b _ ⟨i, h⟩ => ⟨i, hfoot h⟩⟩
    show SatO ρ w (Ban ρ (fro id (.sl 1 (m.map fun r => .sl 1 (r.2.map .val))) (st.objs.set id .gone))) i o
    change (fro id (.sl 1 (m.map fun r => .sl 1 (r.2.map .val))) (st.objs.set id .gone))[i]? = some o at hi
    rw [fro_get] at hi
    obtain ⟨o0, h5, rfl⟩ := Option.map_eq_some_iff.1 hi
    by_cases he : i = id
    · subst he
      rw [List.getElem?_set_self hid] at h5
      obtain rfl := Option.some.inj h5
      trivial
    · rw [List.getElem?_set_ne (Ne.symm he)] at h5
      have hs := hb.good.sat i o0 h5
      cases o0 with
      | gone => trivial
      | mat e1 e2 m1 => exact hs
      | mp m => exact hs
      | bld T e cs => exact hs
      | row e sz cs =>
        obtain ⟨v, n, us, a1, a2, a3, a4⟩ := hs
        refine ⟨v, n, us, a1, a2, a3, fun i dt hi => ?_⟩
        obtain ⟨u, hu, hr⟩ := a4 i dt hi
        exact ⟨u, hu, hr.mono (Same.refl _ _) (fun b _ h => hban b h)⟩
      | box l =>
        obtain ⟨b, arr, T, a1, a2, a3, a4⟩ := hs
        refine ⟨b, arr, T, a1, a2, by rw [frl_len]; exact a3, fun i av hi => ?_⟩
        rw [frl_get] at hi
        obtain ⟨av0, h11, rfl⟩ := Option.map_eq_some_iff.1 hi
        obtain ⟨v, hv, hgv⟩ := a4 i av0 h11
        exact ⟨v, hv, hgm hgv⟩
theorem w_freezeM [Zs] {n : Nat} {vars vars' : List (Nat × AV)} {objs objs' : List AO} (id : Nat) {e e' : TypeId} {m : List (Value × List Value)} (ho : objs[id]? = some (.mat e e' m)) (hs : fro id (.sl 1 (m.map fun r => .sl 1 (r.2.map .val))) (objs.set id .gone) = objs') (hv : frv id (.sl 1 (m.map fun r => .sl 1 (r.2.map .val))) vars = vars') (hk : aL P cx ops Q rest ⟨n, vars', objs'⟩) : aL P cx ops Q rest ⟨n, vars, objs⟩ := by
  subst hs; subst hv
  exact fun a w hr => hk a w (rel_freezeM id ho hr)
end
end Go.Proofs.YtpfldhaaiglgdaaDoor
