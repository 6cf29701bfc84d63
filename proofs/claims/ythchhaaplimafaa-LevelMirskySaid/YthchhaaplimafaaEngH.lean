/- Stores into an own row; stores of structs; literals of structs; function values; calls. -/
import Derived.Test.YthchhaaplimafaaEngG
set_option linter.unusedSimpArgs false
set_option linter.unusedVariables false
namespace Go.Proofs.Ythchhaaplimafaa
open Go.RowKit
section
variable {P : Program} {k : Nat} {cx : Cx k} {ops : Array Oper} {Q : Exit → St → Prop} {st : St} {rest : List Oper} {ty : TypeId} {pos : String} {af : Array Edge}

/-- A nil slice in a slot is an own row without elements. -/
theorem rel_nilown [Zs] {a : Act} {w : World} (t : Nat) (e : TypeId) (sz : Nat) (h : st.get t = .val (.slice none 0 0)) (hr : Rel cx st a w) : Rel cx ((st.add (.row e sz [])).put t (.own st.objs.length)) a w := by
  obtain ⟨ρ, hb, hf, h0⟩ := hr.base
  have happ := app_one hb.good (o := .row e sz []) (v := .slice none 0 0) (Below.refl _ _) (fun b hb' => by cases hb') fun hnew _ => sat_row hnew (World.ownsRow_nil w 0 e sz) rfl (fun i dt hi => by simp at hi)
  refine Rel.step hr hf h0 happ.1 happ.2.1 happ.2.2.1 ⟨fun t' => ?_, hb.size, hb.defers, happ.2.2.2⟩
  show Gm _ _ _ (getv ((t, .own st.objs.length) :: st.vars) t') _
  rw [getv_cons]
  by_cases ht : t = t'
  · subst ht
    rw [if_pos rfl]
    have := hb.frame t
    rw [h] at this
    rw [this.val_inv]
    exact .own _ _ [] (new_id hb.good.len _) rfl
  · rw [if_neg ht]
    exact (hb.frame t').ext happ.1 happ.2.1 happ.2.2.1
theorem l_nilown [Zs] (t : Nat) (e : TypeId) (sz : Nat) (h : st.get t = .val (.slice none 0 0)) (hk : aL P cx ops Q rest ((st.add (.row e sz [])).put t (.own st.objs.length))) : aL P cx ops Q rest st :=
  fun a w hr => hk a w (rel_nilown t e sz h hr)
theorem a_nilown [Zs] {c : Code} (t : Nat) (e : TypeId) (sz : Nat) (h : st.get t = .val (.slice none 0 0)) (hk : aC P cx c Q ((st.add (.row e sz [])).put t (.own st.objs.length))) : aC P cx c Q st :=
  fun a w hr => hk a w (rel_nilown t e sz h hr)

/-- The same for a nil slice in a cell of a box. -/
theorem rel_nilbox [Zs] {a : Act} {w : World} (id o : Nat) (cells : List AV) (e : TypeId) (sz : Nat) (ho : st.objs[id]? = some (.box cells)) (hc : cells[o]? = some (.val (.slice none 0 0))) (hr : Rel cx st a w) :
    Rel cx ((st.add (.row e sz [])).set id (.box (cells.set o (.own st.objs.length)))) a w := by
  obtain ⟨ρ, hb, hf, h0⟩ := hr.base
  have happ := app_one hb.good (o := .row e sz []) (v := .slice none 0 0) (Below.refl _ _) (fun b hb' => by cases hb') fun hnew _ => sat_row hnew (World.ownsRow_nil w 0 e sz) rfl (fun i dt hi => by simp at hi)
  have hid := (List.getElem?_eq_some_iff.1 ho).1
  have ho2 : (st.objs ++ [AO.row e sz []])[id]? = some (.box cells) := by rw [List.getElem?_append_left hid]; exact ho
  obtain ⟨b, arr, T, h1, h2, h3, h4⟩ := happ.2.2.2.sat id _ ho2
  have hoc := (List.getElem?_eq_some_iff.1 hc).1
  have hfoot : ∀ {i x}, foot (ρ ++ [[.slice none 0 0]]) ((st.objs ++ [AO.row e sz []]).set id (.box (cells.set o (.own st.objs.length)))) i x → foot (ρ ++ [[.slice none 0 0]]) (st.objs ++ [AO.row e sz []]) i x := by
    intro i x h
    rcases foot_set (by simp; omega) h with ⟨rfl, _, l, h5, h6⟩ | ⟨_, h⟩
    · exact ⟨_, l, ho2, rfl, h5, h6⟩
    · exact h
  have hM2 : ∀ b, Own (ρ ++ [[.slice none 0 0]]) ((st.objs ++ [AO.row e sz []]).set id (.box (cells.set o (.own st.objs.length)))) b → Own (ρ ++ [[.slice none 0 0]]) (st.objs ++ [AO.row e sz []]) b := fun b ⟨i, h⟩ => ⟨i, hfoot h⟩
  have hgm : ∀ {av v}, Gm (ρ ++ [[.slice none 0 0]]) w (Ban (ρ ++ [[.slice none 0 0]]) (st.objs ++ [AO.row e sz []])) av v → Gm (ρ ++ [[.slice none 0 0]]) w (Ban (ρ ++ [[.slice none 0 0]]) ((st.objs ++ [AO.row e sz []]).set id (.box (cells.set o (.own st.objs.length))))) av v :=
    fun h => h.ext (Same.refl _ _) (fun _ _ h => h) (fun b _ h => hM2 b h)
  refine Rel.step hr hf h0 happ.1 happ.2.1 (fun b hlt h => happ.2.2.1 b hlt (hM2 b h)) ⟨fun t' => hgm ((hb.frame t').ext happ.1 happ.2.1 happ.2.2.1), hb.size, hb.defers, ⟨?_, ?_, fun i j x hi hj => happ.2.2.2.dis i j x (hfoot hi) (hfoot hj), fun i x h => happ.2.2.2.zf i x (hfoot h), happ.2.2.2.zl⟩⟩
  · simp [St.set, St.add, hb.good.len]
  · intro id' o' ho'
    change ((st.objs ++ [AO.row e sz []]).set id _)[id']? = some o' at ho'
    by_cases he : id' = id
    · subst he
      rw [List.getElem?_set_self (by simp; omega)] at ho'
      obtain rfl := Option.some.inj ho'
      refine ⟨b, arr, T, h1, h2, by simpa using h3, fun i av hi => ?_⟩
      by_cases hio : i = o
      · subst hio
        rw [List.getElem?_set_self hoc] at hi
        obtain rfl := Option.some.inj hi
        obtain ⟨v, hv, hg⟩ := h4 i _ hc
        refine ⟨v, hv, ?_⟩
        rw [hg.val_inv]
        exact .own _ _ [] (new_id hb.good.len _) rfl
      · rw [List.getElem?_set_ne (Ne.symm hio)] at hi
        obtain ⟨v, hv, hg⟩ := h4 i _ hi
        exact ⟨v, hv, hgm hg⟩
    · rw [List.getElem?_set_ne (Ne.symm he)] at ho'
      exact (happ.2.2.2.sat id' o' ho').keep (Same.refl _ _) (fun _ _ h => h) (fun b _ h => hM2 b h) (fun _ _ _ _ _ _ _ => rfl)
theorem l_nilbox [Zs] (id o : Nat) {cells : List AV} (e : TypeId) (sz : Nat) (ho : st.objs[id]? = some (.box cells)) (hc : cells[o]? = some (.val (.slice none 0 0)))
    (hk : aL P cx ops Q rest ((st.add (.row e sz [])).set id (.box (cells.set o (.own st.objs.length))))) : aL P cx ops Q rest st := fun a w hr => hk a w (rel_nilbox id o cells e sz ho hc hr)
theorem a_nilbox [Zs] {c : Code} (id o : Nat) {cells : List AV} (e : TypeId) (sz : Nat) (ho : st.objs[id]? = some (.box cells)) (hc : cells[o]? = some (.val (.slice none 0 0)))
    (hk : aC P cx c Q ((st.add (.row e sz [])).set id (.box (cells.set o (.own st.objs.length))))) : aC P cx c Q st := fun a w hr => hk a w (rel_nilbox id o cells e sz ho hc hr)

/-- A store of one cell into an own row. -/
theorem l_store_ept [Zs] {T : TypeId} {x y : Operand} {id o : Nat} {e : TypeId} {sz : Nat} {cs : List Dat} {dt : Dat} (hx : st.ev x = .ept id o) (ho : st.objs[id]? = some (.row e sz cs)) (hlt : o < cs.length) (hy : st.ev y = ofD dt) (h1 : dt.one = true) (ht : SzOf P T 1)
    (hk : aL P cx ops Q rest (st.set id (.row e sz (cs.set o dt)))) : aL P cx ops Q (⟨none, .store T x y, ty, pos, af, none⟩ :: rest) st := by
  refine l_skip (st2 := st.set id (.row e sz (cs.set o dt))) rfl ?_ rfl hk
  intro ρ w a hb
  have hg := hb.ev x
  rw [hx] at hg
  obtain ⟨b, n, cap, l, he, hl⟩ := hg.ept_inv
  obtain ⟨v, n', us, hρ, how, hlen, hcs⟩ := hb.good.sat id _ ho
  rw [hρ] at hl
  obtain ⟨rfl, rfl⟩ := List.cons.inj (Option.some.inj hl)
  have hgy := hb.ev y
  rw [hy] at hgy
  have hrd := gm_ofD_inv hgy
  have hone := hrd.one h1
  rcases how.2 with ⟨hv, _⟩ | ⟨b', cap', cur, hv, _, hh, hnc, hcm, hcsz, htake⟩
  · cases hv
  cases hv
  have hous : o < us.length := by omega
  have hocur : o < cur.size := by
    have : us.length ≤ cur.size := by rw [← htake, List.length_take]; simp; omega
    omega
  have hrun := run_storeCells_at P b o e [a.eval y] 0 cur w hh (by simp; omega) (by simpa using hone)
  have hsm : Same (fun x => x = b) w (w.setRow b (cur.toList.take (o + 0) ++ [a.eval y] ++ cur.toList.drop (o + 0 + [a.eval y].length)).toArray) :=
    ⟨rfl, rfl, rfl, by simp, fun k _ hn => setRow_other w b k _ hn⟩
  have hheap := setRow_heap w b cur (cur.toList.take (o + 0) ++ [a.eval y] ++ cur.toList.drop (o + 0 + [a.eval y].length)).toArray e (0, 0) hh
  have hset : cur.toList.take (o + 0) ++ [a.eval y] ++ cur.toList.drop (o + 0 + [a.eval y].length) = cur.toList.set o (a.eval y) := by
    rw [List.set_eq_take_append_cons_drop, if_pos (by simpa using hocur)]
    simp
  rw [hset] at hsm hheap hrun
  have key := hb.good.turn (o' := .row e sz (cs.set o dt)) ho rfl hρ (b := b) rfl hsm
  generalize hw : w.setRow b (cur.toList.set o (a.eval y)).toArray = w' at *
  have hids : ∀ b', Own ρ (st.objs.set id (.row e sz (cs.set o dt))) b' → Own ρ st.objs b' := by
    rintro b' ⟨i, h⟩
    rcases foot_set (List.getElem?_eq_some_iff.1 ho).1 h with ⟨rfl, _, l, h3, h4⟩ | ⟨_, h⟩
    · exact ⟨i, _, l, ho, rfl, h3, h4⟩
    · exact ⟨i, h⟩
  have hsm' : Same (Own ρ st.objs) w w' := ⟨hsm.os, hsm.tape, hsm.output, hsm.size, fun k hk hn => hsm.block k hk (fun e => hn (e ▸ ⟨id, _, _, ho, rfl, hρ, _, List.mem_singleton.2 rfl, rfl⟩))⟩
  have hrdm : ∀ {dt' : Dat} {v : Value}, Rd w (Ban ρ st.objs) v dt' → Rd w' (Ban ρ (st.objs.set id (.row e sz (cs.set o dt)))) v dt' := fun h => h.mono hsm'.ban (Ban.mono fun b' _ h => hids b' h)
  have hfin := key (sat_row hρ (us := us.set o (a.eval y)) ⟨by rw [List.length_set]; exact how.1, .inr ⟨b, cap, _, rfl, Nat.zero_le _, hheap, hnc, hcm, by simpa using hcsz, by
      simp only [List.take_set, htake]⟩⟩ (by simp [hlen]) fun i dt' hi => by
    by_cases hio : i = o
    · subst hio
      rw [List.getElem?_set_self hlt] at hi
      obtain rfl := Option.some.inj hi
      exact ⟨a.eval y, by rw [List.getElem?_set_self hous], hrdm hrd⟩
    · rw [List.getElem?_set_ne (Ne.symm hio)] at hi
      obtain ⟨u, hu, hr⟩ := hcs i dt' hi
      exact ⟨u, by rw [List.getElem?_set_ne (Ne.symm hio)]; exact hu, hrdm hr⟩)
  refine ⟨w', ρ, ?_, hsm', fun _ _ h => h, fun b' _ h => hids b' h, hfin.1⟩
  simp only [execOp, he, Instr.storeAt, Instr.sureAddr, storeVar, cells_one hone, Sem.run_bind, Sem.run_pure, Result.andThen_ok, ht.run]
  simp [hrun]

/-- A store of a whole struct or array into a box. -/
theorem l_store_agg [Zs] {T : TypeId} {x y : Operand} {id o n : Nat} {cells l : List AV} (hx : st.ev x = .ptr id o) (ho : st.objs[id]? = some (.box cells)) (hlt : Nat.ble (o + n) cells.length = true) (hy : (st.ev y).cells = l) (hl : l.length = n) (h1' : l.all AV.one = true) (ht : SzOf P T n)
    (hk : aL P cx ops Q rest (st.set id (.box (cells.take o ++ l ++ cells.drop (o + n))))) : aL P cx ops Q (⟨none, .store T x y, ty, pos, af, none⟩ :: rest) st := by
  refine l_skip (st2 := st.set id (.box (cells.take o ++ l ++ cells.drop (o + n)))) rfl ?_ rfl hk
  intro ρ w a hb
  have hlt' : o + n ≤ cells.length := Nat.le_of_ble_eq_true hlt
  have h1 := List.all_eq_true.1 h1'
  have hg := hb.ev x
  rw [hx] at hg
  obtain ⟨b, arr, T', he, hρ, hh, hsz, hcell, hcs⟩ := box_cells hb.good ho hg
  obtain ⟨g1, g2, g3⟩ := gm_cells (hb.ev y) hy h1
  have hvl : (a.eval y).cells.toList.length = n := by simp [g1, hl]
  have hrun := run_storeCells_at P b o T' (a.eval y).cells.toList 0 arr w hh (by rw [hvl]; omega) g3
  rw [hvl] at hrun
  generalize hnew : arr.toList.take (o + 0) ++ (a.eval y).cells.toList ++ arr.toList.drop (o + 0 + n) = nl at hrun
  have hsm : Same (fun x => x = b) w (w.setRow b nl.toArray) := ⟨rfl, rfl, rfl, by simp, fun k _ hn => setRow_other w b k _ hn⟩
  have hheap := setRow_heap w b arr nl.toArray T' (0, 0) hh
  have key := hb.good.turn (o' := .box (cells.take o ++ l ++ cells.drop (o + n))) ho rfl hρ (b := b) rfl hsm
  generalize hw : w.setRow b nl.toArray = w' at *
  have hids : ∀ b', Own ρ (st.objs.set id (.box (cells.take o ++ l ++ cells.drop (o + n)))) b' → Own ρ st.objs b' := by
    rintro b' ⟨i, h⟩
    rcases foot_set (List.getElem?_eq_some_iff.1 ho).1 h with ⟨rfl, _, l, h3, h4⟩ | ⟨_, h⟩
    · exact ⟨i, _, l, ho, rfl, h3, h4⟩
    · exact ⟨i, h⟩
  have hsm' : Same (Own ρ st.objs) w w' := ⟨hsm.os, hsm.tape, hsm.output, hsm.size, fun k hk hn => hsm.block k hk (fun e => hn (e ▸ ⟨id, _, _, ho, rfl, hρ, _, List.mem_singleton.2 rfl, rfl⟩))⟩
  have hgm : ∀ {av' : AV} {v : Value}, Gm ρ w (Ban ρ st.objs) av' v → Gm ρ w' (Ban ρ (st.objs.set id (.box (cells.take o ++ l ++ cells.drop (o + n))))) av' v := fun h => h.mono hsm'.ban (Ban.mono fun b' _ h => hids b' h) (fun _ _ h => h)
  have hfin := key ⟨b, _, T', hρ, hheap, by rw [← hnew]; simp [g1, hl, hsz], fun i av' hi => by
    have ha : (arr.toList.take o).length = o := by simp; omega
    have hc : (cells.take o).length = o := by simp; omega
    rw [← hnew]
    rw [List.append_assoc] at hi
    simp only [Nat.add_zero, List.getElem?_toArray]
    rw [List.append_assoc (List.take o arr.toList)]
    rw [List.getElem?_append, hc] at hi
    rw [List.getElem?_append, ha]
    by_cases h5 : i < o
    · rw [if_pos h5, List.getElem?_take, if_pos h5] at hi
      obtain ⟨v, hv, hgv⟩ := hcs i av' hi
      exact ⟨v, by rw [if_pos h5, List.getElem?_take, if_pos h5]; simpa using hv, hgm hgv⟩
    · rw [if_neg h5] at hi ⊢
      rw [List.getElem?_append] at hi ⊢
      rw [hl] at hi
      rw [hvl]
      by_cases h6 : i - o < n
      · rw [if_pos h6] at hi ⊢
        have h7 : i - o < (a.eval y).cells.size := by rw [g1, hl]; exact h6
        exact ⟨_, by simp [h7], hgm (g2 _ _ _ hi (Array.getElem?_eq_getElem h7))⟩
      · rw [if_neg h6] at hi ⊢
        rw [List.getElem?_drop] at hi ⊢
        obtain ⟨v, hv, hgv⟩ := hcs _ av' hi
        exact ⟨v, by simpa using hv, hgm hgv⟩⟩
  refine ⟨w', ρ, ?_, hsm', fun _ _ h => h, fun b' _ h => hids b' h, hfin.1⟩
  have hszv : (a.eval y).cells.size = n := by rw [g1, hl]
  simp only [execOp, he, Instr.storeAt, Instr.sureAddr, storeVar, Sem.run_bind, Sem.run_pure, Result.andThen_ok, ht.run, hszv]
  simp [hrun]

/-! Calls. -/
def evs (st : St) (xs : Array Operand) : List AV := xs.toList.map st.ev

/-- The callee, and what it has captured. -/
def Callee' (st : St) (g : Operand) (f : FuncId) (caps : List AV) : Prop := (st.ev g = .val (.func (.func f) #[] #[]) ∧ caps = []) ∨ st.ev g = .clo f caps

theorem callee_val [Zs] {ρ : Ids} {w : World} {a : Act} (hb : RelB ρ w st a) {g : Operand} {f : FuncId} {caps : List AV} (h : Callee' st g f caps) :
    ∃ cs : Array Value, a.eval g = .func (.func f) #[] cs ∧ cs.size = caps.length ∧ ∀ (i : Nat) (av : AV) (v : Value), caps[i]? = some av → cs[i]? = some v → Gm ρ w (Ban ρ st.objs) av v := by
  have hg := hb.ev g
  rcases h with ⟨h, rfl⟩ | h
  · rw [h] at hg
    exact ⟨#[], hg.val_inv, rfl, fun i av v h => by simp at h⟩
  · rw [h] at hg
    obtain ⟨vs, h1, h2, h3⟩ := hg.clo_inv
    exact ⟨vs, h1, h2.symm, h3⟩

theorem exec_call {d : Option Tmp} {g : Operand} {xs : Array Operand} {ats : Array TypeId} {a : Act} {f : FuncId} {cs : Array Value} (he : Enters P f) (hg : a.eval g = .func (.func f) #[] cs) (w : World) (gd : Option (Nat × Bool)) :
    (execOp a.eval ⟨d, .call ⟨.value g, xs, ats⟩, ty, pos, af, gd⟩).run P w = .ok (.enter f (xs.map a.eval ++ cs)) w := by
  simp only [execOp, resolve, hg, Deferred.ofValue, Sem.run_bind, Sem.run_pure, Result.andThen_ok, invoke, he.run]
  simp

theorem args_gm [Zs] {ρ : Ids} {w : World} {a : Act} (hb : RelB ρ w st a) {xs : Array Operand} {cs : Array Value} {caps : List AV} (hsz : cs.size = caps.length)
    (hcs : ∀ (i : Nat) (av : AV) (v : Value), caps[i]? = some av → cs[i]? = some v → Gm ρ w (Ban ρ st.objs) av v) {args : List AV} {σ : List Nat} {objs' : List AO} (ho : VwOs st.objs σ objs') (hv : VwL st.objs σ (evs st xs ++ caps) args) :
    (xs.map a.eval ++ cs).size = args.length ∧ ∀ (i : Nat) (av : AV) (v : Value), args[i]? = some av → (xs.map a.eval ++ cs)[i]? = some v → Gm (reId ρ σ) w (Ban (reId ρ σ) objs') av v := by
  obtain ⟨h1, h2⟩ := vwL_spec hv
  refine ⟨?_, fun i av v hi hv' => ?_⟩
  · rw [← h1]; simp [evs, hsz]
  · have hlt : i < (evs st xs ++ caps).length := by rw [h1]; exact (List.getElem?_eq_some_iff.1 hi).1
    refine (h2 i _ av (List.getElem?_eq_getElem hlt) hi).gm hb.good ho v ?_
    by_cases hx : i < xs.size
    · have e1 : (evs st xs ++ caps)[i] = st.ev xs[i] := by
        rw [List.getElem_append_left (by simpa [evs] using hx)]; simp [evs]
      have e2 : v = a.eval xs[i] := by
        rw [Array.getElem?_append_left (by simpa using hx)] at hv'
        simp [hx] at hv'
        exact hv'.symm
      rw [e1, e2]
      exact hb.ev _
    · have hl : (evs st xs).length = xs.size := by simp [evs]
      rw [Array.getElem?_append_right (by simpa using Nat.le_of_not_lt hx)] at hv'
      simp only [Array.size_map] at hv'
      refine hcs (i - xs.size) _ v ?_ hv'
      rw [List.getElem_append_right (by rw [hl]; omega)]
      simp only [hl]
      exact List.getElem?_eq_getElem _

/-- A call that gives back a value that hangs on no memory, and leaves memory as it was. -/
theorem Q_call {d : Option Tmp} {g : Operand} {xs : Array Operand} {ats : Array TypeId} {f : FuncId} {caps args : List AV} {v : Value} {objs' : List AO} (hf : Callee' st g f caps) (hc : AC P f args [] (.val v) objs') (hv : VwL st.objs [] (evs st xs ++ caps) args) {gd : Option (Nat × Bool)} :
    QOp P ⟨d, .call ⟨.value g, xs, ats⟩, ty, pos, af, gd⟩ st (.val v) := by
  intro _ ρ w a hb
  refine ⟨v, .val v, fun w1 hw => ?_⟩
  have hb1 := hb.mono hw
  obtain ⟨cs, h1, h2, h3⟩ := callee_val hb1 hf
  have ho : VwOs st.objs [] [] := ⟨rfl, List.nodup_nil, fun id' o' h => by simp at h⟩
  obtain ⟨h4, h5⟩ := args_gm hb1 h2 h3 ho hv
  unfold Oper.quietAt
  rw [exec_call hc.1 h1]
  refine ⟨rfl, (hc.2 (reId ρ []) w1 _ (hb1.good.view ho) h4 h5).mono ?_⟩
  rintro e w' ⟨u, ρ', rfl, hs, _, hg, _, _⟩
  have hsm := hs.below (fun x _ ⟨id, h⟩ => by obtain ⟨o, l, h6, _⟩ := h; simp at h6)
  rw [hg.val_inv]
  exact ⟨rfl, hw.trans (hsm.mono hw.size)⟩

mutual
def AV.sh (m : Nat) : AV → AV
  | .own id => .own (m + id)
  | .ptr id off => .ptr (m + id) off
  | .ept id o => .ept (m + id) o
  | .agg l => .agg (AV.shl m l)
  | .tup l => .tup (AV.shl m l)
  | .clo f l => .clo f (AV.shl m l)
  | .val v => .val v
  | .ro d => .ro d
  | .rpt cs o => .rpt cs o
  | .any => .any
def AV.shl (m : Nat) : List AV → List AV
  | [] => []
  | a :: l => a.sh m :: AV.shl m l
end
def AO.sh (m : Nat) : AO → AO
  | .box l => .box (AV.shl m l)
  | .row e sz cs => .row e sz cs
  | .mat e e' r => .mat e e' r
  | .gone => .gone

/-- Nothing in it hangs on older memory. -/
inductive Flat : AV → Prop where
  | val (v : Value) : Flat (.val v)
  | own (id : Nat) : Flat (.own id)
  | ptr (id o : Nat) : Flat (.ptr id o)
  | agg (l : List AV) (h : ∀ av ∈ l, Flat av) : Flat (.agg l)
  | tup (l : List AV) (h : ∀ av ∈ l, Flat av) : Flat (.tup l)
  | any : Flat .any
inductive FlatO : AO → Prop where
  | box (l : List AV) (h : ∀ av ∈ l, Flat av) : FlatO (.box l)
  | row (e : TypeId) (sz : Nat) (cs : List Dat) (h : ∀ dt ∈ cs, ∃ v, dt = .val v) : FlatO (.row e sz cs)
  | mat (e e' : TypeId) (m : List (List Value)) : FlatO (.mat e e' m)
  | gone : FlatO .gone

theorem shl_get (m : Nat) : ∀ (l : List AV) (i : Nat), (AV.shl m l)[i]? = (l[i]?).map (AV.sh m)
  | [], i => by simp [AV.shl]
  | a :: l, 0 => by simp [AV.shl]
  | a :: l, i + 1 => by simp [AV.shl, shl_get m l i]
theorem shl_len (m : Nat) : ∀ (l : List AV), (AV.shl m l).length = l.length
  | [] => rfl
  | a :: l => by simp [AV.shl, shl_len m l]

theorem flat_gm {ρ ρ' : Ids} {w : World} {M M' : Nat → Prop} {m : Nat} (hρ : ∀ (id : Nat) l, ρ[id]? = some l → ρ'[m + id]? = some l) {av : AV} (hf : Flat av) : ∀ v, Gm ρ w M av v → Gm ρ' w M' (av.sh m) v := by
  have lst : ∀ {l : List AV} {vs : Array Value}, (∀ av ∈ l, ∀ v, Gm ρ w M av v → Gm ρ' w M' (av.sh m) v) → (∀ (i : Nat) (av : AV) (v : Value), l[i]? = some av → vs[i]? = some v → Gm ρ w M av v) →
      ∀ (i : Nat) (av : AV) (v : Value), (AV.shl m l)[i]? = some av → vs[i]? = some v → Gm ρ' w M' av v := by
    intro l vs ih h i av v hi hv
    rw [shl_get] at hi
    obtain ⟨av0, h1, rfl⟩ := Option.map_eq_some_iff.1 hi
    exact ih av0 (List.mem_of_getElem? h1) v (h i av0 v h1 hv)
  induction hf with
  | val v => intro u hu; rw [hu.val_inv]; exact .val _
  | own id => intro u hu; cases hu with | own _ _ l h h1 => exact .own _ _ l (hρ _ _ h) h1
  | ptr id o => intro u hu; obtain ⟨b, l, rfl, h⟩ := hu.ptr_inv; exact .ptr _ _ b l (hρ _ _ h)
  | agg l _ ih => intro u hu; obtain ⟨vs, rfl, h1, h2⟩ := hu.agg_inv; exact .agg _ vs (by rw [shl_len]; exact h1) (lst ih h2)
  | tup l _ ih => intro u hu; obtain ⟨vs, rfl, h1, h2⟩ := hu.tup_inv; exact .tup _ vs (by rw [shl_len]; exact h1) (lst ih h2)
  | any => intro u _; exact .any u

/-- A call that makes new objects: they stand behind the caller's. -/
theorem l_call [Zs] {d : Tmp} {g : Operand} {xs : Array Operand} {ats : Array TypeId} {f : FuncId} {caps args : List AV} {res : AV} {objs' : List AO} (hf : Callee' st g f caps) (hc : AC P f args [] res objs') (hv : VwL st.objs [] (evs st xs ++ caps) args)
    (hfl : Flat res) (hfo : ∀ o ∈ objs', FlatO o) (hd : Nat.blt d st.n = true)
    (hk : aL P cx ops Q rest (St.put ⟨st.n, st.vars, st.objs ++ objs'.map (AO.sh st.objs.length)⟩ d (res.sh st.objs.length))) : aL P cx ops Q (⟨some d, .call ⟨.value g, xs, ats⟩, ty, pos, af, none⟩ :: rest) st := by
  intro a w hr
  obtain ⟨ρ, hb, hfoot, h0⟩ := hr.base
  obtain ⟨cs, h1, h2, h3⟩ := callee_val hb hf
  have ho : VwOs st.objs [] [] := ⟨rfl, List.nodup_nil, fun id' o' h => by simp at h⟩
  obtain ⟨h4, h5⟩ := args_gm hb h2 h3 ho hv
  unfold wpList
  rw [if_pos (by simp [Region.wanted])]
  left
  unfold Oper.wp
  rw [exec_call hc.1 h1]
  refine (hc.2 (reId ρ []) w _ (hb.good.view ho) h4 h5).mono ?_
  rintro e w' ⟨u, ρ', rfl, hs, hg', hgm, _, hfr⟩
  have hbel := hs.below (fun x _ ⟨id, h⟩ => by obtain ⟨o, l, h6, _⟩ := h; simp at h6)
  have hfr' : ∀ b, Own ρ' objs' b → w.heap.size ≤ b := by
    intro b h
    rcases Nat.lt_or_ge b w.heap.size with hlt | hge
    · obtain ⟨id, o, l, h6, _⟩ := hfr b h hlt; simp at h6
    · exact hge
  have hlen := hb.good.len
  have hext : ∀ (id : Nat) l, ρ'[id]? = some l → (ρ ++ ρ')[st.objs.length + id]? = some l := by
    intro id l h
    rw [List.getElem?_append_right (by omega), hlen, Nat.add_sub_cancel_left]; exact h
  have hfnew : ∀ id b, st.objs.length ≤ id → foot (ρ ++ ρ') (st.objs ++ objs'.map (AO.sh st.objs.length)) id b → foot ρ' objs' (id - st.objs.length) b := by
    rintro id b hle ⟨o, l, h6, h7, h8, h9⟩
    rw [List.getElem?_append_right hle, List.getElem?_map] at h6
    obtain ⟨o0, h10, rfl⟩ := Option.map_eq_some_iff.1 h6
    rw [List.getElem?_append_right (by omega), hlen] at h8
    refine ⟨o0, l, h10, ?_, h8, h9⟩
    cases o0 <;> first | rfl | cases h7
  have happ := hb.good.app (w' := w') (ls := ρ') (os := objs'.map (AO.sh st.objs.length)) (Same.of_below hbel _) (fun b ⟨id, h⟩ => hbel.block b (foot_lt hb.good h)) (by simp [hg'.len])
    (fun id b h6 h7 => hfr' b ⟨_, hfnew id b h6 h7⟩) (fun i j b h6 h7 h8 h9 => by have := hg'.dis _ _ b (hfnew i b h6 h8) (hfnew j b h7 h9); omega) (fun i o hi => by
      rw [List.getElem?_map] at hi
      obtain ⟨o0, h10, rfl⟩ := Option.map_eq_some_iff.1 hi
      have hsat := hg'.sat i o0 h10
      have hflo := hfo o0 (List.mem_of_getElem? h10)
      cases hflo with
      | gone => trivial
      | mat e e' m => obtain ⟨v, us, a1, a2⟩ := hsat; exact ⟨v, us, hext _ _ a1, a2⟩
      | row e sz cs h =>
        obtain ⟨v, n, us, a1, a2, a3, a4⟩ := hsat
        refine ⟨v, n, us, hext _ _ a1, a2, a3, fun i dt hi => ?_⟩
        obtain ⟨u, hu, hr⟩ := a4 i dt hi
        obtain ⟨x, rfl⟩ := h dt (List.mem_of_getElem? hi)
        cases hr
        exact ⟨_, hu, .val _⟩
      | box l h =>
        obtain ⟨b, arr, T, a1, a2, a3, a4⟩ := hsat
        refine ⟨b, arr, T, hext _ _ a1, a2, by rw [shl_len]; exact a3, fun i av hi => ?_⟩
        rw [shl_get] at hi
        obtain ⟨av0, h11, rfl⟩ := Option.map_eq_some_iff.1 hi
        obtain ⟨v, hv, hgv⟩ := a4 i av0 h11
        exact ⟨v, hv, flat_gm hext (h av0 (List.mem_of_getElem? h11)) v hgv⟩)
  refine hk _ _ (Rel.step (st2 := St.put ⟨st.n, st.vars, st.objs ++ objs'.map (AO.sh st.objs.length)⟩ d (res.sh st.objs.length)) hr hfoot h0 (Same.of_below hbel _) (ext_app ρ ρ') happ.2
    (RelB.put (st := ⟨st.n, st.vars, st.objs ++ objs'.map (AO.sh st.objs.length)⟩) ⟨fun t => (hb.frame t).ext (Same.of_below hbel _) (ext_app ρ ρ') happ.2, hb.size, hb.defers, happ.1⟩ hd (flat_gm hext hfl u hgm)))
end
end Go.Proofs.Ythchhaaplimafaa
