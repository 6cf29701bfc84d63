import Derived.Test.YtpfldhaaiglgdaaDoorEngZzu
import Derived.Test.YtpfldhaaiglgdaaDoorEngZv
set_option linter.unusedSimpArgs false
set_option linter.unusedVariables false
set_option linter.unusedSectionVars false
namespace Go.Proofs.YtpfldhaaiglgdaaDoor
open Go.RowKit
/-- A builder is turned: its block, its slice, or a new slice. -/
theorem bld_turn [Zs] {ρ : Ids} {w w' : World} {objs : List AO} {id b : Nat} {T e : TypeId} {cs cs' : List Value} {v v' : Value} (hg : Good ρ w objs) (ho : objs[id]? = some (.bld T e cs)) (hρ : ρ[id]? = some [.pointer (some ⟨b, 0, none⟩), v])
    (hs : Same (fun x => x = b ∨ ablk v = some x) w w') (hb' : BldAt w' b v' T) (how : w'.ownsRow 0 e 1 v' cs'.length cs') (hne : ablk v' ≠ some b) (hbl : ∀ x, ablk v' = some x → ablk v = some x ∨ w.heap.size ≤ x) :
    Same (Own ρ objs) w w' ∧ (∀ x, x < w.heap.size → Own (ρ.set id [.pointer (some ⟨b, 0, none⟩), v']) (objs.set id (.bld T e cs')) x → Own ρ objs x) ∧ Good (ρ.set id [.pointer (some ⟨b, 0, none⟩), v']) w' (objs.set id (.bld T e cs')) ∧
      ∀ (j : Nat) (u : Value) l, ρ[j]? = some (u :: l) → ∃ l', (ρ.set id [.pointer (some ⟨b, 0, none⟩), v'])[j]? = some (u :: l') := by
  have hid := (List.getElem?_eq_some_iff.1 ho).1
  have hidρ : id < ρ.length := by rw [hg.len]; exact hid
  generalize hρ' : ρ.set id [.pointer (some ⟨b, 0, none⟩), v'] = ρ'
  generalize hobj : objs.set id (.bld T e cs') = objs'
  have hρid : ρ'[id]? = some [.pointer (some ⟨b, 0, none⟩), v'] := by rw [← hρ', List.getElem?_set_self hidρ]
  have hρne : ∀ j, j ≠ id → ρ'[j]? = ρ[j]? := fun j hj => by rw [← hρ', List.getElem?_set_ne (Ne.symm hj)]
  have hoid : objs'[id]? = some (.bld T e cs') := by rw [← hobj, List.getElem?_set_self hid]
  have hoth : ∀ j, j ≠ id → objs'[j]? = objs[j]? := fun j h1 => by rw [← hobj, List.getElem?_set_ne (Ne.symm h1)]
  have hheads : ∀ (j : Nat) (u : Value) l, ρ[j]? = some (u :: l) → ∃ l', ρ'[j]? = some (u :: l') := fun j u l h => by
    by_cases hj : j = id
    · subst hj
      rw [hρ] at h
      obtain ⟨rfl, _⟩ := List.cons.inj (Option.some.inj h)
      exact ⟨_, hρid⟩
    · exact ⟨l, (hρne j hj).trans h⟩
  have hfb : foot ρ objs id b := ⟨_, _, ho, rfl, hρ, _, List.mem_cons_self .., rfl⟩
  have hfv : ∀ {x}, ablk v = some x → foot ρ objs id x := fun h => ⟨_, _, ho, rfl, hρ, v, List.mem_cons_of_mem _ (List.mem_cons_self ..), h⟩
  have hfoot : ∀ {j x}, foot ρ' objs' j x → (j ≠ id ∧ foot ρ objs j x) ∨ (j = id ∧ (foot ρ objs id x ∨ w.heap.size ≤ x)) := by
    rintro j x ⟨o, l, q1, q2, q3, u, q4, q5⟩
    by_cases hj : j = id
    · subst hj
      rw [hρid] at q3
      obtain rfl := Option.some.inj q3
      refine .inr ⟨rfl, ?_⟩
      rcases List.mem_cons.1 q4 with rfl | q4
      · cases q5; exact .inl hfb
      · rw [List.mem_singleton] at q4
        subst q4
        rcases hbl x q5 with h | h
        · exact .inl (hfv h)
        · exact .inr h
    · rw [hoth j hj] at q1
      rw [hρne j hj] at q3
      exact .inl ⟨hj, o, l, q1, q2, q3, u, q4, q5⟩
  have hM : ∀ x, x < w.heap.size → Own ρ' objs' x → Own ρ objs x := by
    rintro x hx ⟨j, h⟩
    rcases hfoot h with ⟨_, h⟩ | ⟨_, h | h⟩
    · exact ⟨j, h⟩
    · exact ⟨id, h⟩
    · omega
  have hsO : Same (Own ρ objs) w w' := ⟨hs.os, hs.tape, hs.output, hs.size, fun k hk hn => hs.block k hk fun h => hn (h.elim (fun e => e ▸ ⟨id, hfb⟩) fun h => ⟨id, hfv h⟩)⟩
  refine ⟨hsO, hM, ⟨by rw [← hρ', ← hobj]; simp [hg.len], fun j o hj => ?_, fun p q x hp hq => ?_, fun j x h hz => ?_, fun x hz => Nat.lt_of_lt_of_le (hg.zl x hz) hs.size, hg.tt.step hsO hM⟩, hheads⟩
  · by_cases hj1 : j = id
    · subst hj1
      rw [hoid] at hj
      obtain rfl := Option.some.inj hj
      exact ⟨b, v', hρid, hb', how, hne⟩
    · rw [hoth j hj1] at hj
      refine SatO.heads ((hg.sat j o hj).chg hsO.ban (Ban.mono hM) fun hlv l u x q1 q2 q3 q4 => hs.block x q4 fun e => ?_) (hρne j hj1) hheads
      have hf : foot ρ objs j x := ⟨o, l, hj, hlv, q1, u, q2, q3⟩
      exact hj1 (hg.dis j id x hf (e.elim (fun e => e ▸ hfb) hfv))
  · rcases hfoot hp with ⟨p1, p3⟩ | ⟨rfl, p3⟩ <;> rcases hfoot hq with ⟨q1, q3⟩ | ⟨rfl, q3⟩
    · exact hg.dis p q x p3 q3
    · rcases q3 with q3 | q3
      · exact hg.dis _ _ _ p3 q3
      · have := foot_lt hg p3; omega
    · rcases p3 with p3 | p3
      · exact hg.dis _ _ _ p3 q3
      · have := foot_lt hg q3; omega
    · rfl
  · rcases hfoot h with ⟨_, h⟩ | ⟨_, h | h⟩
    · exact hg.zf _ x h hz
    · exact hg.zf _ x h hz
    · have := hg.zl x hz; omega
section
variable {P : Program} {k : Nat} {cx : Cx k} {ops : Array Oper} {Q : Exit → St → Prop} {st : St} {rest : List Oper} {ty : TypeId} {pos : String} {af : Array Edge}
/-- What a writing call does to a builder in memory. -/
def BWr (P : Program) (f : FuncId) (T e : TypeId) : Prop := ∀ (b : Nat) (v : Value) (cs : List Value) (s : ByteArray) (w : World), BldAt w b v T → w.ownsRow 0 e 1 v cs.length cs → ablk v ≠ some b → cs.length + s.size ≤ 1000000 →
  Calls P f #[.pointer (some ⟨b, 0, none⟩), .string s] w fun ex w' => ∃ v', ex = .returned (.tuple #[.int .i64 s.size, .nilIface]) ∧ BldAt w' b v' T ∧
    w'.ownsRow 0 e 1 v' (cs.length + s.size) (cs ++ Lib.strCells s) ∧ ablk v' ≠ some b ∧ Same (fun x => x = b ∨ ablk v = some x) w w' ∧ ∀ x, ablk v' = some x → ablk v = some x ∨ w.heap.size ≤ x
/-- b.WriteString(s). -/
theorem l_bwr [Zs] {d : Tmp} {g x y : Operand} {ats : Array TypeId} {f : FuncId} {id : Nat} {T e : TypeId} {cs : List Value} {s : ByteArray} (he : Enters P f) (hc : BWr P f T e) (hg : st.ev g = .val (.func (.func f) #[] #[])) (hx : st.ev x = .ptr id 0) (hy : st.ev y = .val (.string s))
    (ho : st.objs[id]? = some (.bld T e cs)) (hk0 : k ≤ id) (hbig : cs.length + s.size ≤ 1000000) (hd : Nat.blt d st.n = true)
    (hk : aL P cx ops Q rest ((st.set id (.bld T e (cs ++ Lib.strCells s))).put d (.tup [.val (.int .i64 s.size), .val .nilIface]))) : aL P cx ops Q (⟨some d, .call ⟨.value g, #[x, y], ats⟩, ty, pos, af, none⟩ :: rest) st := by
  intro a w hr
  obtain ⟨ρ, hb, hf, h0⟩ := hr.base
  obtain ⟨b, v, h1, h2, h3, h4⟩ := hb.good.sat id _ ho
  have ex := hb.ev x
  rw [hx] at ex
  obtain ⟨b', l, e1, e2⟩ := ex.ptr_inv
  rw [h1] at e2
  obtain ⟨e3, rfl⟩ := List.cons.inj (Option.some.inj e2)
  obtain rfl : b = b' := by cases e3; rfl
  have ey := hb.evv hy
  unfold wpList
  rw [if_pos (by simp [Region.wanted])]
  left
  unfold Oper.wp
  rw [exec_call he (cs := #[]) (hb.evv hg)]
  have eargs : #[x, y].map a.eval ++ #[] = #[.pointer (some ⟨b, 0, none⟩), .string s] := by simp [e1, ey]
  rw [eargs]
  refine (hc b v cs s w h2 h3 h4 hbig).mono ?_
  rintro ex w' ⟨v', rfl, k1, k2, k3, k4, k5⟩
  have hlen : (cs ++ Lib.strCells s).length = cs.length + s.size := by rw [List.length_append, Lib.strCells_length]
  obtain ⟨t1, t2, t3, t4⟩ := bld_turn (cs' := cs ++ Lib.strCells s) hb.good ho h1 k4 k1 (by rw [hlen]; exact k2) k3 k5
  generalize hρ' : ρ.set id [.pointer (some ⟨b, 0, none⟩), v'] = ρ' at *
  have hrb : RelB ρ' w' (st.set id (.bld T e (cs ++ Lib.strCells s))) a := ⟨fun t => ((hb.frame t).mono t1.ban (Ban.mono t2) fun _ _ h => h).heads t4, hb.size, hb.defers, t3⟩
  have hgm : Gm ρ' w' (Ban ρ' (st.set id (.bld T e (cs ++ Lib.strCells s))).objs) (.tup [.val (.int .i64 s.size), .val .nilIface]) (.tuple #[.int .i64 s.size, .nilIface]) :=
    .tup _ _ rfl fun i av v hi hv => by
      match i, hi, hv with
      | 0, hi, hv => simp at hi hv; subst hi hv; exact .val _
      | 1, hi, hv => simp at hi hv; subst hi hv; exact .val _
      | i + 2, hi, _ => simp at hi
  refine hk _ _ ⟨⟨ρ', hrb.put hd hgm, fun j x h hlt => ?_, fun j l h => ?_⟩, hr.same.trans t1 fun x hx ⟨j, h⟩ => hf j x h hx⟩
  · obtain ⟨j2, h2⟩ := t2 x (Nat.lt_of_lt_of_le hlt hr.same.size) ⟨j, h⟩
    exact hf j2 x h2 hlt
  · have hjk : j < k := by rw [← cx.len]; exact (List.getElem?_eq_some_iff.1 h).1
    rw [← hρ', List.getElem?_set_ne (by omega)]
    exact h0 j l h
/-- A new builder. -/
theorem l_bld [Zs] {d : Tmp} {T e : TypeId} {by' : Nat} (ht : MkT P T (.agg #[.pointer none, .slice none 0 0]) 2 by') (hd : Nat.blt d st.n = true)
    (hk : aL P cx ops Q rest ((st.add (.bld T e [])).put d (.ptr st.objs.length 0))) : aL P cx ops Q (⟨some d, .alloc T, ty, pos, af, none⟩ :: rest) st := by
  refine l_step (st2 := st.add (.bld T e [])) hd rfl ?_ rfl hk
  intro ρ w a hb
  obtain ⟨i, hi, hz⟩ := ht.info
  generalize hw : w.alloc (.cells #[.pointer none, .slice none 0 0] T) = w' at *
  have hbel : Below w.heap.size w w' := hw ▸ (Below.refl _ _).alloc (Nat.le_refl _) _
  have hh : w'.heap[w.heap.size]? = some (.cells #[.pointer none, .slice none 0 0] T (0, 0)) := hw ▸ heap_alloc_new w _
  have hnew : (ρ ++ [[.pointer (some ⟨w.heap.size, 0, none⟩), .slice none 0 0]])[st.objs.length]? = some [.pointer (some ⟨w.heap.size, 0, none⟩), .slice none 0 0] := new_id hb.good.len _
  have hlast : ∀ id b, st.objs.length ≤ id → foot (ρ ++ [[.pointer (some ⟨w.heap.size, 0, none⟩), .slice none 0 0]]) (st.objs ++ [.bld T e []]) id b → id = st.objs.length ∧ b = w.heap.size := by
    rintro id b h ⟨o', l, h1, _, h3, u, h4, h5⟩
    have hlt := (List.getElem?_eq_some_iff.1 h1).1
    simp at hlt
    obtain rfl : id = st.objs.length := by omega
    rw [hnew] at h3
    obtain rfl := Option.some.inj h3
    rcases List.mem_cons.1 h4 with rfl | h4
    · cases h5; exact ⟨rfl, rfl⟩
    · rw [List.mem_singleton] at h4
      subst h4
      cases h5
  have happ := hb.good.app (ls := [[.pointer (some ⟨w.heap.size, 0, none⟩), .slice none 0 0]]) (os := [.bld T e []]) (w' := w') (Same.of_below hbel _) (fun b ⟨id, h⟩ => hbel.block b (foot_lt hb.good h)) rfl
    (fun id b h1 h2 => by rw [(hlast id b h1 h2).2]; exact Nat.le_refl _) (fun i j b h1 h2 h3 h4 => (hlast i b h1 h3).1.trans (hlast j b h2 h4).1.symm) (fun i o' h => by
      cases i with
      | succ i => simp at h
      | zero =>
        simp at h
        subst h
        exact ⟨w.heap.size, .slice none 0 0, hnew, ⟨_, .inl rfl, hh⟩, ⟨rfl, .inl ⟨rfl, rfl⟩⟩, fun h => by cases h⟩)
  refine ⟨.pointer (some ⟨w.heap.size, 0, none⟩), w', _, ?_, Same.of_below hbel _, ext_app ρ _, happ.2, happ.1, .ptr _ 0 _ _ hnew⟩
  rw [← hw]
  simp [execOp, Instr.alloc, newVar, newRow, zeroValue, typeInfo, hi, hz.1]
  rfl
/-- b.String(): the builder is spent. -/
theorem l_bstr [Zs] {d : Tmp} {g x : Operand} {ats : Array TypeId} {f : FuncId} {id : Nat} {T e : TypeId} {cs : List Value} {s : ByteArray} (he : Enters P f)
    (hc : ∀ (b : Nat) (v : Value) (w : World), BldAt w b v T → w.ownsRow 0 e 1 v cs.length cs → Calls P f #[.pointer (some ⟨b, 0, none⟩)] w fun ex w' => ex = .returned (.string s) ∧ Same (fun x => ablk v = some x) w w')
    (hg : st.ev g = .val (.func (.func f) #[] #[])) (hx : st.ev x = .ptr id 0) (ho : st.objs[id]? = some (.bld T e cs)) (hd : Nat.blt d st.n = true)
    (hk : aL P cx ops Q rest ((st.set id .gone).put d (.val (.string s)))) : aL P cx ops Q (⟨some d, .call ⟨.value g, #[x], ats⟩, ty, pos, af, none⟩ :: rest) st := by
  intro a w hr
  obtain ⟨ρ, hb, hf, h0⟩ := hr.base
  obtain ⟨b, v, h1, h2, h3, h4⟩ := hb.good.sat id _ ho
  have ex := hb.ev x
  rw [hx] at ex
  obtain ⟨b', l, e1, e2⟩ := ex.ptr_inv
  rw [h1] at e2
  obtain ⟨e3, rfl⟩ := List.cons.inj (Option.some.inj e2)
  obtain rfl : b = b' := by cases e3; rfl
  have hid := (List.getElem?_eq_some_iff.1 ho).1
  unfold wpList
  rw [if_pos (by simp [Region.wanted])]
  left
  unfold Oper.wp
  rw [exec_call he (cs := #[]) (hb.evv hg)]
  have eargs : #[x].map a.eval ++ #[] = #[.pointer (some ⟨b, 0, none⟩)] := by simp [e1]
  rw [eargs]
  refine (hc b v w h2 h3).mono ?_
  rintro ex w' ⟨rfl, k4⟩
  have hfv : ∀ {x}, ablk v = some x → foot ρ st.objs id x := fun h => ⟨_, _, ho, rfl, h1, v, List.mem_cons_of_mem _ (List.mem_cons_self ..), h⟩
  have hfoot : ∀ {j x}, foot ρ (st.objs.set id .gone) j x → j ≠ id ∧ foot ρ st.objs j x := fun h => by
    rcases foot_set hid h with ⟨_, h, _⟩ | h
    · cases h
    · exact h
  have hM : ∀ x, x < w.heap.size → Own ρ (st.objs.set id .gone) x → Own ρ st.objs x := fun x _ ⟨j, h⟩ => ⟨j, (hfoot h).2⟩
  have hsO : Same (Own ρ st.objs) w w' := ⟨k4.os, k4.tape, k4.output, k4.size, fun k hk hn => k4.block k hk fun h => hn ⟨id, hfv h⟩⟩
  have hgood : Good ρ w' (st.objs.set id .gone) := by
    refine ⟨by simp [hb.good.len], fun j o hj => ?_, fun p q x hp hq => hb.good.dis p q x (hfoot hp).2 (hfoot hq).2, fun j x h hz => hb.good.zf j x (hfoot h).2 hz, fun x hz => Nat.lt_of_lt_of_le (hb.good.zl x hz) k4.size, hb.good.tt.step hsO hM⟩
    by_cases hj1 : j = id
    · subst hj1
      rw [List.getElem?_set_self hid] at hj
      obtain rfl := Option.some.inj hj
      trivial
    · rw [List.getElem?_set_ne (Ne.symm hj1)] at hj
      refine (hb.good.sat j o hj).chg hsO.ban (Ban.mono hM) fun hlv l u x q1 q2 q3 q4 => k4.block x q4 fun e => ?_
      have hf : foot ρ st.objs j x := ⟨o, l, hj, hlv, q1, u, q2, q3⟩
      exact hj1 (hb.good.dis j id x hf (hfv e))
  have hrb : RelB ρ w' (st.set id .gone) a := ⟨fun t => (hb.frame t).mono hsO.ban (Ban.mono hM) fun _ _ h => h, hb.size, hb.defers, hgood⟩
  refine hk _ _ ⟨⟨ρ, hrb.put hd (.val _), fun j x h hlt => hf j x (hfoot h).2 hlt, h0⟩, hr.same.trans hsO fun x hx ⟨j, h⟩ => hf j x h hx⟩
end
end Go.Proofs.YtpfldhaaiglgdaaDoor
