import Derived.Test.YtfjpgficpdbelaaEngZj
import Derived.Test.YtfjpgficpdbelaaEngZf
import Derived.Laws.CopyRow
set_option linter.unusedSimpArgs false
set_option linter.unusedVariables false
set_option linter.unusedSectionVars false
namespace Go.Proofs.Ytfjpgficpdbelaa
open Go.RowKit
section
variable {P : Program} {k : Nat} {cx : Cx k} {ops : Array Oper} {Q : Exit → St → Prop} {st : St} {rest : List Oper} {ty : TypeId} {pos : String} {af : Array Edge}
/-- s[:k] where s is an own row; it is spent. -/
theorem l_cutN [Zs] {d : Tmp} {T e : TypeId} {sz id n kk : Nat} {x hi : Operand} {cs : List Dat} (hx : st.ev x = .own id) (ho : st.objs[id]? = some (.row e sz cs)) (hi' : st.ev hi = .val (.int .i64 (kk : Nat))) (hkk : kk * sz ≤ cs.length) (hsz : 0 < sz) (ht : SlT P T e sz) (hd : Nat.blt d st.n = true)
    (hk : aL P cx ops Q rest (((st.set id .gone).add (.row e sz (cs.take (kk * sz)))).put d (.own st.objs.length))) : aL P cx ops Q (⟨some d, .slice T x none (some hi) none, ty, pos, af, none⟩ :: rest) st := by
  refine l_step (st2 := (st.set id .gone).add (.row e sz (cs.take (kk * sz)))) (av := .own st.objs.length) hd rfl ?_ rfl hk
  intro ρ w a hb
  have hg := hb.ev x
  rw [hx] at hg
  obtain ⟨v, n', us, h1, h2, h3, h4⟩ := hb.good.sat id _ ho
  obtain ⟨l, hl⟩ := hg.own_inv
  rw [h1] at hl
  obtain ⟨hv, rfl⟩ := List.cons.inj (Option.some.inj hl)
  have hid := (List.getElem?_eq_some_iff.1 ho).1
  have hdrop := hb.good.drop id
  obtain ⟨t1, t2⟩ := slT_elemJ ht
  have hz : (sizeOf (P.elem T)).run P w = .ok sz w := by rw [t1]; exact ht.2.run w
  have hres : ∃ v', (execOp a.eval ⟨some d, .slice T x none (some hi) none, ty, pos, af, none⟩).run P w = .ok (.value v') w ∧ w.ownsRow 0 e sz v' kk (us.take (kk * sz)) ∧ (∀ b, ablk v' = some b → ablk v = some b) ∧ v'.oneCell' = true := by
    have e2 := hb.evv hi'
    have hul := h2.1
    have hkn : kk ≤ n' := Nat.le_of_mul_le_mul_right (show kk * sz ≤ n' * sz by rw [← hul, h3]; exact hkk) hsz
    rcases h2.2 with ⟨hvn, hn⟩ | ⟨b, cap, cur, hvn, hbase, hh, hnc, hcm, hcs, htk⟩
    · have e1 : a.eval x = .slice none 0 0 := hv.symm.trans hvn
      obtain rfl : kk = 0 := by omega
      refine ⟨.slice none 0 0, ?_, ⟨by simp, .inl ⟨rfl, rfl⟩⟩, fun b hb' => (by cases hb'), rfl⟩
      simp only [execOp, e1, e2, Option.map, run_sliceAt_slice w T _ _ _ _ t2, Sem.run_bind, run_slice_h w T none 0 0 t2 .i64 ((0 : Nat) : Int) (by omega) (by omega), hz, Result.andThen_ok, Sem.run_pure]
      rfl
    · have e1 : a.eval x = .slice (some ⟨b, 0, none⟩) n' cap := hv.symm.trans hvn
      refine ⟨.slice (some ⟨b, 0, none⟩) kk cap, ?_, ⟨by rw [List.length_take, hul]; exact Nat.min_eq_left (Nat.mul_le_mul_right _ hkn), .inr ⟨b, cap, cur, rfl, hbase, hh, Nat.le_trans hkn hnc, hcm, hcs, by rw [← htk, List.take_take, Nat.min_eq_left (Nat.mul_le_mul_right _ hkn)]⟩⟩, fun b' hb' => (by rw [hvn]; exact hb'), rfl⟩
      simp only [execOp, e1, e2, Option.map, run_sliceAt_slice w T _ _ _ _ t2, Sem.run_bind, run_slice_h w T (some ⟨b, 0, none⟩) n' cap t2 .i64 ((kk : Nat) : Int) (by omega) (by omega), hz, Result.andThen_ok, Sem.run_pure, sliced]
      simp [Addr.add]
  obtain ⟨v', hrun, how, hblk, hone'⟩ := hres
  have hlenρ : ρ.length = (st.objs.set id .gone).length := by simp [hb.good.len]
  have hlast : ∀ id' b, (st.objs.set id .gone).length ≤ id' → foot (ρ ++ [[v']]) (st.objs.set id .gone ++ [.row e sz (cs.take (kk * sz))]) id' b → id' = (st.objs.set id .gone).length ∧ ablk v' = some b := by
    rintro id' b h ⟨o', l, h5, _, h6, u, h7, h8⟩
    have hlt := (List.getElem?_eq_some_iff.1 h5).1
    simp at hlt h
    obtain rfl : id' = st.objs.length := by omega
    rw [show st.objs.length = (st.objs.set id .gone).length by simp, new_id hlenρ] at h6
    obtain rfl := Option.some.inj h6
    obtain rfl := List.mem_singleton.1 h7
    exact ⟨by simp, h8⟩
  have hM : ∀ b, b < w.heap.size → Own (ρ ++ [[v']]) (st.objs.set id .gone ++ [.row e sz (cs.take (kk * sz))]) b → Own ρ st.objs b := by
    rintro b hlt ⟨id', h⟩
    rcases foot_app hlenρ h with ⟨_, h⟩ | ⟨h5, h6⟩
    · exact hdrop.2 b ⟨id', h⟩
    · exact ⟨id, _, _, ho, rfl, h1, v, List.mem_singleton.2 rfl, hblk b (hlast id' b h5 h6).2⟩
  have hnew : (ρ ++ [[v']])[st.objs.length]? = some [v'] := new_id hb.good.len _
  have hsm : Same (Own ρ st.objs) w w := Same.refl _ _
  refine ⟨v', w, ρ ++ [[v']], hrun, hsm, ext_app ρ _, hM, ⟨by simp [St.add, St.set, hb.good.len], ?_, ?_, fun id' b h hz => ?_, fun b hz => hb.good.zl b hz, hb.good.tt.step hsm hM⟩, .own _ _ [] hnew hone'⟩
  rotate_left 2
  · by_cases hlt : b < w.heap.size
    · obtain ⟨id2, h2'⟩ := hM b hlt ⟨id', h⟩
      exact hb.good.zf id2 b h2' hz
    · exact hlt (hb.good.zl b hz)
  · intro id' o' ho'
    show SatO _ _ (Ban _ (st.objs.set id .gone ++ [.row e sz (cs.take (kk * sz))])) id' o'
    change (st.objs.set id .gone ++ [.row e sz (cs.take (kk * sz))])[id']? = some o' at ho'
    by_cases hlt : id' < st.objs.length
    · rw [List.getElem?_append_left (by simpa using hlt)] at ho'
      by_cases he : id' = id
      · subst he
        rw [List.getElem?_set_self hid] at ho'
        obtain rfl := Option.some.inj ho'
        trivial
      · rw [List.getElem?_set_ne (Ne.symm he)] at ho'
        exact (hb.good.sat id' o' ho').keep hsm (ext_app ρ _) hM fun l' u b h5 h6 h7 hbl => rfl
    · rw [List.getElem?_append_right (by simpa using hlt)] at ho'
      have hlt2 := (List.getElem?_eq_some_iff.1 ho').1
      simp at hlt2
      obtain rfl : id' = st.objs.length := by omega
      simp at ho'
      subst ho'
      refine sat_row hnew how (by simp [h3]) fun j dt hj => ?_
      rw [List.getElem?_take] at hj
      split at hj
      · rename_i hjk
        obtain ⟨u, hu, hr⟩ := h4 j dt hj
        exact ⟨u, by rw [List.getElem?_take, if_pos hjk]; exact hu, hr.mono (Same.refl _ _) (fun b hb' h => by
          first
          | exact Ban.mono (fun b' h1 h2 => hM b' h1 h2) _ hb' h)⟩
      · cases hj
  · intro i j b hi hj
    change foot _ (st.objs.set id .gone ++ [.row e sz (cs.take (kk * sz))]) i b at hi
    change foot _ (st.objs.set id .gone ++ [.row e sz (cs.take (kk * sz))]) j b at hj
    have old : ∀ {i b}, foot ρ (st.objs.set id .gone) i b → ablk v' = some b → False := by
      intro i b h5 h6
      rcases foot_set hid h5 with ⟨_, h, _⟩ | ⟨hne, h7⟩
      · cases h
      · exact hne (hb.good.dis i id b h7 ⟨_, _, ho, rfl, h1, v, List.mem_singleton.2 rfl, hblk b h6⟩)
    rcases foot_app hlenρ hi with ⟨_, a2⟩ | ⟨a1, a2⟩ <;> rcases foot_app hlenρ hj with ⟨_, b2⟩ | ⟨b1, b2⟩
    · exact hdrop.1.dis i j b a2 b2
    · exact (old a2 (hlast j b b1 b2).2).elim
    · exact (old b2 (hlast i b a1 a2).2).elim
    · exact (hlast i b a1 a2).1.trans (hlast j b b1 b2).1.symm
/-- clear(s[i:]) where s is an own row of numbers. -/
theorem l_clr [Zs] {d : Nat} {T e : TypeId} {id i by' : Nat} {ty' : TypeId} {pos' : String} {af' : Array Edge} {x lo : Operand} {l : List Int} (hx : st.ev x = .own id) (ho : st.objs[id]? = some (.row e 1 (intc l))) (hlo : st.ev lo = .val (.int .i64 (i : Nat))) (hi : i ≤ l.length) (ht : SlT P T e 1)
    (hm : MkT P e (.int .i64 0) 1 by') (hd : Nat.blt d st.n = true)
    (hk : aL P cx ops Q rest ((st.set id (.row e 1 (intc (l.take i ++ List.replicate (l.length - i) 0)))).put d .any)) :
    aL P cx ops Q (⟨some d, .slice T x (some lo) none none, ty, pos, af, none⟩ :: ⟨none, .call ⟨.builtin .clear, #[.tmp d], #[T]⟩, ty', pos', af', none⟩ :: rest) st := by
  intro a w hr
  obtain ⟨ρ, hb, hf, h0⟩ := hr.base
  have hg := hb.ev x
  rw [hx] at hg
  obtain ⟨v, n', us, h1, h2, h3, h4⟩ := hb.good.sat id _ ho
  obtain ⟨lv, hl⟩ := hg.own_inv
  rw [h1] at hl
  obtain ⟨hv, rfl⟩ := List.cons.inj (Option.some.inj hl)
  have hid := (List.getElem?_eq_some_iff.1 ho).1
  obtain ⟨t1, t2⟩ := slT_elemJ ht
  have hz : (sizeOf (P.elem T)).run P w = .ok 1 w := by rw [t1]; exact ht.2.run w
  have e2 := hb.evv hlo
  obtain ⟨inf, hin, hz1, hsz1, hby1⟩ := hm.info
  have hzv : ∀ w : World, (zeroValue e).run P w = .ok (.int .i64 0) w := fun w => by
    simp [zeroValue, typeInfo, hin, hz1]
  have hd' : d < st.n := by simpa [Nat.blt_eq] using hd
  have hlen1 : (intc l).length = l.length := by simp [intc]
  rw [hlen1] at h3
  have hul := h2.1
  have hid2 : ∀ b', Own ρ (st.objs.set id (.row e 1 (intc (l.take i ++ List.replicate (l.length - i) 0)))) b' → Own ρ st.objs b' := by
    rintro b' ⟨j, h⟩
    rcases foot_set hid h with ⟨rfl, _, l', h5, h6⟩ | ⟨_, h⟩
    · exact ⟨j, _, l', ho, rfl, h5, h6⟩
    · exact ⟨j, h⟩
  have key : ∃ v' w', (execOp a.eval ⟨some d, .slice T x (some lo) none none, ty, pos, af, none⟩).run P w = .ok (.value v') w ∧ (Builtin.clear_ #[T] ty' #[v']).run P w = .ok (.tuple #[]) w' ∧ Same (Own ρ st.objs) w w' ∧ Good ρ w' (st.objs.set id (.row e 1 (intc (l.take i ++ List.replicate (l.length - i) 0)))) := by
    rcases h2.2 with ⟨hvn, hn⟩ | ⟨b, cap, cur, hvn, hbase, hh, hnc, hcm, hcs, htk⟩
    · have e1 : a.eval x = .slice none 0 0 := hv.symm.trans hvn
      have hl0 : l.length = 0 := by omega
      obtain rfl : i = 0 := by omega
      refine ⟨.slice none 0 0, w, ?_, ?_, Same.refl _ _, ?_⟩
      · simp only [execOp, e1, e2, Option.map, run_sliceAt_slice w T _ _ _ _ t2, Sem.run_bind, run_slice_l w T none 0 0 t2 .i64 ((0 : Nat) : Int) (by omega) (by omega), hz, Result.andThen_ok, Sem.run_pure]
        rfl
      · simp [Builtin.clear_, run_underlying ht.1]
      · rw [List.length_eq_zero_iff.1 hl0] at ho ⊢
        have : st.objs.set id (.row e 1 (intc ([].take 0 ++ List.replicate ([] : List Int).length 0))) = st.objs := by
          show st.objs.set id (.row e 1 (intc [])) = st.objs
          apply List.ext_getElem?
          intro j
          by_cases hj : j = id
          · subst hj; rw [List.getElem?_set_self hid, ho]
          · rw [List.getElem?_set_ne (Ne.symm hj)]
        simp only [List.length_nil, Nat.sub_zero] at *
        rw [this]; exact hb.good
    · have e1 : a.eval x = .slice (some ⟨b, 0, none⟩) n' cap := hv.symm.trans hvn
      have hn' : n' = l.length := by omega
      subst hn'
      by_cases hil : i = l.length
      · subst hil
        refine ⟨sliced (some ⟨b, 0, none⟩) l.length l.length cap 1, w, ?_, ?_, Same.refl _ _, ?_⟩
        · simp only [execOp, e1, e2, Option.map, run_sliceAt_slice w T _ _ _ _ t2, Sem.run_bind, run_slice_l w T (some ⟨b, 0, none⟩) l.length cap t2 .i64 ((l.length : Nat) : Int) (by omega) (by omega), hz, Result.andThen_ok, Sem.run_pure]
          simp
        · by_cases hcl : cap = l.length <;> simp [Builtin.clear_, run_underlying ht.1, sliced, hcl]
        · have : st.objs.set id (.row e 1 (intc (l.take l.length ++ List.replicate (l.length - l.length) 0))) = st.objs := by
            rw [Nat.sub_self, List.take_length, List.replicate_zero, List.append_nil]
            apply List.ext_getElem?
            intro j
            by_cases hj : j = id
            · subst hj; rw [List.getElem?_set_self hid, ho]
            · rw [List.getElem?_set_ne (Ne.symm hj)]
          rw [this]; exact hb.good
      · have hlt : i < l.length := by omega
        have hcur : cur.toList.take l.length = us := by simpa using htk
        have hcl : l.length ≤ cur.size := by rw [hcs]; omega
        have hrun := run_storeCells_at P b i e (List.replicate (l.length - i) (.int .i64 0)) 0 cur w hh (by simp; omega) (by intro v' hv'; rw [List.eq_of_mem_replicate hv']; rfl)
        have hzc : (Builtin.zeroCells (Value.int .i64 0).cells (l.length - i)).toList = List.replicate (l.length - i) (.int .i64 0) := by
          rw [show (Value.int .i64 0).cells = #[Value.int .i64 0] from rfl]
          simp only [Builtin.zeroCells]
          apply List.ext_getElem
          · simp
          · intro i h1 h2
            simp [Nat.mod_one]
        generalize hnew : cur.toList.take (i + 0) ++ List.replicate (l.length - i) (Value.int .i64 0) ++ cur.toList.drop (i + 0 + (List.replicate (l.length - i) (Value.int .i64 0)).length) = nw at *
        have hnwl : nw.length = cur.size := by
          rw [← hnew]; simp; omega
        have hsm : Same (fun x => x = b) w (w.setRow b nw.toArray) := ⟨rfl, rfl, rfl, by simp, fun k _ hn => setRow_other w b k _ hn⟩
        have hheap := setRow_heap w b cur nw.toArray e (0, 0) hh
        have turn := hb.good.turn (o' := .row e 1 (intc (l.take i ++ List.replicate (l.length - i) 0))) ho rfl h1 (b := b) (by rw [hvn]; rfl) hsm
        generalize hw : w.setRow b nw.toArray = w' at *
        have hsm' : Same (Own ρ st.objs) w w' := ⟨hsm.os, hsm.tape, hsm.output, hsm.size, fun k hk hn => hsm.block k hk (fun e => hn (e ▸ ⟨id, _, _, ho, rfl, h1, _, List.mem_singleton.2 rfl, by rw [hvn]; rfl⟩))⟩
        have htake : nw.take l.length = us.take i ++ List.replicate (l.length - i) (.int .i64 0) := by
          rw [← hnew, ← hcur]
          simp only [Nat.add_zero, List.length_replicate]
          rw [List.take_append_of_le_length (by simp; omega), List.take_of_length_le (by simp; omega), List.take_take, Nat.min_eq_left (by omega)]
        have hfin := turn (sat_row h1 (us := us.take i ++ List.replicate (l.length - i) (.int .i64 0)) ⟨by simp; omega, .inr ⟨b, cap, nw.toArray, hvn, Nat.zero_le _, hheap, hnc, hcm, by simpa [hnwl] using hcs, by simpa using htake⟩⟩ (by simp [intc]; omega) fun j dt' hj => by
          by_cases hji : j < i
          · rw [List.getElem?_append_left (by simp; omega), List.getElem?_take, if_pos hji]
            have : (intc l)[j]? = some dt' := by
              rw [← hj]; simp [intc, List.getElem?_append, List.getElem?_take, hji]; omega
            obtain ⟨u, hu, hr⟩ := h4 j dt' this
            exact ⟨u, hu, hr.mono hsm'.ban (Ban.mono fun b' _ h => hid2 b' h)⟩
          · have hjl := (List.getElem?_eq_some_iff.1 hj).1
            simp [intc] at hjl
            refine ⟨.int .i64 0, by rw [List.getElem?_append_right (by simp; omega), List.getElem?_replicate, if_pos (by simp; omega)], ?_⟩
            have : dt' = .val (.int .i64 0) := by
              simp only [intc, List.map_append, List.map_replicate] at hj
              rw [List.getElem?_append_right (by simp; omega), List.getElem?_replicate] at hj
              split at hj
              · exact (Option.some.inj hj).symm
              · cases hj
            rw [this]; exact .val _)
        refine ⟨sliced (some ⟨b, 0, none⟩) i l.length cap 1, w', ?_, ?_, hsm', hfin.1⟩
        · simp only [execOp, e1, e2, Option.map, run_sliceAt_slice w T _ _ _ _ t2, Sem.run_bind, run_slice_l w T (some ⟨b, 0, none⟩) l.length cap t2 .i64 ((i : Nat) : Int) (by omega) (by omega), hz, Result.andThen_ok, Sem.run_pure]
          simp
        · have hci : ¬ cap = i := by omega
          obtain ⟨m, hm'⟩ : ∃ m, l.length - i = m + 1 := ⟨l.length - i - 1, by omega⟩
          have hadd : (Addr.mk b 0 none).add i = ⟨b, i, none⟩ := by
            simp [Addr.add]
            try omega
          rw [hm'] at hzc hrun
          simp [Builtin.clear_, run_underlying ht.1, sliced, hci, hm', t1, hzv, hzc, hrun, hadd]
  obtain ⟨v', w', hr1, hr2, hsm, hgood⟩ := key
  unfold wpList
  rw [if_pos (by simp [Region.wanted])]
  left
  unfold Oper.wp
  rw [hr1]
  show wpList P ops (lift cx Q) _ (a.put (some d) v') w
  unfold wpList
  rw [if_pos (by simp [Region.wanted])]
  left
  unfold Oper.wp
  have hev : (a.put (some d) v').eval (.tmp d) = v' := by
    have := hb.size
    simp [Act.eval, Act.put, this, hd']
  rw [show (execOp (a.put (some d) v').eval ⟨none, .call ⟨.builtin .clear, #[.tmp d], #[T]⟩, ty', pos', af', none⟩).run P w = .ok (.value (.tuple #[])) w' from ?_]
  · refine hk _ _ (Rel.step hr hf h0 hsm (fun _ _ h => h) (st2 := (st.set id (.row e 1 (intc (l.take i ++ List.replicate (l.length - i) 0)))).put d .any) (fun b' _ h => hid2 b' h) (RelB.put (st := st.set id _) ⟨fun t => ?_, hb.size, hb.defers, hgood⟩ hd (.any _)))
    exact (hb.frame t).ext hsm (fun _ _ h => h) (fun b' _ h => hid2 b' h)
  · simp [execOp, resolve, invoke, builtin, hev, hr2]
end
section
variable {P : Program} {k : Nat} {cx : Cx k} {ops : Array Oper} {Q : Exit → St → Prop} {rest : List Oper} {ty : TypeId} {pos : String} {af : Array Edge} {n : Nat} {vars : List (Nat × AV)} {objs objs' : List AO} {d m : Nat}
theorem w_cutN [Zs] {T e : TypeId} {id kk : Nat} {x hi : Operand} {l : List Int} {r : List Int} {i : Int} (hx : (⟨n, vars, objs⟩ : St).ev x = .own id) (hob : objs[id]? = some (.row e 1 (intc l))) (hi' : (⟨n, vars, objs⟩ : St).ev hi = .val (.int .i64 i)) (hik : i = (kk : Nat)) (hkk : kk ≤ l.length) (hr : l.take kk = r) (ht : SlT P T e 1)
    (ho : objs.set id .gone ++ [.row e 1 (intc r)] = objs') (hm : objs.length = m) (hd : Nat.blt d n = true) (hk : aL P cx ops Q rest ⟨n, (d, .own m) :: vars, objs'⟩) :
    aL P cx ops Q (⟨some d, .slice T x none (some hi) none, ty, pos, af, none⟩ :: rest) ⟨n, vars, objs⟩ := by
  subst ho; subst hm; subst hik; subst hr
  refine l_cutN (n := 0) (kk := kk) hx hob hi' (by simp [intc]; omega) (by decide) ht hd ?_
  have : (intc l).take (kk * 1) = intc (l.take kk) := by rw [Nat.mul_one]; simp [intc, List.map_take]
  rw [this]
  exact hk
theorem w_clr [Zs] {T e : TypeId} {id i by' : Nat} {ty' : TypeId} {pos' : String} {af' : Array Edge} {x lo : Operand} {l r : List Int} {I : Int} (hx : (⟨n, vars, objs⟩ : St).ev x = .own id) (hob : objs[id]? = some (.row e 1 (intc l))) (hlo : (⟨n, vars, objs⟩ : St).ev lo = .val (.int .i64 I)) (hI : I = (i : Nat)) (hi : i ≤ l.length) (ht : SlT P T e 1)
    (hm : MkT P e (.int .i64 0) 1 by') (hr : l.take i ++ List.replicate (l.length - i) 0 = r) (ho : objs.set id (.row e 1 (intc r)) = objs') (hd : Nat.blt d n = true) (hk : aL P cx ops Q rest ⟨n, (d, .any) :: vars, objs'⟩) :
    aL P cx ops Q (⟨some d, .slice T x (some lo) none none, ty, pos, af, none⟩ :: ⟨none, .call ⟨.builtin .clear, #[.tmp d], #[T]⟩, ty', pos', af', none⟩ :: rest) ⟨n, vars, objs⟩ := by
  subst ho; subst hI; subst hr
  exact l_clr hx hob hlo hi ht hm hd hk
end
section
variable {P : Program} {st : St} {d : Option Tmp} {ty : TypeId} {pos : String} {af : Array Edge} {g : Option (Nat × Bool)}
end
end Go.Proofs.Ytfjpgficpdbelaa
