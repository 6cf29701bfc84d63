import Derived.Test.YtgojkabjgagjcaaEngZd
import Derived.Test.YtgojkabjgagjcaaEngZf
import Derived.Test.YtgojkabjgagjcaaEngZzj
import Derived.Laws.CopyRow
set_option linter.unusedSimpArgs false
set_option linter.unusedVariables false
set_option linter.unusedSectionVars false
namespace Go.Proofs.Ytgojkabjgagjcaa
open Go.RowKit
theorem set2 {α : Type} : ∀ (l : List α) (o : Nat) (u v : α), o + 1 < l.length → l.take (o + 0) ++ [u, v] ++ l.drop (o + 0 + [u, v].length) = (l.set o u).set (o + 1) v
  | x :: y :: r, 0, u, v, _ => rfl
  | [x], 0, u, v, h => by simp at h
  | x :: r, o + 1, u, v, h => by
    have := set2 r o u v (by simpa using h)
    simp only [List.set_cons_succ, ← this, List.take_succ_cons, List.cons_append, Nat.add_zero]
    congr 2
  | [], o, u, v, h => by simp at h
section
variable {P : Program} {k : Nat} {cx : Cx k} {ops : Array Oper} {Q : Exit → St → Prop} {rest : List Oper} {st : St} {d : Option Tmp} {ty : TypeId} {pos : String} {af : Array Edge} {g : Option (Nat × Bool)}
/-- A store of two cells into an own row. -/
theorem l_store_eptP [Zs] {T : TypeId} {x y : Operand} {id o : Nat} {e : TypeId} {sz : Nat} {cs : List Dat} {u0 u1 : Value} (hx : st.ev x = .ept id o) (ho : st.objs[id]? = some (.row e sz cs)) (hlt : o + 1 < cs.length) (hy : st.ev y = .agg [.val u0, .val u1]) (h1 : u0.oneCell' = true) (h2 : u1.oneCell' = true) (ht : SzOf P T 2)
    (hk : aL P cx ops Q rest (st.set id (.row e sz ((cs.set o (.val u0)).set (o + 1) (.val u1))))) : aL P cx ops Q (⟨none, .store T x y, ty, pos, af, none⟩ :: rest) st := by
  refine l_skip (st2 := st.set id (.row e sz ((cs.set o (.val u0)).set (o + 1) (.val u1)))) rfl ?_ rfl hk
  intro ρ w a hb
  have hg := hb.ev x
  rw [hx] at hg
  obtain ⟨b, n, cap, l, he, hl⟩ := hg.ept_inv
  obtain ⟨v, n', us, hρ, how, hlen, hcs⟩ := hb.good.sat id _ ho
  rw [hρ] at hl
  obtain ⟨rfl, rfl⟩ := List.cons.inj (Option.some.inj hl)
  have hgy := hb.ev y
  rw [hy] at hgy
  obtain ⟨vs, hvs, hvl, hvg⟩ := hgy.agg_inv
  have hv0 : vs = #[u0, u1] := by
    have hs : vs.size = 2 := hvl.symm
    apply Array.ext (by rw [hs]; rfl)
    intro i hi hi2
    have hi' : i < 2 := by omega
    rcases (by omega : i = 0 ∨ i = 1) with rfl | rfl
    · exact (hvg 0 _ _ rfl (Array.getElem?_eq_getElem hi)).val_inv
    · exact (hvg 1 _ _ rfl (Array.getElem?_eq_getElem hi)).val_inv
  subst hv0
  have hcells : (a.eval y).cells = #[u0, u1] := by
    rw [hvs]
    have e0 := cells_one h1
    have e1 := cells_one h2
    simp [Value.cells, e0, e1]
  rcases how.2 with ⟨hv, _⟩ | ⟨b', cap', cur, hv, _, hh, hnc, hcm, hcsz, htake⟩
  · cases hv
  cases hv
  have hous : o + 1 < us.length := by omega
  have hocur : o + 1 < cur.size := by
    have : us.length ≤ cur.size := by rw [← htake, List.length_take]; simp; omega
    omega
  have hrun := run_storeCells_at P b o e [u0, u1] 0 cur w hh (by simp; omega) (by simp [h1, h2])
  have hsm : Same (fun x => x = b) w (w.setRow b (cur.toList.take (o + 0) ++ [u0, u1] ++ cur.toList.drop (o + 0 + [u0, u1].length)).toArray) :=
    ⟨rfl, rfl, rfl, by simp, fun k _ hn => setRow_other w b k _ hn⟩
  have hheap := setRow_heap w b cur (cur.toList.take (o + 0) ++ [u0, u1] ++ cur.toList.drop (o + 0 + [u0, u1].length)).toArray e (0, 0) hh
  have hset : cur.toList.take (o + 0) ++ [u0, u1] ++ cur.toList.drop (o + 0 + [u0, u1].length) = (cur.toList.set o u0).set (o + 1) u1 := set2 _ _ _ _ (by simpa using hocur)
  rw [hset] at hsm hheap hrun
  have key := hb.good.turn (o' := .row e sz ((cs.set o (.val u0)).set (o + 1) (.val u1))) ho rfl hρ (b := b) rfl hsm
  generalize hw : w.setRow b ((cur.toList.set o u0).set (o + 1) u1).toArray = w' at *
  have hids : ∀ b', Own ρ (st.objs.set id (.row e sz ((cs.set o (.val u0)).set (o + 1) (.val u1)))) b' → Own ρ st.objs b' := by
    rintro b' ⟨i, h⟩
    rcases foot_set (List.getElem?_eq_some_iff.1 ho).1 h with ⟨rfl, _, l, h3, h4⟩ | ⟨_, h⟩
    · exact ⟨i, _, l, ho, rfl, h3, h4⟩
    · exact ⟨i, h⟩
  have hsm' : Same (Own ρ st.objs) w w' := ⟨hsm.os, hsm.tape, hsm.output, hsm.size, fun k hk hn => hsm.block k hk (fun e => hn (e ▸ ⟨id, _, _, ho, rfl, hρ, _, List.mem_singleton.2 rfl, rfl⟩))⟩
  have hrdm : ∀ {dt' : Dat} {v : Value}, Rd w (Ban ρ st.objs) v dt' → Rd w' (Ban ρ (st.objs.set id (.row e sz ((cs.set o (.val u0)).set (o + 1) (.val u1))))) v dt' := fun h => h.mono hsm'.ban (Ban.mono fun b' _ h => hids b' h)
  have hfin := key (sat_row hρ (us := (us.set o u0).set (o + 1) u1) ⟨by rw [List.length_set, List.length_set]; exact how.1, .inr ⟨b, cap, _, rfl, Nat.zero_le _, hheap, hnc, hcm, by simpa using hcsz, by
      simp only [List.take_set, htake]⟩⟩ (by simp [hlen]) fun i dt' hi => by
    rw [List.getElem?_set] at hi ⊢
    rw [List.length_set] at hi ⊢
    by_cases hi1 : o + 1 = i
    · rw [if_pos hi1, if_pos (by omega)] at hi ⊢
      obtain rfl := Option.some.inj hi
      exact ⟨u1, rfl, .val _⟩
    · rw [if_neg hi1] at hi ⊢
      rw [List.getElem?_set] at hi ⊢
      by_cases hi0 : o = i
      · rw [if_pos hi0, if_pos (by omega)] at hi ⊢
        obtain rfl := Option.some.inj hi
        exact ⟨u0, rfl, .val _⟩
      · rw [if_neg hi0] at hi ⊢
        obtain ⟨u, hu, hr⟩ := hcs i dt' hi
        exact ⟨u, hu, hrdm hr⟩)
  refine ⟨w', ρ, ?_, hsm', fun _ _ h => h, fun b' _ h => hids b' h, hfin.1⟩
  simp only [execOp, he, Instr.storeAt, Instr.sureAddr, storeVar, hcells, Sem.run_bind, Sem.run_pure, Result.andThen_ok, ht.run]
  simp [hrun]

/-- clear(s[i:]) where s is an own row of pairs. -/
theorem l_clrP [Zs] {d : Nat} {T e : TypeId} {id i by' : Nat} {ty' : TypeId} {pos' : String} {af' : Array Edge} {x lo : Operand} {l : List (Int × Int)} (hx : st.ev x = .own id) (ho : st.objs[id]? = some (.row e 2 (pairc l))) (hlo : st.ev lo = .val (.int .i64 (i : Nat))) (hi : i ≤ l.length) (ht : SlT P T e 2)
    (hm : MkT P e (.agg #[.int .i64 0, .int .i64 0]) 2 by') (hd : Nat.blt d st.n = true)
    (hk : aL P cx ops Q rest ((st.set id (.row e 2 ((pairc l).take (i * 2) ++ List.replicate ((l.length - i) * 2) (Dat.val (.int .i64 0))))).put d .any)) :
    aL P cx ops Q (⟨some d, .slice T x (some lo) none none, ty, pos, af, none⟩ :: ⟨none, .call ⟨.builtin .clear, #[.tmp d], #[T]⟩, ty', pos', af', none⟩ :: rest) st := by
  intro a w hr
  obtain ⟨ρ, hb, hf, h0⟩ := hr.base
  have hg := hb.ev x
  rw [hx] at hg
  obtain ⟨v, n', us, h1, h2, h3, h4⟩ := hb.good.sat id _ ho
  obtain ⟨lv, hl⟩ := hg.own_inv
  rw [h1] at hl
  obtain ⟨hv, rfl⟩ := List.cons.inj (Option.some.inj hl)
  have hid := (List.getElem?_eq_some_iff.1 ho).1
  obtain ⟨t1, t2⟩ := slT_elemJ ht
  have hz : (sizeOf (P.elem T)).run P w = .ok 2 w := by rw [t1]; exact ht.2.run w
  have e2 := hb.evv hlo
  obtain ⟨inf, hin, hz1, hsz1, hby1⟩ := hm.info
  have hzv : ∀ w : World, (zeroValue e).run P w = .ok (.agg #[.int .i64 0, .int .i64 0]) w := fun w => by
    simp [zeroValue, typeInfo, hin, hz1]
  have hd' : d < st.n := by simpa [Nat.blt_eq] using hd
  have hlen1 : (pairc l).length = l.length * 2 := pairc_len l
  rw [hlen1] at h3
  have hul := h2.1
  have hid2 : ∀ b', Own ρ (st.objs.set id (.row e 2 ((pairc l).take (i * 2) ++ List.replicate ((l.length - i) * 2) (Dat.val (.int .i64 0))))) b' → Own ρ st.objs b' := by
    rintro b' ⟨j, h⟩
    rcases foot_set hid h with ⟨rfl, _, l', h5, h6⟩ | ⟨_, h⟩
    · exact ⟨j, _, l', ho, rfl, h5, h6⟩
    · exact ⟨j, h⟩
  have key : ∃ v' w', (execOp a.eval ⟨some d, .slice T x (some lo) none none, ty, pos, af, none⟩).run P w = .ok (.value v') w ∧ (Builtin.clear_ #[T] ty' #[v']).run P w = .ok (.tuple #[]) w' ∧ Same (Own ρ st.objs) w w' ∧ Good ρ w' (st.objs.set id (.row e 2 ((pairc l).take (i * 2) ++ List.replicate ((l.length - i) * 2) (Dat.val (.int .i64 0))))) := by
    rcases h2.2 with ⟨hvn, hn⟩ | ⟨b, cap, cur, hvn, hbase, hh, hnc, hcm, hcs, htk⟩
    · have e1 : a.eval x = .slice none 0 0 := hv.symm.trans hvn
      have hl0 : l.length = 0 := by omega
      obtain rfl : i = 0 := by omega
      refine ⟨.slice none 0 0, w, ?_, ?_, Same.refl _ _, ?_⟩
      · simp only [execOp, e1, e2, Option.map, run_sliceAt_slice w T _ _ _ _ t2, Sem.run_bind, run_slice_l w T none 0 0 t2 .i64 ((0 : Nat) : Int) (by omega) (by omega), hz, Result.andThen_ok, Sem.run_pure]
        rfl
      · simp [Builtin.clear_, run_underlying ht.1]
      · have : st.objs.set id (.row e 2 ((pairc l).take (0 * 2) ++ List.replicate ((l.length - 0) * 2) (Dat.val (.int .i64 0)))) = st.objs := by
          obtain rfl := List.length_eq_zero_iff.1 hl0
          show st.objs.set id (.row e 2 (pairc [])) = st.objs
          apply List.ext_getElem?
          intro j
          by_cases hj : j = id
          · subst hj; rw [List.getElem?_set_self hid, ho]
          · rw [List.getElem?_set_ne (Ne.symm hj)]
        rw [this]; exact hb.good
    · have e1 : a.eval x = .slice (some ⟨b, 0, none⟩) n' cap := hv.symm.trans hvn
      have hn' : n' = l.length := by omega
      subst hn'
      by_cases hil : i = l.length
      · subst hil
        refine ⟨sliced (some ⟨b, 0, none⟩) l.length l.length cap 2, w, ?_, ?_, Same.refl _ _, ?_⟩
        · simp only [execOp, e1, e2, Option.map, run_sliceAt_slice w T _ _ _ _ t2, Sem.run_bind, run_slice_l w T (some ⟨b, 0, none⟩) l.length cap t2 .i64 ((l.length : Nat) : Int) (by omega) (by omega), hz, Result.andThen_ok, Sem.run_pure]
          simp
        · by_cases hcl : cap = l.length <;> simp [Builtin.clear_, run_underlying ht.1, sliced, hcl]
        · have : st.objs.set id (.row e 2 ((pairc l).take (l.length * 2) ++ List.replicate ((l.length - l.length) * 2) (Dat.val (.int .i64 0)))) = st.objs := by
            rw [Nat.sub_self, ← hlen1, List.take_length, Nat.zero_mul, List.replicate_zero, List.append_nil]
            apply List.ext_getElem?
            intro j
            by_cases hj : j = id
            · subst hj; rw [List.getElem?_set_self hid, ho]
            · rw [List.getElem?_set_ne (Ne.symm hj)]
          rw [this]; exact hb.good
      · have hlt : i < l.length := by omega
        have hcur : cur.toList.take (l.length * 2) = us := by simpa using htk
        have hcl : l.length * 2 ≤ cur.size := by rw [hcs]; omega
        have hrun := run_storeCells_at P b (i * 2) e (List.replicate ((l.length - i) * 2) (.int .i64 0)) 0 cur w hh (by simp; omega) (by intro v' hv'; rw [List.eq_of_mem_replicate hv']; rfl)
        have hzc : (Builtin.zeroCells (Value.agg #[.int .i64 0, .int .i64 0]).cells (l.length - i)).toList = List.replicate ((l.length - i) * 2) (.int .i64 0) := by
          rw [show (Value.agg #[.int .i64 0, .int .i64 0]).cells = #[Value.int .i64 0, Value.int .i64 0] by simp [Value.cells]]
          simp only [Builtin.zeroCells]
          apply List.ext_getElem
          · simp
          · intro i h1 h2
            have h3 : i % 2 < 2 := Nat.mod_lt _ (by decide)
            rcases (by omega : i % 2 = 0 ∨ i % 2 = 1) with h | h <;> simp [h]
        generalize hnew : cur.toList.take (i * 2 + 0) ++ List.replicate ((l.length - i) * 2) (Value.int .i64 0) ++ cur.toList.drop (i * 2 + 0 + (List.replicate ((l.length - i) * 2) (Value.int .i64 0)).length) = nw at *
        have hnwl : nw.length = cur.size := by
          rw [← hnew]; simp; omega
        have hsm : Same (fun x => x = b) w (w.setRow b nw.toArray) := ⟨rfl, rfl, rfl, by simp, fun k _ hn => setRow_other w b k _ hn⟩
        have hheap := setRow_heap w b cur nw.toArray e (0, 0) hh
        have turn := hb.good.turn (o' := .row e 2 ((pairc l).take (i * 2) ++ List.replicate ((l.length - i) * 2) (Dat.val (.int .i64 0)))) ho rfl h1 (b := b) (by rw [hvn]; rfl) hsm
        generalize hw : w.setRow b nw.toArray = w' at *
        have hsm' : Same (Own ρ st.objs) w w' := ⟨hsm.os, hsm.tape, hsm.output, hsm.size, fun k hk hn => hsm.block k hk (fun e => hn (e ▸ ⟨id, _, _, ho, rfl, h1, _, List.mem_singleton.2 rfl, by rw [hvn]; rfl⟩))⟩
        have htake : nw.take (l.length * 2) = us.take (i * 2) ++ List.replicate ((l.length - i) * 2) (.int .i64 0) := by
          rw [← hnew, ← hcur]
          simp only [Nat.add_zero, List.length_replicate]
          rw [List.take_append_of_le_length (by simp; omega), List.take_of_length_le (by simp; omega), List.take_take, Nat.min_eq_left (by omega)]
        have hfin := turn (sat_row h1 (us := us.take (i * 2) ++ List.replicate ((l.length - i) * 2) (.int .i64 0)) ⟨by simp; omega, .inr ⟨b, cap, nw.toArray, hvn, Nat.zero_le _, hheap, hnc, hcm, by simpa [hnwl] using hcs, by simpa using htake⟩⟩ (by simp [hlen1]; omega) fun j dt' hj => by
          by_cases hji : j < i * 2
          · rw [List.getElem?_append_left (by simp; omega), List.getElem?_take, if_pos hji]
            rw [List.getElem?_append_left (by rw [List.length_take, hlen1]; omega), List.getElem?_take, if_pos hji] at hj
            obtain ⟨u, hu, hr⟩ := h4 j dt' hj
            exact ⟨u, hu, hr.mono hsm'.ban (Ban.mono fun b' _ h => hid2 b' h)⟩
          · have hjl := (List.getElem?_eq_some_iff.1 hj).1
            simp [hlen1] at hjl
            refine ⟨.int .i64 0, by rw [List.getElem?_append_right (by simp; omega), List.getElem?_replicate, if_pos (by simp; omega)], ?_⟩
            have : dt' = .val (.int .i64 0) := by
              rw [List.getElem?_append_right (by rw [List.length_take, hlen1]; omega), List.getElem?_replicate] at hj
              split at hj
              · exact (Option.some.inj hj).symm
              · cases hj
            rw [this]; exact .val _)
        refine ⟨sliced (some ⟨b, 0, none⟩) i l.length cap 2, w', ?_, ?_, hsm', hfin.1⟩
        · simp only [execOp, e1, e2, Option.map, run_sliceAt_slice w T _ _ _ _ t2, Sem.run_bind, run_slice_l w T (some ⟨b, 0, none⟩) l.length cap t2 .i64 ((i : Nat) : Int) (by omega) (by omega), hz, Result.andThen_ok, Sem.run_pure]
          simp
        · have hci : ¬ cap = i := by omega
          obtain ⟨m, hm'⟩ : ∃ m, l.length - i = m + 1 := ⟨l.length - i - 1, by omega⟩
          have hadd : (Addr.mk b 0 none).add (i * 2) = ⟨b, i * 2, none⟩ := by
            simp [Addr.add]
            try omega
          rw [hm'] at hzc hrun
          simp [Builtin.clear_, run_underlying ht.1, sliced, hci, hm', t1, hzv, hzc, hrun, hadd]
  obtain ⟨v', w', hr1, hr2, hsm, hgood⟩ := key
  unfold wpList
  rw [if_pos (by simp [Region.wanted])]
  left
  unfold Oper.wp
  rw [hr1]
  show wpList P ops (lift cx Q) _ (a.put (some d) v') w
  unfold wpList
  rw [if_pos (by simp [Region.wanted])]
  left
  unfold Oper.wp
  have hev : (a.put (some d) v').eval (.tmp d) = v' := by
    have := hb.size
    simp [Act.eval, Act.put, this, hd']
  rw [show (execOp (a.put (some d) v').eval ⟨none, .call ⟨.builtin .clear, #[.tmp d], #[T]⟩, ty', pos', af', none⟩).run P w = .ok (.value (.tuple #[])) w' from ?_]
  · refine hk _ _ (Rel.step hr hf h0 hsm (fun _ _ h => h) (st2 := (st.set id (.row e 2 ((pairc l).take (i * 2) ++ List.replicate ((l.length - i) * 2) (Dat.val (.int .i64 0))))).put d .any) (fun b' _ h => hid2 b' h) (RelB.put (st := st.set id _) ⟨fun t => ?_, hb.size, hb.defers, hgood⟩ hd (.any _)))
    exact (hb.frame t).ext hsm (fun _ _ h => h) (fun b' _ h => hid2 b' h)
  · simp [execOp, resolve, invoke, builtin, hev, hr2]
end
section
variable {P : Program} {k : Nat} {cx : Cx k} {ops : Array Oper} {Q : Exit → St → Prop} {rest : List Oper} {ty : TypeId} {pos : String} {af : Array Edge} {n : Nat} {vars : List (Nat × AV)} {objs objs' : List AO} {d m : Nat}
theorem pairc_set (l : List (Int × Int)) (o : Nat) (a b : Int) : ((pairc l).set (o * 2) (.val (.int .i64 a))).set (o * 2 + 1) (.val (.int .i64 b)) = pairc (l.set o (a, b)) := by
  induction l generalizing o with
  | nil => rfl
  | cons p r ih =>
    cases o with
    | zero => rfl
    | succ o =>
      have e : (o + 1) * 2 = o * 2 + 1 + 1 := by omega
      rw [e]
      show Dat.val (.int .i64 p.1) :: Dat.val (.int .i64 p.2) :: ((pairc r).set (o * 2) (.val (.int .i64 a))).set (o * 2 + 1) (.val (.int .i64 b)) = _
      rw [ih]; rfl
theorem w_stP [Zs] {T e : TypeId} {x y : Operand} {id o : Nat} {l : List (Int × Int)} {a b : Int} (hx : (⟨n, vars, objs⟩ : St).ev x = .ept id (o * 2)) (hob : objs[id]? = some (.row e 2 (pairc l))) (hlt : o < l.length) (hy : (⟨n, vars, objs⟩ : St).ev y = .agg [.val (.int .i64 a), .val (.int .i64 b)]) (ht : SzOf P T 2)
    (ho : objs.set id (.row e 2 (pairc (l.set o (a, b)))) = objs') (hk : aL P cx ops Q rest ⟨n, vars, objs'⟩) : aL P cx ops Q (⟨none, .store T x y, ty, pos, af, none⟩ :: rest) ⟨n, vars, objs⟩ := by
  subst ho
  refine l_store_eptP hx hob (by rw [pairc_len]; omega) hy rfl rfl ht ?_
  rw [pairc_set]
  exact hk
theorem w_clrP [Zs] {T e : TypeId} {id i by' : Nat} {ty' : TypeId} {pos' : String} {af' : Array Edge} {x lo : Operand} {l : List (Int × Int)} {r : List (Int × Int)} {I : Int} (hx : (⟨n, vars, objs⟩ : St).ev x = .own id) (hob : objs[id]? = some (.row e 2 (pairc l))) (hlo : (⟨n, vars, objs⟩ : St).ev lo = .val (.int .i64 I)) (hI : I = (i : Nat)) (hi : i ≤ l.length) (ht : SlT P T e 2)
    (hm : MkT P e (.agg #[.int .i64 0, .int .i64 0]) 2 by') (hr : l.take i ++ List.replicate (l.length - i) (0, 0) = r) (ho : objs.set id (.row e 2 (pairc r)) = objs') (hd : Nat.blt d n = true) (hk : aL P cx ops Q rest ⟨n, (d, .any) :: vars, objs'⟩) :
    aL P cx ops Q (⟨some d, .slice T x (some lo) none none, ty, pos, af, none⟩ :: ⟨none, .call ⟨.builtin .clear, #[.tmp d], #[T]⟩, ty', pos', af', none⟩ :: rest) ⟨n, vars, objs⟩ := by
  subst ho; subst hI; subst hr
  refine l_clrP hx hob hlo hi ht hm hd ?_
  have e1 : (pairc l).take (i * 2) ++ List.replicate ((l.length - i) * 2) (Dat.val (.int .i64 0)) = pairc (l.take i ++ List.replicate (l.length - i) (0, 0)) := by
    rw [← pairc_app, pairc_takeK]
    congr 1
    generalize l.length - i = q
    induction q with
    | zero => rfl
    | succ q ih => rw [List.replicate_succ, show (q + 1) * 2 = q * 2 + 1 + 1 by omega, List.replicate_succ, List.replicate_succ, ih]; rfl
  rw [e1]
  exact hk
end
end Go.Proofs.Ytgojkabjgagjcaa
