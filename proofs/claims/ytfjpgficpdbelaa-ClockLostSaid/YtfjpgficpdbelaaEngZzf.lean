import Derived.Test.YtfjpgficpdbelaaEngZx
import Derived.Test.YtfjpgficpdbelaaEngZm
import Derived.ArgAppend
set_option linter.unusedSimpArgs false
set_option linter.unusedVariables false
set_option linter.unusedSectionVars false
namespace Go.Proofs.Ytfjpgficpdbelaa
open Go.RowKit
def capD (cs : List Dat) : FnD := ⟨fun w M v => Rd w M v (.sl 1 cs) ∧ v.oneCell' = true ∧ ∃ a, v = .slice a cs.length cs.length, fun _ _ _ h => h.2.1, fun _ _ _ _ _ hs hM h => ⟨h.1.mono hs hM, h.2⟩⟩
section
variable {P : Program} {st : St} {d : Option Tmp} {ty : TypeId} {pos : String} {af : Array Edge} {g : Option (Nat × Bool)}
theorem P_slice3 {x hi mx : Operand} {T e : TypeId} {l : List Int} {i : Int} {k : Nat} (hx : st.ev x = ints l) (hi' : st.ev hi = .val (.int .i64 i)) (hm' : st.ev mx = .val (.int .i64 i)) (hk : i = (k : Int)) (hkl : k ≤ l.length) (ht : SlT P T e 1) :
    POp P ⟨d, .slice T x none (some hi) (some mx), ty, pos, af, g⟩ st (.ro (.fn (capD (intc (l.take k))))) := fun _ ρ w a hr => by
    have hg := hr.ev x
    rw [hx] at hg
    have hrd : Rd w (Ban ρ st.objs) (a.eval x) (.sl 1 (intc l)) := hg.ro_inv
    have hn : (intc l).length = l.length := by rw [intc_len, Nat.mul_one]
    have htk : intc (l.take k) = (intc l).take k := by simp [intc, List.map_take]
    have htl : (intc (l.take k)).length = k := by rw [htk, List.length_take]; omega
    obtain ⟨h1, h2⟩ := slT_elem ht
    rw [htk] at htl ⊢
    generalize intc l = cs at *
    obtain ⟨u, hu⟩ : ∃ u, a.eval x = u := ⟨_, rfl⟩
    rw [hu] at hrd
    subst hk
    cases hrd with
    | nil _ =>
      rw [List.length_nil] at hn
      have hk0 : k = 0 := by omega
      subst hk0
      refine ⟨.slice none 0 0, .ro _ _ (.fn _ _ ⟨by rw [List.take_nil]; exact .nil 1, rfl, none, by rw [List.take_nil]; rfl⟩), fun w1 => ?_⟩
      have hz : (sizeOf (P.elem T)).run P w1 = .ok 1 w1 := by rw [h1]; exact ht.2.run w1
      simp only [execOp, hu, hr.evv hi', hr.evv hm', Option.map, run_sliceAt_slice w1 T _ _ _ _ h2, Sem.run_bind, run_slice_hm w1 T none 0 0 h2 .i64 .i64 ((0 : Nat) : Int) ((0 : Nat) : Int) (by omega) (by omega) (by omega), hz, Result.andThen_ok, Sem.run_pure]
      rfl
    | sl ad n' cap _ _ us hn' hsp hM hc hd =>
      have hnn : l.length = n' := by omega
      have hz : ∀ w1, (sizeOf (P.elem T)).run P w1 = .ok 1 w1 := fun w1 => by rw [h1]; exact ht.2.run w1
      refine ⟨.slice (if k = 0 then some ad else some (ad.add 0)) k k, .ro _ _ (.fn _ _ ⟨?_, rfl, _, by rw [htl]⟩), fun w1 => ?_⟩
      · by_cases hck : k = 0
        · rw [if_pos hck]
          subst hck
          rw [List.take_zero]
          exact .sl ad 0 0 1 [] us rfl (Nat.le_refl _) (fun j hj => absurd hj (Nat.not_lt_zero j)) (fun j d hj => by simp at hj) (fun j d hj => by simp at hj)
        · rw [if_neg hck]
          have hb' : (ad.add 0).block = ad.block := by unfold Addr.add; split <;> rfl
          refine .sl (ad.add 0) k k 1 _ us (by rw [htl, Nat.mul_one]) (Nat.le_refl _) (fun j hj => by rw [hb']; exact hM j (by omega)) (fun j dt hj => ?_) (fun j dt hj => ?_)
          · rw [List.getElem?_take] at hj
            split at hj
            · rw [add_add', Nat.zero_add]; exact hc j dt hj
            · cases hj
          · rw [List.getElem?_take] at hj
            split at hj
            · exact hd j dt hj
            · cases hj
      · simp only [execOp, hu, hr.evv hi', hr.evv hm', Option.map, run_sliceAt_slice w1 T _ _ _ _ h2, Sem.run_bind, run_slice_hm w1 T (some ad) n' cap h2 .i64 .i64 ((k : Nat) : Int) ((k : Nat) : Int) (by omega) (by omega) (by omega), hz, Result.andThen_ok, Sem.run_pure, sliced]
        simp
theorem F_slice3 {x hi mx : Operand} {T e : TypeId} {l : List Int} {i : Int} {k : Nat} (hx : st.ev x = ints l) (hi' : st.ev hi = .val (.int .i64 i)) (hm' : st.ev mx = .val (.int .i64 i)) (hk : i = (k : Int)) (hkl : k ≤ l.length) (ht : SlT P T e 1) :
    FOp P ⟨d, .slice T x none (some hi) (some mx), ty, pos, af, g⟩ st (.ro (.fn (capD (intc (l.take k))))) := POp.f (P_slice3 hx hi' hm' hk hkl ht)
end
section
variable {P : Program} {k : Nat} {cx : Cx k} {ops : Array Oper} {Q : Exit → St → Prop} {st : St} {rest : List Oper} {ty : TypeId} {pos : String} {af : Array Edge}
/-- append(s[:k:k], xs...), s only read, xs not empty: a new row. -/
theorem l_apcap [Zs] {d : Tmp} {T e : TypeId} {by' : Nat} {z : Value} {x y : Operand} {cs cs2 : List Dat} {cl : Callee} {ats : Array TypeId} (hcl : cl = .builtin .append) (hats : ats = #[T, T]) (hx : st.ev x = .ro (.fn (capD cs)))
    (hy : SrcD st 1 (st.ev y) cs2) (ht : SlT P T e 1) (hm : MkT P e z 1 by') (hz : z.cells.size = 1) (h0 : 0 < cs2.length) (hone : ∀ dt ∈ cs2, dt.one = true)
    (hpos : 0 < by') (hbig : (cs.length + cs2.length) * by' ≤ 140737488355328) (hd : Nat.blt d st.n = true)
    (hk : aL P cx ops Q rest ((st.add (.row e 1 (cs ++ cs2))).put d (.own st.objs.length))) : aL P cx ops Q (⟨some d, .call ⟨cl, #[x, y], ats⟩, ty, pos, af, none⟩ :: rest) st := by
  subst hcl; subst hats
  refine l_step (st2 := st.add (.row e 1 (cs ++ cs2))) (av := .own st.objs.length) hd rfl ?_ rfl hk
  intro ρ w a hb
  obtain ⟨i, hi, hz1, hsz1, hby1⟩ := hm.info
  have hg := hb.ev x
  rw [hx] at hg
  obtain ⟨hrd, _, a0, ha0⟩ := hg.ro_inv.fn_inv rfl
  have hsmall : cs.length + cs2.length ≤ 140737488355328 := Nat.le_trans (Nat.le_mul_of_pos_right _ hpos) hbig
  have hres : ∃ v' w' us', (Builtin.append_ #[T, T] ty #[a.eval x, a.eval y]).run P w = .ok v' w' ∧ w'.ownsRow 0 e 1 v' (cs.length + cs2.length) us' ∧ w.grownBy w' none ∧ us'.length = (cs ++ cs2).length ∧ (∀ b, ablk v' = some b → w.heap.size ≤ b) ∧
      v'.oneCell' = true ∧ ∀ (i : Nat) (dt : Dat), (cs ++ cs2)[i]? = some dt → ∃ u, us'[i]? = some u ∧ Rd w (Ban ρ st.objs) u dt := by
    rcases src_vals hb hy with ⟨_, rfl⟩ | ⟨ad, m', c, us2, hy1, hm3, hl2, hc2, hr2⟩
    · exact absurd h0 (Nat.lt_irrefl 0)
    · have hmm : cs2.length = m' := by omega
      subst hmm
      have h1c : ∀ u ∈ us2, u.oneCell' = true := by
        intro u hu
        obtain ⟨j, hj, rfl⟩ := List.getElem_of_mem hu
        obtain ⟨u', hu', hr', _⟩ := hr2 j _ (List.getElem?_eq_getElem (by omega))
        rw [List.getElem?_eq_getElem hj] at hu'
        obtain rfl := Option.some.inj hu'
        exact hr'.one (hone _ (List.getElem_mem _))
      obtain ⟨u, hu⟩ : ∃ u, a.eval x = u := ⟨_, rfl⟩
      rw [hu] at hrd ha0 ⊢
      rw [hy1]
      cases hrd with
      | nil _ =>
        obtain ⟨v', w', hrun, how, hgr, _⟩ := run_append_own (P := P) w 0 T ty e i z 1 by' ht.1 hi hz1 hsz1 hby1 hz (by decide) (.slice none 0 0) 0 [] ⟨rfl, .inl ⟨rfl, rfl⟩⟩ ad cs2.length c us2 (by rw [hl2, Nat.mul_one]) hc2 h1c (by unfold maxLen; simp at hsmall; omega) (by simpa using hbig) (Nat.zero_le _)
        refine ⟨v', w', us2, hrun, by simpa using how, hgr, by simpa using hl2, fun b hb' => ?_, ?_, fun j dt hj => ?_⟩
        · have h5 := run_append_nil (P := P) w T ty e i z ht.1 hi hz1 ad cs2.length c us2 (by rw [hl2, hsz1, Nat.mul_one]) hc2 h0 (by simp at hsmall; omega) (by rw [hby1]; simp at hbig; omega)
          rw [hrun] at h5
          simp only [Result.ok.injEq] at h5
          obtain ⟨rfl, _⟩ := h5
          cases hb'
          exact Nat.le_refl _
        · rcases how.2 with ⟨rfl, _⟩ | ⟨b', cap, cur, rfl, _⟩ <;> rfl
        · rw [List.nil_append] at hj
          obtain ⟨u, hu, _, hr⟩ := hr2 _ dt hj
          exact ⟨u, hu, hr⟩
      | sl ad0 n' cap _ _ us hn' hsp hM hc hr =>
        have hcap : n' = cs.length ∧ cap = cs.length := by
          cases ha0; exact ⟨rfl, rfl⟩
        obtain ⟨rfl, rfl⟩ := hcap
        have hol : ((List.range cs.length).map us).length = cs.length * 1 := by simp
        obtain ⟨v', w', hrun, how, hgr⟩ := run_append_arg_grows (P := P) (w := w) T ty e i z 1 by' ht.1 hi hz1 hsz1 hby1 hz (by decide) ad0 cs.length cs.length ((List.range cs.length).map us) hol (fun j v hv => by
          simp only [List.getElem?_map, Option.map_eq_some_iff] at hv
          obtain ⟨j', h1, rfl⟩ := hv
          have hj : j < cs.length := by simpa using (List.getElem?_eq_some_iff.1 h1).1
          obtain rfl : j = j' := by simpa [hj] using h1
          exact hc j _ (List.getElem?_eq_getElem hj)) ad cs2.length c us2 (by rw [hl2, Nat.mul_one]) hc2 (by omega) (by unfold maxLen; omega) hbig
        have hnew : ∀ b, ablk v' = some b → w.heap.size ≤ b := fun b hb' => by
          rcases how.2 with ⟨rfl, _⟩ | ⟨b', cap, cur, rfl, hbase, _⟩
          · cases hb'
          · cases hb'; exact hbase
        refine ⟨v', w', _, hrun, ⟨how.1, ?_⟩, hgr, by simp [hl2], hnew, ?_, fun j dt hj => ?_⟩
        · rcases how.2 with h | ⟨b', cap, cur, h1, _, h2⟩
          · exact .inl h
          · exact .inr ⟨b', cap, cur, h1, Nat.zero_le _, h2⟩
        · rcases how.2 with ⟨rfl, _⟩ | ⟨b', cap, cur, rfl, _⟩ <;> rfl
        · by_cases hlt : j < cs.length
          · rw [List.getElem?_append_left hlt] at hj
            exact ⟨us j, by rw [List.getElem?_append_left (by simpa using hlt)]; simp [hlt], hr j dt hj⟩
          · rw [List.getElem?_append_right (by omega)] at hj
            obtain ⟨u, hu, _, hr⟩ := hr2 _ dt hj
            exact ⟨u, by rw [List.getElem?_append_right (by simpa using Nat.le_of_not_lt hlt)]; simpa using hu, hr⟩
  obtain ⟨v', w', us', hrun, how, hgr, hlen, hblk, hone', hrd'⟩ := hres
  have hbel : Below w.heap.size w w' := ⟨hgr.os, hgr.tape, hgr.output, hgr.size, fun k hk => hgr.block k hk (by simp)⟩
  have happ := app_one hb.good (o := .row e 1 (cs ++ cs2)) (v := v') hbel hblk fun hnew hM =>
    sat_row hnew how hlen fun j dt hj => by
      obtain ⟨u, hu, hr⟩ := hrd' j dt hj
      exact ⟨u, hu, hr.mono (Same.of_below hbel (Own ρ st.objs)).ban (Ban.mono hM)⟩
  refine ⟨v', w', _, ?_, happ.1, happ.2.1, happ.2.2.1, happ.2.2.2, .own _ _ [] (new_id hb.good.len _) hone'⟩
  simp [execOp, resolve, invoke, builtin, hrun]
end
section
variable {P : Program} {k : Nat} {cx : Cx k} {ops : Array Oper} {Q : Exit → St → Prop} {rest : List Oper} {ty : TypeId} {pos : String} {af : Array Edge} {n : Nat} {vars : List (Nat × AV)} {objs objs' : List AO} {d m : Nat}
theorem w_apcap [Zs] {T e : TypeId} {x y : Operand} {id2 : Nat} {l r : List Int} {e2 : TypeId} (hx : (⟨n, vars, objs⟩ : St).ev x = .ro (.fn (capD (intc l)))) (hy : (⟨n, vars, objs⟩ : St).ev y = .own id2) (hob2 : objs[id2]? = some (.row e2 1 (intc r))) (h0 : 0 < r.length)
    (ht : SlT P T e 1) (hmk : MkT P e (.int .i64 0) 1 8) (hbig : l.length + r.length ≤ 10000000000) (ho : objs ++ [.row e 1 (intc (l ++ r))] = objs') (hm : objs.length = m) (hd : Nat.blt d n = true)
    (hk : aL P cx ops Q rest ⟨n, (d, .own m) :: vars, objs'⟩) : aL P cx ops Q (⟨some d, .call ⟨.builtin .append, #[x, y], #[T, T]⟩, ty, pos, af, none⟩ :: rest) ⟨n, vars, objs⟩ := by
  subst ho; subst hm
  have e1 : intc (l ++ r) = intc l ++ intc r := by simp [intc]
  have l1 : (intc l).length = l.length := intc_len' l
  have l2 : (intc r).length = r.length := intc_len' r
  refine l_apcap (by' := 8) rfl rfl hx (.inr (.inl ⟨id2, e2, hy, hob2⟩)) ht hmk rfl (by omega) (fun dt hdt => ?_) (by decide) (by omega) hd ?_
  · unfold intc at hdt
    obtain ⟨v, _, rfl⟩ := List.mem_map.1 hdt
    rfl
  · rw [e1] at hk
    exact hk
end
end Go.Proofs.Ytfjpgficpdbelaa
