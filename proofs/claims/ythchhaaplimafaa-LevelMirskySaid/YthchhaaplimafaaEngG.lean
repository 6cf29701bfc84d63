/- Appending; stores into an own row; stores of structs; literals of structs; function values; calls. -/
import Derived.Test.YthchhaaplimafaaEngF
set_option linter.unusedSimpArgs false
set_option linter.unusedVariables false
namespace Go.Proofs.Ythchhaaplimafaa
open Go.RowKit

theorem run_append_none {P : Program} {w : World} {T e ty : TypeId} {sz : Nat} (ht : SlT P T e sz) (v : Value) (hv : ∃ b n c, v = .slice b n c ∧ n ≤ c) : (Builtin.append_ #[T, T] ty #[v, .slice none 0 0]).run P w = .ok v w := by
  obtain ⟨b, n, c, rfl, hnc⟩ := hv
  cases b <;> simp [Builtin.append_, run_underlying ht.1, ht.2.run, Builtin.lenOf, Builtin.firstCells, hnc, storeCells]

theorem run_append_zero {P : Program} {w : World} {T e ty : TypeId} {sz : Nat} (ht : SlT P T e sz) (v : Value) (hv : ∃ b n c, v = .slice b n c ∧ n ≤ c) (ad : Addr) (c' : Nat) : (Builtin.append_ #[T, T] ty #[v, .slice (some ad) 0 c']).run P w = .ok v w := by
  obtain ⟨b, n, c, rfl, hnc⟩ := hv
  cases b <;> simp [Builtin.append_, run_underlying ht.1, ht.2.run, Builtin.lenOf, Builtin.firstCells, hnc, storeCells, loadCells, loadCellsFrom]

section
variable {P : Program} {k : Nat} {cx : Cx k} {ops : Array Oper} {Q : Exit → St → Prop} {st : St} {rest : List Oper} {ty : TypeId} {pos : String} {af : Array Edge}

/-- What an appended slice reads as. -/
def SrcD (st : St) (sz : Nat) (av : AV) (cs : List Dat) : Prop :=
  av = .ro (.sl sz cs) ∨ (∃ id e, av = .own id ∧ st.objs[id]? = some (.row e sz cs)) ∨ (av = .val (.slice none 0 0) ∧ cs = [])

theorem src_vals [Zs] {ρ : Ids} {w : World} {a : Act} (hb : RelB ρ w st a) {sz : Nat} {x : Operand} {cs : List Dat} (h : SrcD st sz (st.ev x) cs) :
    (a.eval x = .slice none 0 0 ∧ cs = []) ∨ ∃ (ad : Addr) (m c : Nat) (us : List Value), a.eval x = .slice (some ad) m c ∧ cs.length = m * sz ∧ us.length = cs.length ∧ (∀ (j : Nat) u, us[j]? = some u → w.cell? (ad.add j) = some u) ∧
      ∀ (i : Nat) (dt : Dat), cs[i]? = some dt → ∃ u, us[i]? = some u ∧ Rd w (fun b => Ban ρ st.objs b ∧ ablk (a.eval x) ≠ some b) u dt ∧ Rd w (Ban ρ st.objs) u dt := by
  have weak : ∀ {u : Value} {dt : Dat}, Rd w (Ban ρ st.objs) u dt → Rd w (fun b => Ban ρ st.objs b ∧ ablk (a.eval x) ≠ some b) u dt := fun h => h.mono (Same.refl _ _) (fun _ _ h => h.1)
  have hg := hb.ev x
  rcases h with h | ⟨id, e, h, ho⟩ | ⟨h, rfl⟩
  · rw [h] at hg
    have hr := hg.ro_inv
    obtain ⟨u, hu⟩ : ∃ u, a.eval x = u := ⟨_, rfl⟩
    rw [hu] at hr weak ⊢
    cases hr with
    | nil => exact .inl ⟨rfl, rfl⟩
    | sl ad m c _ _ us hn hsp hM hc hr =>
      refine .inr ⟨ad, m, c, (List.range cs.length).map us, rfl, hn, by simp, fun j v hv => ?_, fun i dt hi => ?_⟩
      · simp only [List.getElem?_map, Option.map_eq_some_iff] at hv
        obtain ⟨j', h1, rfl⟩ := hv
        have hj : j < cs.length := by simpa using (List.getElem?_eq_some_iff.1 h1).1
        obtain rfl : j = j' := by simpa [hj] using h1
        exact hc j _ (List.getElem?_eq_getElem hj)
      · have hi' := (List.getElem?_eq_some_iff.1 hi).1
        exact ⟨us i, by simp [hi'], weak (hr i dt hi), hr i dt hi⟩
  · rw [h] at hg
    obtain ⟨_, hrow⟩ := row_cells hb.good ho hg
    obtain ⟨v, n, us, h1, h2, h3, h4⟩ := hb.good.sat id _ ho
    obtain ⟨l, hl⟩ := hg.own_inv
    rw [h1] at hl
    obtain ⟨rfl, rfl⟩ := List.cons.inj (Option.some.inj hl)
    rcases h2.2 with ⟨hv, rfl⟩ | ⟨b, cap, cur, hv, _, hh, _⟩
    · exact .inl ⟨hv, List.eq_nil_of_length_eq_zero (by rw [← h3, h2.1]; simp)⟩
    · refine .inr ⟨⟨b, 0, none⟩, n, cap, us, hv, by rw [← h3]; exact h2.1, h3, fun j u hu => h2.cells (g := b) (by rw [hv]; rfl) j u hu, fun i dt hi => ?_⟩
      obtain ⟨u, hu, hr⟩ := h4 i dt hi
      exact ⟨u, hu, weak hr, hr⟩
  · rw [h] at hg
    exact .inl ⟨hg.val_inv, rfl⟩

/-- append(s, xs...) where s is an own row; it is spent. -/
theorem l_append [Zs] {d : Tmp} {T e : TypeId} {sz by' id n m : Nat} {z : Value} {x y : Operand} {cs cs2 : List Dat} {cl : Callee} {ats : Array TypeId} (hcl : cl = .builtin .append) (hats : ats = #[T, T]) (hx : st.ev x = .own id) (ho : st.objs[id]? = some (.row e sz cs))
    (hy : SrcD st sz (st.ev y) cs2) (ht : SlT P T e sz) (hm : MkT P e z sz by') (hz : z.cells.size = sz) (hn : cs.length = n * sz) (hm2 : cs2.length = m * sz) (hsz : 0 < sz) (hone : ∀ dt ∈ cs2, dt.one = true)
    (hpos : 0 < by') (hbig : (n + m) * by' ≤ 140737488355328) (hd : Nat.blt d st.n = true)
    (hk : aL P cx ops Q rest (((st.set id .gone).add (.row e sz (cs ++ cs2))).put d (.own st.objs.length))) : aL P cx ops Q (⟨some d, .call ⟨cl, #[x, y], ats⟩, ty, pos, af, none⟩ :: rest) st := by
  subst hcl; subst hats
  refine l_step (st2 := (st.set id .gone).add (.row e sz (cs ++ cs2))) (av := .own st.objs.length) hd rfl ?_ rfl hk
  intro ρ w a hb
  obtain ⟨i, hi, hz1, hsz1, hby1⟩ := hm.info
  have hg := hb.ev x
  rw [hx] at hg
  obtain ⟨v, n', us, h1, h2, h3, h4⟩ := hb.good.sat id _ ho
  obtain ⟨l, hl⟩ := hg.own_inv
  rw [h1] at hl
  obtain ⟨hv, rfl⟩ := List.cons.inj (Option.some.inj hl)
  have hnn : n = n' := Nat.eq_of_mul_eq_mul_right hsz (hn.symm.trans (h3.symm.trans h2.1))
  subst hnn
  have hsmall : n + m ≤ 140737488355328 := Nat.le_trans (Nat.le_mul_of_pos_right _ hpos) hbig
  have hid := (List.getElem?_eq_some_iff.1 ho).1
  have hdrop := hb.good.drop id
  -- the value and the world behind
  have hres : ∃ v' w' us', (Builtin.append_ #[T, T] ty #[v, a.eval y]).run P w = .ok v' w' ∧ w'.ownsRow 0 e sz v' (n + m) us' ∧ w.grownBy w' v.ownBlock ∧ us'.length = (cs ++ cs2).length ∧ (∀ b, ablk v' = some b → ablk v = some b ∨ w.heap.size ≤ b) ∧
      v'.oneCell' = true ∧ ∀ (i : Nat) (dt : Dat), (cs ++ cs2)[i]? = some dt → ∃ u, us'[i]? = some u ∧ Rd w (Ban ρ st.objs) u dt := by
    have hvs : ∃ b n0 c, v = .slice b n0 c ∧ n0 ≤ c := by
      rcases h2.2 with ⟨rfl, _⟩ | ⟨b, cap, cur, rfl, _, _, hnc, _⟩
      · exact ⟨_, _, _, rfl, Nat.le_refl _⟩
      · exact ⟨_, _, _, rfl, hnc⟩
    rcases src_vals hb hy with ⟨hy1, rfl⟩ | ⟨ad, m', c, us2, hy1, hm3, hl2, hc2, hr2⟩
    · have hm0 : m = 0 := by
        simp only [List.length_nil] at hm2
        rcases Nat.mul_eq_zero.1 hm2.symm with h | h
        · exact h
        · omega
      subst hm0
      refine ⟨v, w, us, ?_, h2, ⟨rfl, rfl, rfl, Nat.le_refl _, fun _ _ _ => rfl⟩, by simpa using h3, fun b hb' => .inl hb', ?_, by simpa using h4⟩
      · rw [hy1]; exact run_append_none ht v hvs
      · obtain ⟨_, _, _, rfl, _⟩ := hvs; rfl
    · have hmm : m = m' := Nat.eq_of_mul_eq_mul_right hsz (hm2.symm.trans hm3)
      subst hmm
      have h1c : ∀ u ∈ us2, u.oneCell' = true := by
        intro u hu
        obtain ⟨j, hj, rfl⟩ := List.getElem_of_mem hu
        obtain ⟨u', hu', hr', _⟩ := hr2 j _ (List.getElem?_eq_getElem (by omega))
        rw [List.getElem?_eq_getElem hj] at hu'
        obtain rfl := Option.some.inj hu'
        exact hr'.one (hone _ (List.getElem_mem _))
      obtain ⟨v', w', hrun, how, hgr, _⟩ := run_append_own (P := P) w 0 T ty e i z sz by' ht.1 hi hz1 hsz1 hby1 hz hsz v n us h2 ad m c us2 (by rw [hl2, hm3]) hc2 h1c (by unfold maxLen; omega) hbig (Nat.zero_le _)
      refine ⟨v', w', us ++ us2, by rw [hy1]; exact hrun, how, hgr, by simp [h3, hl2], ?_, ?_, ?_⟩
      · intro b hb'
        rcases how.2 with ⟨rfl, _⟩ | ⟨b', cap, cur, rfl, _, hh, _⟩
        · cases hb'
        · cases hb'
          rcases h2.2 with ⟨rfl, rfl⟩ | ⟨g, cap0, cur0, rfl, _, hg0, hnc0, _, hcs0, htk0⟩
          · right
            have hm0 : 0 < m := by
              rcases Nat.eq_zero_or_pos m with h0 | h0
              · subst h0
                have h5 := run_append_zero (P := P) (w := w) (ty := ty) ht (.slice none 0 0) ⟨_, _, _, rfl, Nat.le_refl _⟩ ad c
                rw [hrun] at h5
                cases h5
              · exact h0
            have h5 := run_append_nil (P := P) w T ty e i z ht.1 hi hz1 ad m c us2 (by rw [hl2, hm3, hsz1]) hc2 hm0 (by omega) (by rw [hby1]; have := Nat.zero_add m ▸ hbig; omega)
            rw [hrun] at h5
            simp only [Result.ok.injEq, Value.slice.injEq, Option.some.injEq, Addr.mk.injEq] at h5
            exact Nat.le_of_eq h5.1.1.1.symm
          · by_cases hroom : n + m ≤ cap0
            · left
              have h5 := run_append_room (P := P) w T ty e i ht.1 hi g n cap0 cur0 hg0 ad m c us2 (by rw [hl2, hm3, hsz1]) hc2 h1c hroom (by rw [hl2, hm3, hsz1, hcs0, ← Nat.add_mul]; exact Nat.mul_le_mul_right _ hroom)
              rw [hrun] at h5
              cases h5
              rfl
            · right
              have h5 := run_append_grow (P := P) w T ty e i z ht.1 hi hz1 ⟨g, 0, none⟩ n cap0 us (by rw [hsz1]; exact h2.1) (h2.cells (g := g) rfl) ad m c us2 (by rw [hl2, hm3, hsz1]) hc2 (by omega) (by omega) (growslice_fits (by omega) (by rw [hby1]; exact hbig))
              rw [hrun] at h5
              cases h5
              exact Nat.le_refl _
      · rcases how.2 with ⟨rfl, _⟩ | ⟨b', cap, cur, rfl, _⟩ <;> rfl
      · intro j dt hj
        by_cases hlt : j < cs.length
        · rw [List.getElem?_append_left hlt] at hj
          obtain ⟨u, hu, hr⟩ := h4 j dt hj
          exact ⟨u, by rw [List.getElem?_append_left (by omega)]; exact hu, hr⟩
        · rw [List.getElem?_append_right (by omega)] at hj
          obtain ⟨u, hu, _, hr⟩ := hr2 _ dt hj
          exact ⟨u, by rw [List.getElem?_append_right (by omega), h3]; exact hu, hr⟩
  obtain ⟨v', w', us', hrun, how, hgr, hlen, hblk, hone', hrd⟩ := hres
  have hsm : Same (Own ρ st.objs) w w' := Same.grown hgr _ fun b hb' => ⟨id, _, _, ho, rfl, h1, v, List.mem_singleton.2 rfl, by
    rcases h2.2 with ⟨rfl, _⟩ | ⟨b', cap, cur, rfl, _⟩
    · cases hb'
    · exact hb'⟩
  have hlenρ : ρ.length = (st.objs.set id .gone).length := by simp [hb.good.len]
  have hlast : ∀ id' b, (st.objs.set id .gone).length ≤ id' → foot (ρ ++ [[v']]) (st.objs.set id .gone ++ [.row e sz (cs ++ cs2)]) id' b → id' = (st.objs.set id .gone).length ∧ ablk v' = some b := by
    rintro id' b h ⟨o', l, h5, _, h6, u, h7, h8⟩
    have hlt := (List.getElem?_eq_some_iff.1 h5).1
    simp at hlt h
    obtain rfl : id' = st.objs.length := by omega
    rw [show st.objs.length = (st.objs.set id .gone).length by simp, new_id hlenρ] at h6
    obtain rfl := Option.some.inj h6
    obtain rfl := List.mem_singleton.1 h7
    exact ⟨by simp, h8⟩
  have hM : ∀ b, b < w.heap.size → Own (ρ ++ [[v']]) (st.objs.set id .gone ++ [.row e sz (cs ++ cs2)]) b → Own ρ st.objs b := by
    rintro b hlt ⟨id', h⟩
    rcases foot_app hlenρ h with ⟨_, h⟩ | ⟨h5, h6⟩
    · exact hdrop.2 b ⟨id', h⟩
    · rcases hblk b (hlast id' b h5 h6).2 with h7 | h7
      · exact ⟨id, _, _, ho, rfl, h1, v, List.mem_singleton.2 rfl, h7⟩
      · omega
  have hnew : (ρ ++ [[v']])[st.objs.length]? = some [v'] := new_id hb.good.len _
  refine ⟨v', w', ρ ++ [[v']], ?_, hsm, ext_app ρ _, hM, ⟨by simp [St.add, St.set, hb.good.len], ?_, ?_, fun id' b h hz => ?_, fun b hz => Nat.lt_of_lt_of_le (hb.good.zl b hz) hsm.size⟩, .own _ _ [] hnew hone'⟩
  rotate_left 3
  · obtain ⟨id2, h2'⟩ := hM b (hb.good.zl b hz) ⟨id', h⟩
    exact hb.good.zf id2 b h2' hz
  · rw [hv] at hrun
    simp [execOp, resolve, invoke, builtin, hrun]
  · intro id' o' ho'
    show SatO _ _ (Ban _ (st.objs.set id .gone ++ [.row e sz (cs ++ cs2)])) id' o'
    change (st.objs.set id .gone ++ [.row e sz (cs ++ cs2)])[id']? = some o' at ho'
    by_cases hlt : id' < st.objs.length
    · rw [List.getElem?_append_left (by simpa using hlt)] at ho'
      by_cases he : id' = id
      · subst he
        rw [List.getElem?_set_self hid] at ho'
        obtain rfl := Option.some.inj ho'
        trivial
      · rw [List.getElem?_set_ne (Ne.symm he)] at ho'
        by_cases hlive : o'.live = true
        · refine (hb.good.sat id' o' ho').keep hsm (ext_app ρ _) hM fun l' u b h5 h6 h7 hbl => hgr.block b hbl fun e' => he ?_
          refine hb.good.dis id' id b ⟨o', l', ho', hlive, h5, u, h6, h7⟩ ⟨_, _, ho, rfl, h1, v, List.mem_singleton.2 rfl, ?_⟩
          rcases h2.2 with ⟨rfl, _⟩ | ⟨b', cap, cur, rfl, _⟩
          · cases e'
          · exact e'.symm
        · cases o' with
          | gone => trivial
          | _ => exact absurd rfl hlive
    · rw [List.getElem?_append_right (by simpa using hlt)] at ho'
      have hlt2 := (List.getElem?_eq_some_iff.1 ho').1
      simp at hlt2
      obtain rfl : id' = st.objs.length := by omega
      simp at ho'
      subst ho'
      exact sat_row hnew how hlen fun j dt hj => by
        obtain ⟨u, hu, hr⟩ := hrd j dt hj
        exact ⟨u, hu, hr.mono hsm.ban (Ban.mono hM)⟩
  · intro i j b hi hj
    change foot _ (st.objs.set id .gone ++ [.row e sz (cs ++ cs2)]) i b at hi
    change foot _ (st.objs.set id .gone ++ [.row e sz (cs ++ cs2)]) j b at hj
    have old : ∀ {i b}, foot ρ (st.objs.set id .gone) i b → ablk v' = some b → False := by
      intro i b h5 h6
      rcases foot_set hid h5 with ⟨_, h, _⟩ | ⟨hne, h7⟩
      · cases h
      · rcases hblk b h6 with h8 | h8
        · exact hne (hb.good.dis i id b h7 ⟨_, _, ho, rfl, h1, v, List.mem_singleton.2 rfl, h8⟩)
        · have := foot_lt hb.good h7; omega
    rcases foot_app hlenρ hi with ⟨_, a2⟩ | ⟨a1, a2⟩ <;> rcases foot_app hlenρ hj with ⟨_, b2⟩ | ⟨b1, b2⟩
    · exact hdrop.1.dis i j b a2 b2
    · exact (old a2 (hlast j b b1 b2).2).elim
    · exact (old b2 (hlast i b a1 a2).2).elim
    · exact (hlast i b a1 a2).1.trans (hlast j b b1 b2).1.symm
end
end Go.Proofs.Ythchhaaplimafaa
