import Derived.Test.YtdbngpkbamhbeaaCza
import Derived.Test.YtdbngpkbamhbeaaEngT
import Derived.Test.YtdbngpkbamhbeaaEngZzc
import Derived.ArgAppend
set_option linter.unusedSimpArgs false
set_option linter.unusedVariables false
set_option linter.unusedSectionVars false
set_option maxRecDepth 20000
namespace Go.Proofs.Ytdbngpkbamhbeaa
theorem lst_lt {a b : List Nat} (h : ¬ a < b) (hne : a ≠ b) : b < a := by
  by_cases h2 : b < a
  · exact h2
  · exact absurd (List.le_antisymm (List.not_lt.1 h2) (List.not_lt.1 h)) hne
theorem ins_srt {S : List (List Nat)} {x : List Nat} {k : Nat} (hS : S.Pairwise (· < ·)) (hx : x ∉ S) (hk : k ≤ S.length) (h1 : ∀ j, j < k → S.getD j [] < x) (h2 : k < S.length → ¬ S.getD k [] < x) : (S.take k ++ ([x] ++ S.drop k)).Pairwise (· < ·) := by
  have hp := List.pairwise_iff_getElem.1 hS
  have hg : ∀ j (h : j < S.length), S.getD j [] = S[j] := fun j h => by rw [List.getD_eq_getElem?_getD, List.getElem?_eq_getElem h]; rfl
  have hd : ∀ d, d ∈ S.drop k → x < d := fun d hd => by
    obtain ⟨j, hj, e⟩ := List.mem_iff_getElem.1 hd
    rw [List.length_drop] at hj
    rw [List.getElem_drop] at e
    have h0 : x < S[k] := lst_lt (by rw [← hg k (by omega)]; exact h2 (by omega)) fun q => hx (by rw [← q]; exact List.getElem_mem _)
    cases j with
    | zero => rw [← e]; exact h0
    | succ j => rw [← e]; exact List.lt_trans h0 (hp k (k + (j + 1)) (by omega) (by omega) (by omega))
  have ht : ∀ a, a ∈ S.take k → a < x := fun a ha => by
    obtain ⟨j, hj, e⟩ := List.mem_iff_getElem.1 ha
    rw [List.length_take] at hj
    rw [List.getElem_take] at e
    rw [← e, ← hg j (by omega)]
    exact h1 j (by omega)
  rw [List.pairwise_append]
  refine ⟨hS.sublist (List.take_sublist k S), ?_, fun a ha b hb => ?_⟩
  · rw [List.singleton_append, List.pairwise_cons]
    exact ⟨hd, hS.sublist (List.drop_sublist k S)⟩
  · rw [List.singleton_append, List.mem_cons] at hb
    rcases hb with rfl | hb
    · exact ht a ha
    · exact List.lt_trans (ht a ha) (hd b hb)
theorem put_perm (S : List (List Nat)) (x : List Nat) (k : Nat) : (S.take k ++ ([x] ++ S.drop k)).Perm (S ++ [x]) := by
  have h1 : (S.take k ++ ([x] ++ S.drop k)).Perm (S.take k ++ (S.drop k ++ [x])) := List.perm_append_comm.append_left _
  rwa [← List.append_assoc (List.take k S) (List.drop k S), List.take_append_drop] at h1
structure SIn (all : List (List Nat)) (i : Nat) (S : List (List Nat)) : Prop where
  perm : S.Perm (all.take i)
  srt : S.Pairwise (· < ·)
theorem SIn.add {all S : List (List Nat)} {i k : Nat} (h : SIn all i S) (hnd : all.Nodup) (hi : i < all.length) (hk : k ≤ S.length) (h1 : ∀ j, j < k → S.getD j [] < all.getD i []) (h2 : k < S.length → ¬ S.getD k [] < all.getD i []) :
    SIn all (i + 1) (S.take k ++ ([all.getD i []] ++ S.drop k)) := by
  have hx : all.getD i [] ∉ S := fun hm => by
    have hm := h.perm.mem_iff.1 hm
    obtain ⟨j, hj, e⟩ := List.mem_iff_getElem.1 hm
    rw [List.length_take] at hj
    rw [List.getElem_take, List.getD_eq_getElem?_getD, List.getElem?_eq_getElem hi] at e
    exact List.pairwise_iff_getElem.1 hnd j i (by omega) hi (by omega) e
  exact ⟨(put_perm S _ k).trans (by rw [tk_s [] hi]; exact h.perm.append_right _), ins_srt h.srt hx hk h1 h2⟩
theorem SIn.done {n : Nat} {f g : Nat → Nat → Nat} {all S : List (List Nat)} (h : SIn all all.length S) (hnd : all.Nodup) (ha : ∀ c, c ∈ all ↔ Cg n f g c) : S = conL n f g := by
  have hp := h.perm
  rw [List.take_length] at hp
  exact (hp.trans (con_all hnd ha)).eq_of_pairwise (fun a b _ _ h1 h2 => absurd (List.lt_trans h1 h2) (List.lt_irrefl a)) h.srt (conL_srt n f g)
end Go.Proofs.Ytdbngpkbamhbeaa
set_option linter.unusedSimpArgs false
set_option linter.unusedVariables false
set_option linter.unusedSectionVars false
namespace Go.Proofs.Ytdbngpkbamhbeaa
open Go.RowKit
def capD (cs : List Dat) : FnD := ⟨fun w M v => Rd w M v (.sl 1 cs) ∧ v.oneCell' = true ∧ ∃ a, v = .slice a cs.length cs.length, fun _ _ _ h => h.2.1, fun _ _ _ _ _ hs hM h => ⟨h.1.mono hs hM, h.2⟩⟩
section
variable {P : Program} {k : Nat} {cx : Cx k} {ops : Array Oper} {Q : Exit → St → Prop} {st : St} {rest : List Oper} {ty : TypeId} {pos : String} {af : Array Edge}
/-- append(s[:k:k], xs...), s only read, xs not empty: a new row. -/
theorem l_apcap [Zs] {d : Tmp} {T e : TypeId} {by' : Nat} {z : Value} {x y : Operand} {cs cs2 : List Dat} {cl : Callee} {ats : Array TypeId} (hcl : cl = .builtin .append) (hats : ats = #[T, T]) (hx : st.ev x = .ro (.fn (capD cs)))
    (hy : SrcD st 1 (st.ev y) cs2) (ht : SlT P T e 1) (hm : MkT P e z 1 by') (hz : z.cells.size = 1) (h0 : 0 < cs2.length) (hone : ∀ dt ∈ cs2, dt.one = true)
    (hpos : 0 < by') (hbig : (cs.length + cs2.length) * by' ≤ 140737488355328) (hd : Nat.blt d st.n = true)
    (hk : aL P cx ops Q rest ((st.add (.row e 1 (cs ++ cs2))).put d (.own st.objs.length))) : aL P cx ops Q (⟨some d, .call ⟨cl, #[x, y], ats⟩, ty, pos, af, none⟩ :: rest) st := by
  subst hcl; subst hats
  refine l_step (st2 := st.add (.row e 1 (cs ++ cs2))) (av := .own st.objs.length) hd rfl ?_ rfl hk
  intro ρ w a hb
  obtain ⟨i, hi, hz1, hsz1, hby1⟩ := hm.info
  have hg := hb.ev x
  rw [hx] at hg
  obtain ⟨hrd, _, a0, ha0⟩ := hg.ro_inv.fn_inv rfl
  have hsmall : cs.length + cs2.length ≤ 140737488355328 := Nat.le_trans (Nat.le_mul_of_pos_right _ hpos) hbig
  have hres : ∃ v' w' us', (Builtin.append_ #[T, T] ty #[a.eval x, a.eval y]).run P w = .ok v' w' ∧ w'.ownsRow 0 e 1 v' (cs.length + cs2.length) us' ∧ w.grownBy w' none ∧ us'.length = (cs ++ cs2).length ∧ (∀ b, ablk v' = some b → w.heap.size ≤ b) ∧
      v'.oneCell' = true ∧ ∀ (i : Nat) (dt : Dat), (cs ++ cs2)[i]? = some dt → ∃ u, us'[i]? = some u ∧ Rd w (Ban ρ st.objs) u dt := by
    rcases src_vals hb hy with ⟨_, rfl⟩ | ⟨ad, m', c, us2, hy1, hm3, hl2, hc2, hr2⟩
    · exact absurd h0 (Nat.lt_irrefl 0)
    · have hmm : cs2.length = m' := by omega
      subst hmm
      have h1c : ∀ u ∈ us2, u.oneCell' = true := by
        intro u hu
        obtain ⟨j, hj, rfl⟩ := List.getElem_of_mem hu
        obtain ⟨u', hu', hr', _⟩ := hr2 j _ (List.getElem?_eq_getElem (by omega))
        rw [List.getElem?_eq_getElem hj] at hu'
        obtain rfl := Option.some.inj hu'
        exact hr'.one (hone _ (List.getElem_mem _))
      obtain ⟨u, hu⟩ : ∃ u, a.eval x = u := ⟨_, rfl⟩
      rw [hu] at hrd ha0 ⊢
      rw [hy1]
      cases hrd with
      | nil _ =>
        obtain ⟨v', w', hrun, how, hgr, _⟩ := run_append_own (P := P) w 0 T ty e i z 1 by' ht.1 hi hz1 hsz1 hby1 hz (by decide) (.slice none 0 0) 0 [] ⟨rfl, .inl ⟨rfl, rfl⟩⟩ ad cs2.length c us2 (by rw [hl2, Nat.mul_one]) hc2 h1c (by unfold maxLen; simp at hsmall; omega) (by simpa using hbig) (Nat.zero_le _)
        refine ⟨v', w', us2, hrun, by simpa using how, hgr, by simpa using hl2, fun b hb' => ?_, ?_, fun j dt hj => ?_⟩
        · have h5 := run_append_nil (P := P) w T ty e i z ht.1 hi hz1 ad cs2.length c us2 (by rw [hl2, hsz1, Nat.mul_one]) hc2 h0 (by simp at hsmall; omega) (by rw [hby1]; simp at hbig; omega)
          rw [hrun] at h5
          simp only [Result.ok.injEq] at h5
          obtain ⟨rfl, _⟩ := h5
          cases hb'
          exact Nat.le_refl _
        · rcases how.2 with ⟨rfl, _⟩ | ⟨b', cap, cur, rfl, _⟩ <;> rfl
        · rw [List.nil_append] at hj
          obtain ⟨u, hu, _, hr⟩ := hr2 _ dt hj
          exact ⟨u, hu, hr⟩
      | sl ad0 n' cap _ _ us hn' hsp hM hc hr =>
        have hcap : n' = cs.length ∧ cap = cs.length := by
          cases ha0; exact ⟨rfl, rfl⟩
        obtain ⟨rfl, rfl⟩ := hcap
        have hol : ((List.range cs.length).map us).length = cs.length * 1 := by simp
        obtain ⟨v', w', hrun, how, hgr⟩ := run_append_arg_grows (P := P) (w := w) T ty e i z 1 by' ht.1 hi hz1 hsz1 hby1 hz (by decide) ad0 cs.length cs.length ((List.range cs.length).map us) hol (fun j v hv => by
          simp only [List.getElem?_map, Option.map_eq_some_iff] at hv
          obtain ⟨j', h1, rfl⟩ := hv
          have hj : j < cs.length := by simpa using (List.getElem?_eq_some_iff.1 h1).1
          obtain rfl : j = j' := by simpa [hj] using h1
          exact hc j _ (List.getElem?_eq_getElem hj)) ad cs2.length c us2 (by rw [hl2, Nat.mul_one]) hc2 (by omega) (by unfold maxLen; omega) hbig
        have hnew : ∀ b, ablk v' = some b → w.heap.size ≤ b := fun b hb' => by
          rcases how.2 with ⟨rfl, _⟩ | ⟨b', cap, cur, rfl, hbase, _⟩
          · cases hb'
          · cases hb'; exact hbase
        refine ⟨v', w', _, hrun, ⟨how.1, ?_⟩, hgr, by simp [hl2], hnew, ?_, fun j dt hj => ?_⟩
        · rcases how.2 with h | ⟨b', cap, cur, h1, _, h2⟩
          · exact .inl h
          · exact .inr ⟨b', cap, cur, h1, Nat.zero_le _, h2⟩
        · rcases how.2 with ⟨rfl, _⟩ | ⟨b', cap, cur, rfl, _⟩ <;> rfl
        · by_cases hlt : j < cs.length
          · rw [List.getElem?_append_left hlt] at hj
            exact ⟨us j, by rw [List.getElem?_append_left (by simpa using hlt)]; simp [hlt], hr j dt hj⟩
          · rw [List.getElem?_append_right (by omega)] at hj
            obtain ⟨u, hu, _, hr⟩ := hr2 _ dt hj
            exact ⟨u, by rw [List.getElem?_append_right (by simpa using Nat.le_of_not_lt hlt)]; simpa using hu, hr⟩
  obtain ⟨v', w', us', hrun, how, hgr, hlen, hblk, hone', hrd'⟩ := hres
  have hbel : Below w.heap.size w w' := ⟨hgr.os, hgr.tape, hgr.output, hgr.size, fun k hk => hgr.block k hk (by simp)⟩
  have happ := app_one hb.good (o := .row e 1 (cs ++ cs2)) (v := v') hbel hblk fun hnew hM =>
    sat_row hnew how hlen fun j dt hj => by
      obtain ⟨u, hu, hr⟩ := hrd' j dt hj
      exact ⟨u, hu, hr.mono (Same.of_below hbel (Own ρ st.objs)).ban (Ban.mono hM)⟩
  refine ⟨v', w', _, ?_, happ.1, happ.2.1, happ.2.2.1, happ.2.2.2, .own _ _ [] (new_id hb.good.len _) hone'⟩
  simp [execOp, resolve, invoke, builtin, hrun]
end
end Go.Proofs.Ytdbngpkbamhbeaa
