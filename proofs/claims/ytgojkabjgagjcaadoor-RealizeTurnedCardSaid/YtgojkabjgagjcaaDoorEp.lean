import Derived.Test.YtgojkabjgagjcaaDoorEb
import Derived.Test.YtgojkabjgagjcaaDoorEngZzs
set_option linter.unusedSimpArgs false
set_option linter.unusedVariables false
set_option linter.unusedSectionVars false
set_option maxRecDepth 20000
namespace Go.Proofs.YtgojkabjgagjcaaDoor
attribute [local irreducible] QOp aL aC qL
/-- Are two points comparable? -/
def cmpE (C : List Nat) (p : Nat × Nat) : Bool := lt C p.1 p.2 || lt C p.2 p.1
def allN (C : List Nat) : Nat := (C.map fun s => ((List.range 10).filter fun a => s.testBit a).length).sum
def haveN (C : List Nat) (todo : List (Nat × Nat)) : Nat := (todo.filter (cmpE C)).length
def turnN (n : Nat) (todo : List (Nat × Nat)) : Nat → List (Nat × Nat) → Option (List Nat)
  | 0, _ => none
  | f + 1, done =>
    if irr n (clos n done) = true then
      if haveN (clos n done) todo < 2 * allN (clos n done) then none
      else match todo.find? fun p => !cmpE (clos n done) p with
        | none => some (clos n done)
        | some p => match turnN n todo f (done ++ [p]) with
          | some C => some C
          | none => turnN n todo f (done ++ [(p.2, p.1)])
    else none
/-- Pairs that may be asked for: each once, and both ways. -/
structure Asked (n : Nat) (todo : List (Nat × Nat)) : Prop where
  inn : Inn n todo
  nd : todo.Nodup
  sym : ∀ p ∈ todo, (p.2, p.1) ∈ todo
/-- An order of just those pairs. -/
structure TurnO (n : Nat) (todo : List (Nat × Nat)) (Q : List Nat) : Prop where
  vld : Vld n Q
  ok : okB n Q = true
  iff : ∀ a b, a < n → b < n → (cmpE Q (a, b) = true ↔ (a, b) ∈ todo)
theorem nd_le {α : Type} [DecidableEq α] {A L : List α} (h : A.Nodup) (hs : ∀ x ∈ A, x ∈ L) : A.length ≤ L.length := by
  rcases Nat.lt_or_ge L.length A.length with q | q
  · have := (nd_perm A L h hs (Nat.le_of_lt q)).length_eq
    omega
  · exact q
theorem clos_okB {n : Nat} {l : List (Nat × Nat)} (hin : Inn n l) (h : irr n (clos n l) = true) : okB n (clos n l) = true := by
  refine okB_all (clos_vld hin).2 fun i hi => ⟨fun j hj k hk => ?_, ?_⟩
  · cases ht : trip (clos n l) i j k
    · rfl
    · exfalso
      unfold trip at ht
      simp only [Bool.and_eq_true, Bool.not_eq_true'] at ht
      obtain ⟨h1, h2, h3⟩ := ht
      have r1 := (clos_iff hin hk).1 h1
      have r2 := (clos_iff hin hi).1 h2
      have := (clos_iff hin hi).2 (r1.trans r2)
      rw [show lt (clos n l) j i = true from this] at h3
      exact Bool.noConfusion h3
  · cases hq : lt (clos n l) i i
    · rfl
    · exact absurd ((clos_iff hin hi).1 hq) ((irr_iff hin).1 h i hi)
/-- All pairs of which one is below the other. -/
def ltL (n : Nat) (C : List Nat) : List (Nat × Nat) := (List.range n).flatMap fun b => ((List.range n).filter fun a => (C.getD b 0).testBit a).map fun a => (a, b)
theorem ltL_mem {n : Nat} {C : List Nat} {a b : Nat} : (a, b) ∈ ltL n C ↔ a < n ∧ b < n ∧ lt C a b = true := by
  unfold ltL lt
  simp only [List.mem_flatMap, List.mem_range, List.mem_map, List.mem_filter]
  constructor
  · rintro ⟨b', hb, a', ⟨ha, h⟩, e⟩
    cases e
    exact ⟨ha, hb, h⟩
  · rintro ⟨ha, hb, h⟩
    exact ⟨b, hb, a, ⟨ha, h⟩, rfl⟩
theorem bits_len {n s : Nat} (hn : n ≤ 10) (hs : s < 2 ^ n) : ((List.range 10).filter fun a => s.testBit a).length = ((List.range n).filter fun a => s.testBit a).length := by
  refine ((List.perm_ext_iff_of_nodup (List.nodup_range.filter _) (List.nodup_range.filter _)).2 fun x => ?_).length_eq
  rw [List.mem_filter, List.mem_filter, List.mem_range, List.mem_range]
  constructor
  · rintro ⟨_, h⟩
    refine ⟨?_, h⟩
    rcases Nat.lt_or_ge x n with q | q
    · exact q
    · rw [Nat.testBit_lt_two_pow (Nat.lt_of_lt_of_le hs (Nat.pow_le_pow_right (n := 2) (by decide) q))] at h; cases h
  · rintro ⟨h1, h⟩
    exact ⟨by omega, h⟩
theorem allN_eq {n : Nat} {C : List Nat} (hn : n ≤ 10) (hv : Vld n C) : allN C = (ltL n C).length := by
  have e : C = (List.range n).map fun b => C.getD b 0 := by
    refine List.ext_getElem (by rw [List.length_map, List.length_range, hv.1]) fun i h1 h2 => ?_
    rw [List.getElem_map, List.getElem_range, List.getD_eq_getElem?_getD, List.getElem?_eq_getElem h1]; rfl
  unfold allN ltL
  rw [List.length_flatMap]
  have : (C.map fun s => ((List.range 10).filter fun a => s.testBit a).length) = (List.range n).map fun b => (((List.range n).filter fun a => (C.getD b 0).testBit a).map fun a => (a, b)).length := by
    conv => lhs; rw [e]
    rw [List.map_map]
    refine List.map_congr_left fun b hb => ?_
    rw [List.length_map]
    exact bits_len hn (by
      have hb := List.mem_range.1 hb
      have hb2 : b < C.length := by rw [hv.1]; exact hb
      show C.getD b 0 < 2 ^ n
      rw [List.getD_eq_getElem?_getD, List.getElem?_eq_getElem hb2]
      exact hv.2 _ (List.getElem_mem hb2))
  rw [this]
theorem ltL_nd {n : Nat} {C : List Nat} : (ltL n C).Nodup := by
  unfold ltL
  rw [List.nodup_iff_pairwise_ne, List.pairwise_flatMap]
  refine ⟨fun b _ => ?_, ?_⟩
  · rw [List.pairwise_map]
    exact (List.nodup_iff_pairwise_ne.1 (List.nodup_range.filter _)).imp fun h e => h (by cases e; rfl)
  · refine (List.nodup_iff_pairwise_ne.1 List.nodup_range).imp fun h x hx y hy e => ?_
    obtain ⟨a, _, rfl⟩ := List.mem_map.1 hx
    obtain ⟨a', _, rfl⟩ := List.mem_map.1 hy
    exact h (by cases e; rfl)
theorem filter_or {α : Type} {p q : α → Bool} : ∀ (l : List α), (∀ x ∈ l, p x = true → q x = true → False) → (l.filter fun x => p x || q x).length = (l.filter p).length + (l.filter q).length
  | [], _ => rfl
  | x :: l, h => by
    have ih := filter_or l fun y hy => h y (List.mem_cons_of_mem _ hy)
    have hx := h x List.mem_cons_self
    rw [List.filter_cons, List.filter_cons, List.filter_cons]
    cases hp : p x <;> cases hq : q x
    · simpa using ih
    · simp only [Bool.or_true, if_true, List.length_cons]; simp; omega
    · simp only [Bool.or_false, if_true, List.length_cons]; simp; omega
    · exact absurd hq (fun hq => hx hp hq)
section
variable {n : Nat} {todo : List (Nat × Nat)} {C : List Nat}
theorem have_two (hA : Asked n todo) (hv : Vld n C) (hok : okB n C = true) : haveN C todo = 2 * (todo.filter fun p => lt C p.1 p.2).length := by
  unfold haveN cmpE
  rw [filter_or todo fun p hp h1 h2 => by
    have h := hA.inn p hp
    have := okB_tr hok h.2 h.1 h1 h2
    rw [okB_irr hok h.2] at this; cases this]
  have key : ∀ (f g : Nat × Nat → Bool), (∀ p, f p = g (p.2, p.1)) → (todo.filter f).length ≤ (todo.filter g).length := fun f g hfg => by
    have hnd : ((todo.filter f).map fun p => (p.2, p.1)).Nodup := by
      rw [List.nodup_iff_pairwise_ne, List.pairwise_map]
      exact (List.nodup_iff_pairwise_ne.1 (hA.nd.filter _)).imp fun h e => h (by
        rename_i a b
        obtain ⟨a1, a2⟩ := a
        obtain ⟨b1, b2⟩ := b
        cases e; rfl)
    have := nd_le (L := todo.filter g) hnd fun x hx => by
      obtain ⟨p, hp, rfl⟩ := List.mem_map.1 hx
      obtain ⟨h1, h2⟩ := List.mem_filter.1 hp
      exact List.mem_filter.2 ⟨hA.sym p h1, by rw [← hfg]; exact h2⟩
    rwa [List.length_map] at this
  have a1 := key (fun p => lt C p.1 p.2) (fun p => lt C p.2 p.1) fun p => rfl
  have a2 := key (fun p => lt C p.2 p.1) (fun p => lt C p.1 p.2) fun p => rfl
  omega
/-- Nothing else is ordered. -/
theorem have_all (hn : n ≤ 10) (hA : Asked n todo) (hv : Vld n C) (hok : okB n C = true) : haveN C todo < 2 * allN C ↔ ¬ ∀ a b, lt C a b = true → (a, b) ∈ todo := by
  rw [have_two hA hv hok, allN_eq hn hv]
  have hsub : ∀ x ∈ todo.filter fun p => lt C p.1 p.2, x ∈ ltL n C := fun p hp => by
    obtain ⟨h1, h2⟩ := List.mem_filter.1 hp
    exact ltL_mem.2 ⟨(hA.inn p h1).1, (hA.inn p h1).2, h2⟩
  have hle := nd_le (hA.nd.filter _) hsub
  constructor
  · intro h hall
    have := nd_le (A := ltL n C) (L := todo.filter fun p => lt C p.1 p.2) ltL_nd fun p hp => List.mem_filter.2 ⟨hall p.1 p.2 (ltL_mem.1 hp).2.2, (ltL_mem.1 hp).2.2⟩
    omega
  · intro h
    rcases Nat.lt_or_ge (todo.filter fun p => lt C p.1 p.2).length (ltL n C).length with q | q
    · omega
    · exfalso
      have hp := nd_perm _ _ (hA.nd.filter _) hsub q
      refine h fun a b hab => ?_
      have hm : (a, b) ∈ ltL n C := ltL_mem.2 ⟨lt_lt hv.2 hab, vldR hv hab, hab⟩
      exact (List.mem_filter.1 (hp.mem_iff.2 hm)).1
end
/-- How many pairs are still free. -/
def msN (n : Nat) (todo done : List (Nat × Nat)) : Nat := (todo.filter fun p => !cmpE (clos n done) p).length
section
variable {n : Nat} {todo : List (Nat × Nat)}
theorem inn_app {done : List (Nat × Nat)} (h : Inn n done) {p : Nat × Nat} (h1 : p.1 < n) (h2 : p.2 < n) : Inn n (done ++ [p]) := fun q hq => by
  rcases List.mem_append.1 hq with hq | hq
  · exact h q hq
  · rw [List.mem_singleton] at hq; subst hq; exact ⟨h1, h2⟩
theorem cmp_more {done : List (Nat × Nat)} (h : Inn n done) {p : Nat × Nat} (h1 : p.1 < n) (h2 : p.2 < n) {q : Nat × Nat} (hq : q.1 < n ∧ q.2 < n) (hc : cmpE (clos n done) q = true) : cmpE (clos n (done ++ [p])) q = true := by
  have hin := inn_app h h1 h2
  have mono : ∀ {a b}, Reach done a b → Reach (done ++ [p]) a b := fun h => by
    induction h with
    | one h => exact .one (List.mem_append_left _ h)
    | more _ h2 ih => exact .more ih (List.mem_append_left _ h2)
  have one : ∀ a b, b < n → lt (clos n done) a b = true → lt (clos n (done ++ [p])) a b = true := fun a b hb hl => (clos_iff hin hb).2 (mono ((clos_iff h hb).1 hl))
  unfold cmpE at hc ⊢
  rw [Bool.or_eq_true] at hc ⊢
  exact hc.imp (one _ _ hq.2) (one _ _ hq.1)
theorem ms_less (hA : Asked n todo) {done : List (Nat × Nat)} (h : Inn n done) {p : Nat × Nat} (hp : p ∈ todo) (hf : cmpE (clos n done) p = false) {q : Nat × Nat} (hq : q = p ∨ q = (p.2, p.1)) : msN n todo (done ++ [q]) < msN n todo done := by
  have hpi := hA.inn p hp
  have hq1 : q.1 < n ∧ q.2 < n := by rcases hq with rfl | rfl; exact hpi; exact ⟨hpi.2, hpi.1⟩
  have hin := inn_app h hq1.1 hq1.2
  have hnow : cmpE (clos n (done ++ [q])) p = true := by
    have h1 : lt (clos n (done ++ [q])) q.1 q.2 = true := (clos_iff hin hq1.2).2 (.one (List.mem_append_right _ (List.mem_singleton.2 rfl)))
    unfold cmpE
    rw [Bool.or_eq_true]
    rcases hq with rfl | rfl
    · exact .inl h1
    · exact .inr h1
  have e : todo.filter (fun p => !cmpE (clos n (done ++ [q])) p) = (todo.filter fun p => !cmpE (clos n done) p).filter fun p => !cmpE (clos n (done ++ [q])) p := by
    rw [List.filter_filter]
    refine List.filter_congr fun x hx => ?_
    cases hc : cmpE (clos n done) x
    · simp
    · rw [cmp_more h hq1.1 hq1.2 (hA.inn x hx) hc]; rfl
  unfold msN
  rw [e, List.length_filter_lt_length_iff_exists]
  exact ⟨p, List.mem_filter.2 ⟨hp, by rw [hf]; rfl⟩, by rw [hnow]; decide⟩
theorem turnN_some (hn : n ≤ 10) (hA : Asked n todo) : ∀ (f : Nat) (done : List (Nat × Nat)) (C : List Nat), Inn n done → turnN n todo f done = some C → TurnO n todo C
  | 0, _, _, _, h => by cases h
  | f + 1, done, C, hi, h => by
    unfold turnN at h
    split at h
    · rename_i hirr
      split at h
      · cases h
      · rename_i hcnt
        have hv := clos_vld (n := n) hi
        have hok := clos_okB hi hirr
        split at h
        · rename_i hf
          cases h
          rw [have_all hn hA hv hok, Classical.not_not] at hcnt
          rw [List.find?_eq_none] at hf
          refine ⟨hv, hok, fun a b ha hb => ⟨fun hc => ?_, fun hm => ?_⟩⟩
          · unfold cmpE at hc
            rw [Bool.or_eq_true] at hc
            rcases hc with hc | hc
            · exact hcnt a b hc
            · exact hA.sym (b, a) (hcnt b a hc)
          · have := hf (a, b) hm
            simpa using this
        · rename_i p hf
          have hp := List.mem_of_find?_eq_some hf
          have hpi := hA.inn p hp
          split at h
          · rename_i C' hc
            cases h
            exact turnN_some hn hA f _ _ (inn_app hi hpi.1 hpi.2) hc
          · exact turnN_some hn hA f _ _ (inn_app hi (p := (p.2, p.1)) hpi.2 hpi.1) h
    · cases h
theorem turnN_none (hn : n ≤ 10) (hA : Asked n todo) {Q : List Nat} (hQ : TurnO n todo Q) : ∀ (f : Nat) (done : List (Nat × Nat)), Inn n done → (∀ p ∈ done, lt Q p.1 p.2 = true) → msN n todo done < f → turnN n todo f done ≠ none
  | 0, _, _, _, h => by cases h
  | f + 1, done, hi, hd, hm => by
    have sub : ∀ {a b}, Reach done a b → lt Q a b = true := fun {a b} h => by
      induction h with
      | one h => exact hd _ h
      | more _ h2 ih => exact okB_tr hQ.ok (vldR hQ.vld (hd _ h2)) (vldR hQ.vld ih) (hd _ h2) ih
    have hirr : irr n (clos n done) = true := (irr_iff hi).2 fun q hq h => by
      have := sub h
      rw [okB_irr hQ.ok hq] at this; cases this
    have hv := clos_vld (n := n) hi
    have hok := clos_okB hi hirr
    have hcnt : ¬ haveN (clos n done) todo < 2 * allN (clos n done) := by
      rw [have_all hn hA hv hok, Classical.not_not]
      intro a b hab
      have hb := vldR hv hab
      have ha := lt_lt hv.2 hab
      refine (hQ.iff a b ha hb).1 ?_
      unfold cmpE
      rw [sub ((clos_iff hi hb).1 hab)]; rfl
    unfold turnN
    rw [if_pos hirr, if_neg hcnt]
    split
    · simp
    · rename_i p hf
      have hp := List.mem_of_find?_eq_some hf
      have hpi := hA.inn p hp
      have hfr : cmpE (clos n done) p = false := by simpa using List.find?_some hf
      have hQp := (hQ.iff p.1 p.2 hpi.1 hpi.2).2 hp
      unfold cmpE at hQp
      rw [Bool.or_eq_true] at hQp
      have go : ∀ q : Nat × Nat, (q = p ∨ q = (p.2, p.1)) → lt Q q.1 q.2 = true → turnN n todo f (done ++ [q]) ≠ none := fun q hq hl =>
        turnN_none hn hA hQ f _ (inn_app hi (lt_lt hQ.vld.2 hl) (vldR hQ.vld hl)) (fun x hx => by
          rcases List.mem_append.1 hx with hx | hx
          · exact hd x hx
          · rw [List.mem_singleton] at hx; subst hx; exact hl) (by have := ms_less hA hi hp hfr hq; omega)
      split
      · simp
      · rename_i hnone
        rcases hQp with h | h
        · exact absurd hnone (go p (.inl rfl) h)
        · exact go (p.2, p.1) (.inr rfl) h
end
end Go.Proofs.YtgojkabjgagjcaaDoor
set_option linter.unusedSimpArgs false
set_option linter.unusedVariables false
set_option linter.unusedSectionVars false
set_option maxRecDepth 20000
namespace Go.Proofs.YtgojkabjgagjcaaDoor
attribute [local irreducible] QOp aL aC qL
attribute [local irreducible] FOp POp hL xH
theorem ClipP_ac (l : List (Int × Int)) : AC Tryd.prog 85 [pairs l] [] (.ro (.fn (capP (pairc l)))) [] := by
  refine AC.mk (n := 9) (fn := Tryd.f85) Tryd.func85 (by kernel_rfl) rfl rfl rfl rfl (fun cx => ?_); dsimp only [argv, Nat.reduceAdd]
  (repeat' (first | refine a_seq ?_ | refine a_ret ?_ | refine a_region ?_ | refine l_nil ?_ | (apply w_q; (focus (first | exact Q_move (by conv => lhs; whnf) | exact Q_assign (by conv => lhs; whnf) | exact Q_len_pairs rfl KSl.h)); (focus exact rfl)) | (((first | apply w_q); (focus exact Q_clipP rfl rfl rfl rfl KSl.h); (focus exact rfl))))); (try all_goals (try show retA _ _ _ _ _ _ _))
  refine ⟨[_], [], ⟨resV_tmp (by conv => lhs; whnf), trivial⟩, VwOs.mk (by decide) trivial, ?_, rfl⟩
  (repeat' (first | exact vwR rfl))
theorem free_ac (n : Nat) (C : List Nat) (a b : Nat) (hn : n ≤ 10) (hv : Vld n C) (ha : a < n) (hb : b < n) :
    AC Tryd.prog 82 [.val (.int .i64 a), .val (.int .i64 b), .rpt [.val (.int .i64 n), .sl 1 (intc (nl C))] 0] [] (.val (.bool (!cmpE C (a, b)))) [] := by
  have hlen := hv.1
  have k1 := Lower_ac n C a b (by omega) (by omega)
  have k2 := Lower_ac n C b a (by omega) (by omega)
  rw [show (C.getD b 0).testBit a = lt C a b from rfl] at k1
  rw [show (C.getD a 0).testBit b = lt C b a from rfl] at k2
  unfold cmpE
  dsimp only
  generalize lt C a b = p at *
  generalize lt C b a = q at *
  cases p <;> cases q
  all_goals
    refine AC.mk (n := 18) (fn := Tryd.f82) Tryd.func82 (by kernel_rfl) rfl rfl rfl rfl (fun cx => ?_); dsimp only [argv, Nat.reduceAdd]
    (repeat' (first | refine a_seq ?_ | refine a_ret ?_ | refine a_region ?_ | refine l_nil ?_ | (apply w_q; (focus (first | exact Q_move (by conv => lhs; whnf) | exact Q_assign (by conv => lhs; whnf) | exact Q_ld_rpa rfl KAg.h rfl rfl (by first | (dsimp only [List.drop_zero, List.drop_succ_cons, List.take_succ_cons, List.take_zero, List.map, ofD]; done) | exact rfl) | exact Q_not rfl | exact Q_pick_t rfl rfl (by conv => lhs; whnf) | exact Q_pick_f rfl rfl (by conv => lhs; whnf))); (focus exact rfl)) | refine w_guard_y rfl rfl rfl (by first | assumption | rfl) ?_ | refine w_guard_n rfl rfl rfl (by first | assumption | rfl) ?_ | (((first | apply w_q); (focus (refine Q_call (.inl ⟨rfl, rfl⟩) (k1) ?_; ((repeat' (first | exact trivial | exact vwR rfl | exact vwRL rfl | exact Vw.ro _ | refine Vw.agg' ?_ | refine ⟨?_, ?_⟩ )); done))); (focus exact rfl))) | (((first | apply w_q); (focus (refine Q_call (.inl ⟨rfl, rfl⟩) (k2) ?_; ((repeat' (first | exact trivial | exact vwR rfl | exact vwRL rfl | exact Vw.ro _ | refine Vw.agg' ?_ | refine ⟨?_, ?_⟩ )); done))); (focus exact rfl))))); (try all_goals (try show retA _ _ _ _ _ _ _))
    all_goals first
      | (exfalso; simp at *; done)
      | (refine ⟨[_], [], ⟨resV_tmp (by conv => lhs; whnf), trivial⟩, VwOs.mk (by decide) trivial, ?_, rfl⟩; (repeat' (first | exact vwR rfl)); done)
      | (all_goals trace_state); fail
end Go.Proofs.YtgojkabjgagjcaaDoor
