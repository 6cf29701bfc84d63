import Derived.Test.YtgojkabjgagjcaaEngZd
import Derived.Test.YtgojkabjgagjcaaEngZf
import Derived.Test.YtgojkabjgagjcaaEngZzp
import Derived.Test.YtgojkabjgagjcaaCf
import Derived.Test.YtgojkabjgagjcaaCd
import Derived.Test.YtgojkabjgagjcaaEb
set_option linter.unusedSimpArgs false
set_option linter.unusedVariables false
set_option linter.unusedSectionVars false
set_option maxRecDepth 20000
namespace Go.Proofs.Ytgojkabjgagjcaa
attribute [local irreducible] QOp aL aC qL
def keepP (p : Nat × Nat → Bool) (l : List (Nat × Nat)) (j : Nat) : List (Nat × Nat) := (l.take j).filter fun x => !p x
theorem keepP_s {p : Nat × Nat → Bool} {l : List (Nat × Nat)} {j : Nat} (h : j < l.length) : keepP p l (j + 1) = if p (l.getD j (0, 0)) = true then keepP p l j else keepP p l j ++ [l.getD j (0, 0)] := by
  unfold keepP
  rw [List.take_add_one, List.getD_eq_getElem?_getD, List.getElem?_eq_getElem h, List.filter_append]
  show _ ++ List.filter _ [l[j]] = _
  cases hp : p l[j] <;> simp [hp]
theorem keepP_le (p : Nat × Nat → Bool) (l : List (Nat × Nat)) (j : Nat) : (keepP p l j).length ≤ j := Nat.le_trans (List.length_filter_le _ _) (by rw [List.length_take]; omega)
theorem keepP_all (p : Nat × Nat → Bool) (l : List (Nat × Nat)) : keepP p l l.length = l.filter fun x => !p x := by unfold keepP; rw [List.take_length]
theorem keepP_pre {p : Nat × Nat → Bool} {l : List (Nat × Nat)} {k : Nat} (hk : k ≤ l.length) (h : ∀ i (h : i < l.length), i < k → p l[i] = false) : keepP p l k = l.take k := by
  unfold keepP
  refine List.filter_eq_self.2 fun x hx => ?_
  obtain ⟨i, hi, rfl⟩ := List.mem_take_iff_getElem.1 hx
  rw [h i (by omega) (by omega)]; rfl
def keptP (p : Nat × Nat → Bool) (l : List (Nat × Nat)) (j : Nat) : List (Nat × Nat) := keepP p l j ++ l.drop (keepP p l j).length
theorem keptP_len {p : Nat × Nat → Bool} {l : List (Nat × Nat)} {j : Nat} (h : j ≤ l.length) : (keptP p l j).length = l.length := by
  have := keepP_le p l j
  unfold keptP; rw [List.length_append, List.length_drop]; omega
theorem keptP_at {p : Nat × Nat → Bool} {l : List (Nat × Nat)} {j : Nat} (h : j < l.length) : (keptP p l j).getD j (0, 0) = l.getD j (0, 0) := by
  have := keepP_le p l j
  unfold keptP
  rw [List.getD_eq_getElem?_getD, List.getElem?_append_right this, List.getElem?_drop, List.getD_eq_getElem?_getD]
  congr 2; omega
theorem keptP_set {p : Nat × Nat → Bool} {l : List (Nat × Nat)} {j : Nat} (h : j < l.length) (hp : p (l.getD j (0, 0)) = false) : (keptP p l j).set (keepP p l j).length (l.getD j (0, 0)) = keptP p l (j + 1) := by
  have := keepP_le p l j
  unfold keptP
  rw [keepP_s h, hp, if_neg (by decide), List.set_append_right _ _ (Nat.le_refl _), Nat.sub_self, List.length_append, List.length_singleton, List.append_assoc]
  congr 1
  rw [List.drop_eq_getElem_cons (by omega)]
  rfl
theorem keptP_skip {p : Nat × Nat → Bool} {l : List (Nat × Nat)} {j : Nat} (h : j < l.length) (hp : p (l.getD j (0, 0)) = true) : keptP p l (j + 1) = keptP p l j := by
  unfold keptP; rw [keepP_s h, hp, if_pos rfl]
theorem idxP_cases {p : Nat × Nat → Bool} (l : List (Nat × Nat)) : (idx p l = -1 ∧ ∀ i (h : i < l.length), p l[i] = false) ∨ ∃ k : Nat, idx p l = k ∧ ∃ h : k < l.length, p l[k] = true ∧ ∀ i (h : i < l.length), i < k → p l[i] = false := by
  unfold idx
  cases h : l.findIdx? p with
  | none => exact .inl ⟨rfl, fun i hi => by
      have := List.findIdx?_eq_none_iff.1 h _ (List.getElem_mem hi)
      simpa using this⟩
  | some i =>
    obtain ⟨h1, h2, h3⟩ := List.findIdx?_eq_some_iff_getElem.1 h
    exact .inr ⟨i, rfl, h1, h2, fun j _ hj => by simpa using h3 j hj⟩
theorem pn_set (l : List (Nat × Nat)) (m : Nat) (x : Nat × Nat) : (pn l).set m ((x.1 : Int), (x.2 : Int)) = pn (l.set m x) := by unfold pn; rw [List.map_set]
/-- A pair of numbers. -/
def prV (x : Nat × Nat) : AV := .agg [.val (.int .i64 (x.1 : Nat)), .val (.int .i64 (x.2 : Nat))]
attribute [local irreducible] FOp POp hL xH
set_option maxRecDepth 20000 in
set_option maxHeartbeats 2000000 in
theorem IndexOP_ac {g : FuncId} {ds : List Dat} (p : Nat × Nat → Bool) (l : List (Nat × Nat)) (hl : l.length ≤ 9223372036854775807)
    (hg : ∀ x ∈ l, AC Try.prog g (prV x :: [.rpt ds 0]) [] (.val (.bool (p x))) []) : AC Try.prog 45 [.own 0, .clo g [.rpt ds 0]] [.row 43 2 (pairc (pn l))] (.val (.int .i64 (idx p l))) [.row 43 2 (pairc (pn l))] := by
  have hpl := pn_len l
  refine AC.mk (n := 19) (fn := Try.f45) Try.func45 (by kernel_rfl) rfl rfl rfl rfl (fun cx => ?_); dsimp only [argv, Nat.reduceAdd]
  (repeat' (first | refine a_seq ?_ | refine a_block ?_ | refine a_region ?_ | refine l_nil ?_ | (apply w_q; (focus (first | exact Q_move (by conv => lhs; whnf) | exact Q_assign (by conv => lhs; whnf) | exact Q_len_ownp rfl rfl KSl.h)); (focus exact rfl)))); (try all_goals (try show retA _ _ _ _ _ _ _))
  refine w_loop (X := Nat) [0, 1, 7] (by simp only [keepv, getv_cons, Nat.reduceEqDiff, ↓reduceIte]; exact rfl) (fun k => [(8, .val (.int .i64 (k : Int)))]) (fun k => [.row 43 2 (pairc (pn l))]) (fun k => k ≤ l.length ∧ ∀ i (h : i < l.length), i < k → p l[i] = false) (fun k => l.length - k) (0) ([0]) ?_ ?_ rfl ?_ <;> (try dsimp only [List.cons_append, List.nil_append])
  · exact ⟨Nat.zero_le _, fun _ _ h => by omega⟩
  · (refine St.le_mk rfl (VwOs.mk (by decide) ?_) ?_ <;> (repeat' (first | exact trivial | exact vwR rfl | exact Vw.own _ _ rfl | exact VwO.row _ _ _ | refine ⟨⟨_, rfl, ?_⟩, ?_⟩ | refine ⟨?_, ?_⟩ )))
  rintro k ⟨hk, h0⟩
  by_cases hkl : k < l.length
  · have hgx := hg (l.getD k (0, 0)) (by rw [getD_of hkl]; exact List.getElem_mem _)
    unfold prV at hgx
    cases hp : p (l.getD k (0, 0)) with
    | true =>
      rw [hp] at hgx
      have hi : idx p l = k := idx_some hkl h0 (by rw [← getD_of hkl (0, 0)]; exact hp)
      rw [hi]
      (repeat' (first | refine a_seq ?_ | refine a_block ?_ | refine a_skip ?_ | refine a_ret ?_ | refine a_region ?_ | refine l_nil ?_ | (apply w_q; (focus (first | exact Q_move (by conv => lhs; whnf) | exact Q_assign (by conv => lhs; whnf) | exact Q_lss rfl rfl)); (focus exact rfl)) | (refine a_cond rfl ?_ ?_ <;> (intro h; (try (have hp := of_decide_eq_true h)); (try (have hp := of_decide_eq_false h)); (try contradiction); (try (exfalso; omega)))) | (((first | apply w_q); (focus exact Q_ix_ownP rfl rfl rfl rfl KSl.h (by omega)); (focus exact rfl))) | (((first | apply w_q); (focus exact Q_ld_ownP rfl rfl (by omega) KAg.h); (focus exact rfl))) | (((first | apply w_q); (focus (refine Q_call (by exact callee_of (isFn_clo _ _) rfl) (hgx) ?_; ((repeat' (first | exact vwRL rfl | refine Vw.agg' ?_ | refine ⟨?_, ?_⟩ )); done))); (focus exact rfl))))); (try all_goals (try show retA _ _ _ _ _ _ _))
      all_goals first
        | (exfalso; omega)
        | (refine ⟨[_], [0], ⟨resV_tmp (by conv => lhs; whnf), trivial⟩, VwOs.mk (by decide) ⟨⟨_, rfl, .row _ _ _⟩, trivial⟩, ?_, rfl⟩; (repeat' (first | exact vwR rfl)); done)
        | (all_goals trace_state); fail
    | false =>
      rw [hp] at hgx
      have h1 : ∀ i (h : i < l.length), i < k + 1 → p l[i] = false := fun i hi hik => by
        by_cases hq : i = k
        · subst hq
          rw [← getD_of hi (0, 0)]; exact hp
        · exact h0 i hi (by omega)
      (repeat' (first | refine a_seq ?_ | refine a_block ?_ | refine a_skip ?_ | refine a_region ?_ | refine l_nil ?_ | (apply w_q; (focus (first | exact Q_move (by conv => lhs; whnf) | exact Q_assign (by conv => lhs; whnf) | exact Q_lss rfl rfl | exact Q_add rfl rfl (by omega))); (focus exact rfl)) | (refine a_cond rfl ?_ ?_ <;> (intro h; (try (have hp := of_decide_eq_true h)); (try (have hp := of_decide_eq_false h)); (try contradiction); (try (exfalso; omega)))) | (((first | apply w_q); (focus exact Q_ix_ownP rfl rfl rfl rfl KSl.h (by omega)); (focus exact rfl))) | (((first | apply w_q); (focus exact Q_ld_ownP rfl rfl (by omega) KAg.h); (focus exact rfl))) | (((first | apply w_q); (focus (refine Q_call (by exact callee_of (isFn_clo _ _) rfl) (hgx) ?_; ((repeat' (first | exact vwRL rfl | refine Vw.agg' ?_ | refine ⟨?_, ?_⟩ )); done))); (focus exact rfl))))); (try all_goals (try show retA _ _ _ _ _ _ _))
      all_goals first
        | (exfalso; omega)
        | (refine ⟨k + 1, [0], ?_, ?_, ?_, rfl⟩ <;> (try dsimp only)
           · exact ⟨by omega, h1⟩
           · omega
           · (refine St.le_mk rfl (VwOs.mk (by decide) ?_) ?_ <;> (repeat' (first | exact trivial | exact vwR rfl | exact Vw.own _ _ rfl | exact VwO.row _ _ _ | refine ⟨⟨_, rfl, ?_⟩, ?_⟩ | refine ⟨?_, ?_⟩ ))))
        | (all_goals trace_state); fail
  · have hi : idx p l = -1 := idx_none fun i hi => h0 i hi (by omega)
    rw [hi]
    (repeat' (first | refine a_seq ?_ | refine a_ret ?_ | refine a_exit ?_ | refine a_region ?_ | refine l_nil ?_ | (apply w_q; (focus (first | exact Q_assign (by conv => lhs; whnf) | exact Q_lss rfl rfl)); (focus exact rfl)) | (refine a_cond rfl ?_ ?_ <;> (intro h; (try (have hp := of_decide_eq_true h)); (try (have hp := of_decide_eq_false h)); (try contradiction); (try (exfalso; omega)))))); (try all_goals (try show retA _ _ _ _ _ _ _))
    all_goals first
      | (exfalso; omega)
      | (refine ⟨[_], [0], ⟨resV_tmp (by conv => lhs; whnf), trivial⟩, VwOs.mk (by decide) ⟨⟨_, rfl, .row _ _ _⟩, trivial⟩, ?_, rfl⟩; (repeat' (first | exact vwR rfl)); done)
      | (all_goals trace_state); fail
set_option maxRecDepth 20000 in
set_option maxHeartbeats 2000000 in
theorem DelP_no {g : FuncId} {ds : List Dat} (p : Nat × Nat → Bool) (l : List (Nat × Nat)) (hl : l.length ≤ 9223372036854775807)
    (hg : ∀ x ∈ l, AC Try.prog g (prV x :: [.rpt ds 0]) [] (.val (.bool (p x))) []) (hno : idx p l = -1) : AC Try.prog 37 [.own 0, .clo g [.rpt ds 0]] [.row 43 2 (pairc (pn l))] (.own 0) [.row 43 2 (pairc (pn l))] := by
  have k1 := IndexOP_ac p l hl hg
  rw [hno] at k1
  refine AC.mk (n := 42) (fn := Try.f37) Try.func37 (by kernel_rfl) rfl rfl rfl rfl (fun cx => ?_); dsimp only [argv, Nat.reduceAdd]
  (repeat' (first | refine a_seq ?_ | refine a_ret ?_ | refine a_region ?_ | refine l_nil ?_ | (apply w_q; (focus (first | exact Q_move (by conv => lhs; whnf) | exact Q_assign (by conv => lhs; whnf) | exact Q_eql rfl rfl)); (focus exact rfl)) | (refine a_cond rfl ?_ ?_ <;> (intro h; (try (have hp := of_decide_eq_true h)); (try (have hp := of_decide_eq_false h)); (try contradiction); (try (exfalso; omega)))) | ((refine w_callW (res := .val (.int .i64 (-1))) (news := [.row 43 2 (pairc (pn l))]) [0] (.inl ⟨rfl, rfl⟩) (k1) ?_ ?_ rfl rfl (by decide) ?_ rfl rfl ?_ (by first | (dsimp only [List.map, putL, AO.rn, AV.rn, AV.rnl, rn_ints, rn_rows, rn_pairs, List.map_cons, List.map_nil, List.set_cons_zero, List.set_cons_succ, List.getD_cons_zero, List.getD_cons_succ]; done) | exact rfl) (by first | (dsimp only [List.map, putL, AO.rn, AV.rn, AV.rnl, rn_ints, rn_rows, rn_pairs, List.map_cons, List.map_nil, List.set_cons_zero, List.set_cons_succ, List.getD_cons_zero, List.getD_cons_succ]; done) | exact rfl) rfl ?_; rotate_left 0; (focus exact rfl); (focus exact rfl); (focus exact rfl); (focus exact rfl); rotate_left 1; all_goals (try (skip)))))); (try all_goals (try show retA _ _ _ _ _ _ _))
  all_goals first
    | (exfalso; omega)
    | (refine ⟨[_], [0], ⟨resV_tmp (by conv => lhs; whnf), trivial⟩, VwOs.mk (by decide) ⟨⟨_, rfl, .row _ _ _⟩, trivial⟩, ?_, rfl⟩; (repeat' (first | exact Vw.own _ _ rfl)); done)
    | (all_goals trace_state); fail
set_option maxRecDepth 20000 in
set_option maxHeartbeats 2000000 in
theorem DelP_ac {g : FuncId} {ds : List Dat} (p : Nat × Nat → Bool) (l : List (Nat × Nat)) (hl : l.length ≤ 9223372036854775807)
    (hg : ∀ x ∈ l, AC Try.prog g (prV x :: [.rpt ds 0]) [] (.val (.bool (p x))) []) (hex : ¬ idx p l = -1) : AC Try.prog 37 [.own 0, .clo g [.rpt ds 0]] [.row 43 2 (pairc (pn l))] (.own 1) [.gone, .row 43 2 (pairc (pn (l.filter fun x => !p x)))] := by
  have k1 := IndexOP_ac p l hl hg
  rcases idxP_cases (p := p) l with ⟨hi, hno⟩ | ⟨k, hi, hk, hpk, hno⟩
  · exact absurd hi hex
  · rw [hi] at k1
    have hpk : p (l.getD k (0, 0)) = true := by rw [getD_of hk]; exact hpk
    have h0 := keepP_pre (by omega) hno
    have h1 : keepP p l (k + 1) = l.take k := by rw [keepP_s hk, hpk, if_pos rfl, h0]
    have h1l : (keepP p l (k + 1)).length = k := by rw [h1, List.length_take]; omega
    have h2 : keptP p l (k + 1) = l := by unfold keptP; rw [h1, List.length_take, Nat.min_eq_left (by omega), List.take_append_drop]
    have hfin : (keptP p l l.length).take (keepP p l l.length).length = l.filter fun x => !p x := by
      unfold keptP; rw [List.take_left, keepP_all]
    refine AC.mk (n := 42) (fn := Try.f37) Try.func37 (by kernel_rfl) rfl rfl rfl rfl (fun cx => ?_); dsimp only [argv, Nat.reduceAdd]
    (repeat' (first | refine a_seq ?_ | refine a_block ?_ | refine a_skip ?_ | refine a_region ?_ | refine l_nil ?_ | (apply w_q; (focus (first | exact Q_move (by conv => lhs; whnf) | exact Q_assign (by conv => lhs; whnf) | exact Q_eql rfl rfl | exact Q_add rfl rfl (by omega))); (focus exact rfl)) | (refine a_cond rfl ?_ ?_ <;> (intro h; (try (have hp := of_decide_eq_true h)); (try (have hp := of_decide_eq_false h)); (try contradiction); (try (exfalso; omega)))) | ((refine w_callW (res := .val (.int .i64 (k : Nat))) (news := [.row 43 2 (pairc (pn l))]) [0] (.inl ⟨rfl, rfl⟩) (k1) ?_ ?_ rfl rfl (by decide) ?_ rfl rfl ?_ (by first | (dsimp only [List.map, putL, AO.rn, AV.rn, AV.rnl, rn_ints, rn_rows, rn_pairs, List.map_cons, List.map_nil, List.set_cons_zero, List.set_cons_succ, List.getD_cons_zero, List.getD_cons_succ]; done) | exact rfl) (by first | (dsimp only [List.map, putL, AO.rn, AV.rn, AV.rnl, rn_ints, rn_rows, rn_pairs, List.map_cons, List.map_nil, List.set_cons_zero, List.set_cons_succ, List.getD_cons_zero, List.getD_cons_succ]; done) | exact rfl) rfl ?_; rotate_left 0; (focus exact rfl); (focus exact rfl); (focus exact rfl); (focus exact rfl); rotate_left 1; all_goals (try (skip)))))); (try all_goals (try show retA _ _ _ _ _ _ _))
    all_goals first
      | (exfalso; omega)
      | skip
    refine w_loop (X := Nat) [0, 1] (by simp only [keepv, getv_cons, Nat.reduceEqDiff, ↓reduceIte]; exact rfl) (fun j => [(5, .val (.int .i64 ((keepP p l j).length : Nat))), (6, .val (.int .i64 (j : Nat)))]) (fun j => [.row 43 2 (pairc (pn (keptP p l j)))]) (fun j => j ≤ l.length) (fun j => l.length - j) (k + 1) ([0]) ?_ ?_ rfl ?_ <;> (try dsimp only [List.cons_append, List.nil_append])
    · omega
    · rw [h2, h1l]
      (refine St.le_mk rfl (VwOs.mk (by decide) ?_) ?_ <;> (repeat' (first | exact trivial | exact vwR rfl | exact Vw.own _ _ rfl | exact VwO.row _ _ _ | refine ⟨⟨_, rfl, ?_⟩, ?_⟩ | refine ⟨?_, ?_⟩ )))
    rintro j hj
    have hkl := keptP_len (p := p) hj
    have hke := keepP_le p l j
    have hpl := pn_len (keptP p l j)
    by_cases hjl : j < l.length
    · have hat := keptP_at (p := p) hjl
      have hgx := hg (l.getD j (0, 0)) (by rw [getD_of hjl]; exact List.getElem_mem _)
      cases hp : p (l.getD j (0, 0)) with
      | true =>
        have e1 := keptP_skip hjl hp
        have e2 := keepP_s (p := p) hjl
        rw [hp, if_pos rfl] at e2
        rw [hp, ← hat] at hgx
        unfold prV at hgx
        (repeat' (first | refine a_seq ?_ | refine a_block ?_ | refine a_skip ?_ | refine a_region ?_ | refine l_nil ?_ | (apply w_q; (focus (first | exact Q_move (by conv => lhs; whnf) | exact Q_assign (by conv => lhs; whnf) | exact Q_load_all rfl rfl KAg.h | exact Q_lss rfl rfl | exact Q_add rfl rfl (by omega) | exact Q_len_ownp rfl rfl KSl.h | exact Q_not rfl)); (focus exact rfl)) | (refine a_cond rfl ?_ ?_ <;> (intro h; (try (have hp := of_decide_eq_true h)); (try (have hp := of_decide_eq_false h)); (try contradiction); (try (exfalso; omega)))) | refine w_alloc KMk.h (by first|(dsimp only[obA,obB,obD,obE,obF,obG,obI,List.map,AO.sh,AV.sh,AV.shl,Nat.reduceAdd];done)|exact rfl) rfl (by first|(dsimp only[obA,obB,obD,obE,obF,obG,obI,List.map,AO.sh,AV.sh,AV.shl,Nat.reduceAdd];done)|exact rfl) (by first|(dsimp only[obA,obB,obD,obE,obF,obG,obI,List.map,AO.sh,AV.sh,AV.shl,Nat.reduceAdd];done)|exact rfl) rfl ?_ | refine w_store_all rfl rfl rfl rfl rfl KSz.h (by first|(dsimp only[obA,obB,obD,obE,obF,obG,obI,List.map,AO.sh,AV.sh,AV.shl,Nat.reduceAdd];done)|exact rfl) ?_ | (((first | apply w_q); (focus exact Q_ix_ownP rfl rfl rfl rfl KSl.h (by omega)); (focus exact rfl))) | (((first | apply w_q); (focus exact Q_ld_ownP rfl rfl (by omega) KAg.h); (focus exact rfl))) | (((first | apply w_q); (focus (refine Q_call (by exact callee_of (isFn_clo _ _) rfl) (hgx) ?_; ((repeat' (first | exact vwRL rfl | refine Vw.agg' ?_ | refine ⟨?_, ?_⟩ )); done))); (focus exact rfl))))); (try all_goals (try show retA _ _ _ _ _ _ _))
        all_goals first
          | (exfalso; omega)
          | (refine ⟨j + 1, [0], ?_, ?_, ?_, rfl⟩ <;> (try dsimp only)
             · omega
             · omega
             · rw [e1, e2]
               (refine St.le_mk rfl (VwOs.mk (by decide) ?_) ?_ <;> (repeat' (first | exact trivial | exact vwR rfl | exact Vw.own _ _ rfl | exact VwO.row _ _ _ | refine ⟨⟨_, rfl, ?_⟩, ?_⟩ | refine ⟨?_, ?_⟩ ))))
          | (all_goals trace_state); fail
      | false =>
        have e1 := keptP_set hjl hp
        have e2 := keepP_s (p := p) hjl
        rw [hp, if_neg (by decide)] at e2
        have e3 : (keepP p l (j + 1)).length = (keepP p l j).length + 1 := by rw [e2, List.length_append, List.length_singleton]
        rw [hp, ← hat] at hgx
        rw [← hat] at e1
        unfold prV at hgx
        have e4 := pn_set (keptP p l j) (keepP p l j).length ((keptP p l j).getD j (0, 0))
        rw [e1] at e4
        generalize keptP p l j = R at *
        generalize (keepP p l j).length = m at *
        (repeat' (first | refine a_seq ?_ | refine a_block ?_ | refine a_skip ?_ | refine a_region ?_ | refine l_nil ?_ | (apply w_q; (focus (first | exact Q_move (by conv => lhs; whnf) | exact Q_assign (by conv => lhs; whnf) | exact Q_load_all rfl rfl KAg.h | exact Q_lss rfl rfl | exact Q_add rfl rfl (by omega) | exact Q_len_ownp rfl rfl KSl.h | exact Q_not rfl)); (focus exact rfl)) | (refine a_cond rfl ?_ ?_ <;> (intro h; (try (have hp := of_decide_eq_true h)); (try (have hp := of_decide_eq_false h)); (try contradiction); (try (exfalso; omega)))) | refine w_alloc KMk.h (by first|(dsimp only[obA,obB,obD,obE,obF,obG,obI,List.map,AO.sh,AV.sh,AV.shl,Nat.reduceAdd];done)|exact rfl) rfl (by first|(dsimp only[obA,obB,obD,obE,obF,obG,obI,List.map,AO.sh,AV.sh,AV.shl,Nat.reduceAdd];done)|exact rfl) (by first|(dsimp only[obA,obB,obD,obE,obF,obG,obI,List.map,AO.sh,AV.sh,AV.shl,Nat.reduceAdd];done)|exact rfl) rfl ?_ | refine w_store_all rfl rfl rfl rfl rfl KSz.h (by first|(dsimp only[obA,obB,obD,obE,obF,obG,obI,List.map,AO.sh,AV.sh,AV.shl,Nat.reduceAdd];done)|exact rfl) ?_ | (((first | apply w_q); (focus exact Q_ix_ownP rfl rfl rfl rfl KSl.h (by omega)); (focus exact rfl))) | (((first | apply w_q); (focus exact Q_ld_ownP rfl rfl (by omega) KAg.h); (focus exact rfl))) | (((first | apply w_q); (focus (refine Q_call (by exact callee_of (isFn_clo _ _) rfl) (hgx) ?_; ((repeat' (first | exact vwRL rfl | refine Vw.agg' ?_ | refine ⟨?_, ?_⟩ )); done))); (focus exact rfl))) | ((refine w_stP (o := m) rfl rfl (by omega) rfl KSz.h (by first|(dsimp only[obA,obB,obD,obE,obF,obG,obI,List.map,AO.sh,AV.sh,AV.shl,Nat.reduceAdd];done)|exact rfl) ?_)))); (try all_goals (try show retA _ _ _ _ _ _ _))
        all_goals first
          | (exfalso; omega)
          | (refine ⟨j + 1, [0], ?_, ?_, ?_, rfl⟩ <;> (try dsimp only)
             · omega
             · omega
             · rw [e3, ← e4]
               (refine St.le_mk rfl (VwOs.mk (by decide) ?_) ?_ <;> (repeat' (first | exact trivial | exact vwR rfl | exact Vw.own _ _ rfl | exact VwO.row _ _ _ | refine ⟨⟨_, rfl, ?_⟩, ?_⟩ | refine ⟨?_, ?_⟩ ))))
          | (all_goals trace_state); fail
    · obtain rfl : j = l.length := by omega
      obtain ⟨R2, hR2⟩ : ∃ R2, (pn (keptP p l l.length)).take (keepP p l l.length).length ++ List.replicate ((pn (keptP p l l.length)).length - (keepP p l l.length).length) (0, 0) = R2 := ⟨_, rfl⟩
      have hR3 : R2.take (keepP p l l.length).length = pn (l.filter fun x => !p x) := by
        rw [← hR2, List.take_left' (by rw [List.length_take]; omega), ← hfin]
        unfold pn
        rw [List.map_take]
      have hR4 : R2.length = l.length := by rw [← hR2]; simp; omega
      generalize (keepP p l l.length).length = m at *
      (repeat' (first | refine a_seq ?_ | refine a_ret ?_ | refine a_exit ?_ | refine a_region ?_ | refine l_nil ?_ | (apply w_q; (focus (first | exact Q_move (by conv => lhs; whnf) | exact Q_assign (by conv => lhs; whnf) | exact Q_lss rfl rfl | exact Q_len_ownp rfl rfl KSl.h)); (focus exact rfl)) | (refine a_cond rfl ?_ ?_ <;> (intro h; (try (have hp := of_decide_eq_true h)); (try (have hp := of_decide_eq_false h)); (try contradiction); (try (exfalso; omega)))) | ((refine w_clrP (i := m) (r := R2) rfl rfl rfl rfl (by omega) KSl.h KMk.h hR2 (by first|(dsimp only[obA,obB,obD,obE,obF,obG,obI,List.map,AO.sh,AV.sh,AV.shl,Nat.reduceAdd];done)|exact rfl) rfl ?_)) | ((refine w_cutP (kk := m) rfl rfl rfl rfl (by omega) hR3 KSl.h (by first|(dsimp only[obA,obB,obD,obE,obF,obG,obI,List.map,AO.sh,AV.sh,AV.shl,Nat.reduceAdd];done)|exact rfl) rfl rfl ?_)))); (try all_goals (try show retA _ _ _ _ _ _ _))
      all_goals first
        | (exfalso; omega)
        | (refine ⟨[_], [0, 1], ⟨resV_tmp (by conv => lhs; whnf), trivial⟩, VwOs.mk (by decide) ⟨⟨_, rfl, .gone _⟩, ⟨⟨_, rfl, .row _ _ _⟩, trivial⟩⟩, ?_, rfl⟩; (repeat' (first | exact Vw.own _ _ rfl)); done)
        | (all_goals trace_state); fail
end Go.Proofs.Ytgojkabjgagjcaa
