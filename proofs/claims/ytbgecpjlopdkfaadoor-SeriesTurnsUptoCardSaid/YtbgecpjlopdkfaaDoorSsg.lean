import Derived.Test.YtbgecpjlopdkfaaDoorSsf
import Derived.Test.YtbgecpjlopdkfaaDoorSsd
set_option linter.unusedSimpArgs false
set_option linter.unusedVariables false
set_option linter.unusedSectionVars false
set_option maxRecDepth 20000
namespace Go.Proofs.YtbgecpjlopdkfaaDoor
attribute [local irreducible] QOp aL aC qL
theorem PlaceX_ac (l : List Int) (x : Int) (hl : l.length ≤ 9223372036854775807) : AC Tryd.prog 50 [ints l, .val (.int .i64 x)] [] (.val (.int .i64 (idx (fun y => decide (y = x)) l))) [] := by
  refine AC.mk (n := 19) (fn := Tryd.f50) Tryd.func50 (by kernel_rfl) rfl rfl rfl rfl (fun cx => ?_); dsimp only [argv, Nat.reduceAdd]
  (repeat' (first | refine a_seq ?_ | refine a_block ?_ | refine a_region ?_ | refine l_nil ?_ | (apply w_q; (focus (first | exact Q_assign (by conv => lhs; whnf))); (focus exact rfl)))); (try all_goals (try show retA _ _ _ _ _ _ _))
  (refine w_loop (X := Nat) [0, 1] (by simp only [keepv, getv_cons, Nat.reduceEqDiff, ↓reduceIte]; exact rfl) (fun k => [(5, .val (.int .i64 (k : Int)))]) (fun _ => []) (fun k => k ≤ l.length ∧ ∀ j, j < k → (fun i => ¬ l.getD i 0 = x) j) (fun k => l.length - k) (0) ([]) ?_ ?_ rfl ?_ <;> (try dsimp only [List.cons_append, List.nil_append]); (focus exact ⟨Nat.zero_le _, fun j hj => absurd hj (Nat.not_lt_zero _)⟩); (focus (refine St.le_mk rfl (VwOs.mk (by decide) ?_) ?_ <;> (repeat' (first | exact trivial | exact vwR rfl | exact Vw.ro _ | refine ⟨?_, ?_⟩ )))); rintro k ⟨hk, hall⟩; try dsimp only at *)
  have hs1 : k < l.length → l.getD k 0 = x → idx (fun y => decide (y = x)) l = k := fun h1 h2 => idx_some h1 (fun i h3 h4 => decide_eq_false (by rw [← getD_of h3 0]; exact hall i h4)) (decide_eq_true (by rw [← getD_of h1 0]; exact h2))
  have hs2 : k = l.length → idx (fun y => decide (y = x)) l = -1 := fun h1 => idx_none fun i h2 => decide_eq_false (by rw [← getD_of h2 0]; exact hall i (by omega))
  (repeat' (first | refine a_seq ?_ | refine a_block ?_ | refine a_skip ?_ | refine a_ret ?_ | refine a_exit ?_ | refine a_region ?_ | refine l_nil ?_ | (apply w_q; (focus (first | exact Q_move (by conv => lhs; whnf) | exact Q_assign (by conv => lhs; whnf) | exact Q_lss rfl rfl | exact Q_eql rfl rfl | exact Q_add rfl rfl (by omega) | exact Q_ix_ints rfl rfl rfl KSl.h (by omega) | exact Q_ld_ints rfl (by omega) KSc.h | exact Q_len_ints rfl KSl.h)); (focus exact rfl)) | (refine a_cond rfl ?_ ?_ <;> (intro h; (try (have hp := of_decide_eq_true h)); (try (have hp := of_decide_eq_false h)); (try contradiction); (try (exfalso; omega)))))); (try all_goals (try show retA _ _ _ _ _ _ _))
  all_goals first
    | (exfalso; omega)
    | ((refine ⟨k + 1, [], ?_, ?_, ?_, rfl⟩ <;> (try dsimp only); (focus (refine ⟨by omega, fun j hj => ?_⟩; by_cases hq : j = k; (focus (subst hq; assumption)); (focus exact hall j (by omega)))); (focus omega); (focus (refine St.le_mk rfl (VwOs.mk (by decide) ?_) ?_ <;> (repeat' (first | exact trivial | exact vwR rfl | exact Vw.ro _ | refine ⟨?_, ?_⟩ ))))); done)
    | (rw [hs1 (by omega) (by assumption)]; refine ⟨[_], [], ⟨resV_tmp (by conv => lhs; whnf), trivial⟩, VwOs.mk (by decide) trivial, ?_, rfl⟩; (repeat' (first | exact vwR rfl)); done)
    | (rw [hs2 (by omega)]; refine ⟨[_], [], ⟨resV_tmp (by conv => lhs; whnf), trivial⟩, VwOs.mk (by decide) trivial, ?_, rfl⟩; (repeat' (first | exact vwR rfl)); done)
    | (all_goals trace_state); fail
theorem idxX_mem {L : List Int} {k : Int} : 0 ≤ idx (fun y => decide (y = k)) L ↔ k ∈ L := by
  have := idx_any (fun y => decide (y = k)) L
  rw [← decide_eq_true_iff (p := 0 ≤ idx (fun y => decide (y = k)) L)]
  rw [show decide (0 ≤ idx (fun y => decide (y = k)) L) = decide (idx (fun y => decide (y = k)) L ≥ 0) from rfl, this, List.any_eq_true]
  simp only [decide_eq_true_eq]
  constructor
  · rintro ⟨a, ha, rfl⟩; exact ha
  · intro h; exact ⟨k, h, rfl⟩
/-- Is each number below the length there? -/
def prB (l : List Int) : Bool := (List.range l.length).all fun p => decide ((p : Int) ∈ l)
theorem prB_no {l : List Int} {p : Nat} (hp : p < l.length) (h : ¬ (p : Int) ∈ l) : prB l = false := by
  rw [Bool.eq_false_iff]
  intro hq
  have := List.all_eq_true.1 hq p (List.mem_range.2 hp)
  exact h (of_decide_eq_true this)
theorem prB_yes {l : List Int} (h : ∀ p : Nat, p < l.length → (p : Int) ∈ l) : prB l = true := List.all_eq_true.2 fun p hp => decide_eq_true (h p (List.mem_range.1 hp))
set_option maxRecDepth 20000 in
set_option maxHeartbeats 2000000 in
theorem IsPermX_ac (l : List Int) (hl : l.length ≤ 1000) : AC Tryd.prog 64 [.val (.int .i64 (l.length : Nat)), ints l] [] (.val (.bool (prB l))) [] := by
  have hP := fun (x : Nat) => PlaceX_ac l (x : Int) (by omega)
  refine AC.mk (n := 19) (fn := Tryd.f64) Tryd.func64 (by kernel_rfl) rfl rfl rfl rfl (fun cx => ?_); dsimp only [argv, Nat.reduceAdd]
  (repeat' (first | refine a_seq ?_ | refine a_block ?_ | refine a_skip ?_ | refine a_region ?_ | refine l_nil ?_ | (apply w_q; (focus (first | exact Q_move (by conv => lhs; whnf) | exact Q_assign (by conv => lhs; whnf) | exact Q_neq rfl rfl | exact Q_len_ints rfl KSl.h)); (focus exact rfl)) | (refine a_cond rfl ?_ ?_ <;> (intro h; (try (have hp := of_decide_eq_true h)); (try (have hp := of_decide_eq_false h)); (try contradiction); (try (exfalso; omega)))))); (try all_goals (try show retA _ _ _ _ _ _ _))
  all_goals first
    | (exfalso; omega)
    | (exfalso; simp_all; done)
    | skip
  refine w_loop (X := Nat) [0, 1] (by simp only [keepv, getv_cons, Nat.reduceEqDiff, ↓reduceIte]; exact rfl) (fun j => [(5, .val (.int .i64 (j : Nat)))]) (fun _ => []) (fun j => j ≤ l.length ∧ ∀ p : Nat, p < j → (p : Int) ∈ l) (fun j => l.length - j) (0) ([]) ?_ ?_ rfl ?_ <;> (try dsimp only [List.cons_append, List.nil_append])
  · exact ⟨Nat.zero_le _, fun _ h => by omega⟩
  · (refine St.le_mk rfl (VwOs.mk (by decide) ?_) ?_ <;> (repeat' (first | exact trivial | exact vwR rfl | exact Vw.ro _ | refine ⟨?_, ?_⟩ )))
  rintro j ⟨hj, hall⟩
  by_cases hjn : j < l.length
  · have hP := hP j
    by_cases hm : ((j : Nat) : Int) ∈ l
    · have hnn := idxX_mem.2 hm
      generalize idx (fun y => decide (y = ((j : Nat) : Int))) l = v at *
      (repeat' (first | refine a_seq ?_ | refine a_block ?_ | refine a_skip ?_ | refine a_region ?_ | refine l_nil ?_ | (apply w_q; (focus (first | exact Q_move (by conv => lhs; whnf) | exact Q_assign (by conv => lhs; whnf) | exact Q_lss rfl rfl | exact Q_add rfl rfl (by omega))); (focus exact rfl)) | (refine a_cond rfl ?_ ?_ <;> (intro h; (try (have hp := of_decide_eq_true h)); (try (have hp := of_decide_eq_false h)); (try contradiction); (try (exfalso; omega)))) | (((first | apply w_q); (focus (refine Q_call (.inl ⟨rfl, rfl⟩) (hP) ?_; ((repeat' (first | exact vwRL rfl | exact Vw.ro _ | refine ⟨?_, ?_⟩ )); done))); (focus exact rfl))))); (try all_goals (try show retA _ _ _ _ _ _ _))
      all_goals first
        | (exfalso; omega)
        | (refine ⟨j + 1, [], ?_, ?_, ?_, rfl⟩ <;> (try dsimp only); (focus (refine ⟨by omega, fun p hp => ?_⟩; by_cases e : p = j; (focus (subst e; exact hm)); (focus exact hall p (by omega)))); (focus omega); (focus (refine St.le_mk rfl (VwOs.mk (by decide) ?_) ?_ <;> (repeat' (first | exact trivial | exact vwR rfl | exact Vw.ro _ | refine ⟨?_, ?_⟩ )))); done)
        | (all_goals trace_state); fail
    · have hnn : ¬ 0 ≤ idx (fun y => decide (y = ((j : Nat) : Int))) l := fun h => hm (idxX_mem.1 h)
      rw [prB_no hjn hm]
      generalize idx (fun y => decide (y = ((j : Nat) : Int))) l = v at *
      (repeat' (first | refine a_seq ?_ | refine a_block ?_ | refine a_skip ?_ | refine a_ret ?_ | refine a_region ?_ | refine l_nil ?_ | (apply w_q; (focus (first | exact Q_move (by conv => lhs; whnf) | exact Q_assign (by conv => lhs; whnf) | exact Q_lss rfl rfl)); (focus exact rfl)) | (refine a_cond rfl ?_ ?_ <;> (intro h; (try (have hp := of_decide_eq_true h)); (try (have hp := of_decide_eq_false h)); (try contradiction); (try (exfalso; omega)))) | (((first | apply w_q); (focus (refine Q_call (.inl ⟨rfl, rfl⟩) (hP) ?_; ((repeat' (first | exact vwRL rfl | exact Vw.ro _ | refine ⟨?_, ?_⟩ )); done))); (focus exact rfl))))); (try all_goals (try show retA _ _ _ _ _ _ _))
      all_goals first
        | (exfalso; omega)
        | (refine ⟨[_], [], ⟨resV_tmp (by conv => lhs; whnf), trivial⟩, VwOs.mk (by decide) trivial, ?_, rfl⟩; (repeat' (first | exact vwR rfl)); done)
        | (all_goals trace_state); fail
  · rw [prB_yes fun p hp => hall p (by omega)]
    (repeat' (first | refine a_seq ?_ | refine a_ret ?_ | refine a_exit ?_ | refine a_region ?_ | refine l_nil ?_ | (apply w_q; (focus (first | exact Q_move (by conv => lhs; whnf) | exact Q_assign (by conv => lhs; whnf) | exact Q_lss rfl rfl)); (focus exact rfl)) | (refine a_cond rfl ?_ ?_ <;> (intro h; (try (have hp := of_decide_eq_true h)); (try (have hp := of_decide_eq_false h)); (try contradiction); (try (exfalso; omega)))))); (try all_goals (try show retA _ _ _ _ _ _ _))
    all_goals first
      | (exfalso; omega)
      | (refine ⟨[_], [], ⟨resV_tmp (by conv => lhs; whnf), trivial⟩, VwOs.mk (by decide) trivial, ?_, rfl⟩; (repeat' (first | exact vwR rfl)); done)
      | (all_goals trace_state); fail
/-- What is wrong with a term. -/
def tck (t : Tr) : Int := if 40 < t.cnt ∨ 10 < t.pts.length then 2 else if t.frm ≠ 0 then t.frm else if prB t.pts = true then 0 else 3
set_option maxRecDepth 20000 in
set_option maxHeartbeats 4000000 in
theorem CheckTerm_ac (k p : Int) (l : List Tr) (hb : 1 + kcnt l ≤ 100000000) : AC Tryd.prog 23 [ta3 k p l] [] (.val (.int .i64 (tck (.mk k p l)))) [] := by
  have k1 := TermCount_ac (1 + kdep l) k p l 40 (Nat.le_refl _) hb (by decide)
  have k2 := AC.vw0 (TermPoints_ac (1 + kdep l) k p l (Nat.le_refl _) hb) (res2 := ints (Tr.mk k p l).pts) (by (repeat' (first | exact Vw.rowro _ _ _ _ rfl (by decide))))
  have k3 := termWrong_ac (1 + kdep l) k p l (Nat.le_refl _) hb
  have ec : (Tr.mk k p l).cnt = 1 + kcnt l := by unfold Tr.cnt; rfl
  have hpc := pts_cnt (Tr.mk k p l)
  rw [ec] at hpc
  unfold tck
  rw [ec]
  have k4 := fun h => IsPermX_ac (Tr.mk k p l).pts h
  generalize (Tr.mk k p l).pts = L at *
  generalize (Tr.mk k p l).frm = F at *
  generalize prB L = B at *
  generalize 1 + kcnt l = c at *
  clear ec
  unfold ta3 at *
  by_cases h1 : 40 < c ∨ 10 < L.length
  · rw [if_pos h1]
    clear k4
    refine AC.mk (n := 26) (fn := Tryd.f23) Tryd.func23 (by kernel_rfl) rfl rfl rfl rfl (fun cx => ?_); dsimp only [argv, Nat.reduceAdd]
    (repeat' (first | refine a_seq ?_ | refine a_ret ?_ | refine a_region ?_ | refine l_nil ?_ | (apply w_q; (focus (first | exact Q_move (by conv => lhs; whnf) | exact Q_assign (by conv => lhs; whnf) | exact Q_load_all rfl rfl KAg.h | exact Q_gtr rfl rfl | exact Q_len_ints rfl KSl.h | exact Q_pick_t rfl (by assumption) (by conv => lhs; whnf) | exact Q_pick_f rfl (by assumption) (by conv => lhs; whnf))); (focus exact rfl)) | (refine a_cond rfl ?_ ?_ <;> (intro h; (try (have hp := of_decide_eq_true h)); (try (have hp := of_decide_eq_false h)); (try contradiction); (try (exfalso; omega)))) | refine w_guard_y rfl rfl rfl (by first | assumption | rfl) ?_ | refine w_guard_n rfl rfl rfl (by first | assumption | rfl) ?_ | (refine w_guard rfl rfl rfl ?_ ?_ <;> (intro h; (try (have hp := of_decide_eq_true h)); (try (have hp := of_decide_eq_false h)); (try contradiction); (try (exfalso; omega)))) | refine w_box rfl rfl (by first|(dsimp only[obA,obB,obD,obE,obF,obG,obI,List.map,AO.sh,AV.sh,AV.shl,Nat.reduceAdd];done)|exact rfl) (by first|(dsimp only[obA,obB,obD,obE,obF,obG,obI,List.map,AO.sh,AV.sh,AV.shl,Nat.reduceAdd];done)|exact rfl) rfl ?_ | (((first | apply w_q); (focus (refine Q_call (.inl ⟨rfl, rfl⟩) (k1) ?_; ((repeat' (first | exact trivial | exact vwR rfl | exact vwRL rfl | exact Vw.ro _ | refine Vw.agg' ?_ | refine ⟨?_, ?_⟩ )); done))); (focus exact rfl))) | ((refine w_callV (.inl ⟨rfl, rfl⟩) (k2) ?_ (by first | (dsimp only [AV.sh, AV.shl, sh_ints, sh_rows, sh_pairs, sh_ords]; done) | exact rfl) rfl ?_; rotate_left 0; (focus ((repeat' (first | exact trivial | exact Vs.val _ | exact Vs.ro _ | refine Vs.agg' ?_ | refine ⟨?_, ?_⟩)); done)); rotate_left 1; all_goals (try (skip)))))); (try all_goals (try show retA _ _ _ _ _ _ _))
    all_goals first
      | (exfalso; omega)
      | (refine ⟨[_], [], ⟨resV_tmp (by conv => lhs; whnf), trivial⟩, VwOs.mk (by decide) trivial, ?_, rfl⟩; (repeat' (first | exact vwR rfl)); done)
      | (all_goals trace_state); fail
  rw [if_neg h1]
  have k4 := k4 (by omega)
  by_cases h2 : F = 0
  · rw [if_neg (by omega)]
    cases B
    · rw [if_neg (by decide)]
      refine AC.mk (n := 26) (fn := Tryd.f23) Tryd.func23 (by kernel_rfl) rfl rfl rfl rfl (fun cx => ?_); dsimp only [argv, Nat.reduceAdd]
      (repeat' (first | refine a_seq ?_ | refine a_skip ?_ | refine a_ret ?_ | refine a_region ?_ | refine l_nil ?_ | (apply w_q; (focus (first | exact Q_move (by conv => lhs; whnf) | exact Q_assign (by conv => lhs; whnf) | exact Q_load_all rfl rfl KAg.h | exact Q_gtr rfl rfl | exact Q_neq rfl rfl | exact Q_len_ints rfl KSl.h | exact Q_not rfl | exact Q_pick_f rfl (by assumption) (by conv => lhs; whnf))); (focus exact rfl)) | (refine a_cond rfl ?_ ?_ <;> (intro h; (try (have hp := of_decide_eq_true h)); (try (have hp := of_decide_eq_false h)); (try contradiction); (try (exfalso; omega)))) | refine w_guard_y rfl rfl rfl (by first | assumption | rfl) ?_ | (refine w_guard rfl rfl rfl ?_ ?_ <;> (intro h; (try (have hp := of_decide_eq_true h)); (try (have hp := of_decide_eq_false h)); (try contradiction); (try (exfalso; omega)))) | refine w_box rfl rfl (by first|(dsimp only[obA,obB,obD,obE,obF,obG,obI,List.map,AO.sh,AV.sh,AV.shl,Nat.reduceAdd];done)|exact rfl) (by first|(dsimp only[obA,obB,obD,obE,obF,obG,obI,List.map,AO.sh,AV.sh,AV.shl,Nat.reduceAdd];done)|exact rfl) rfl ?_ | (((first | apply w_q); (focus (refine Q_call (.inl ⟨rfl, rfl⟩) (k1) ?_; ((repeat' (first | exact trivial | exact vwR rfl | exact vwRL rfl | exact Vw.ro _ | refine Vw.agg' ?_ | refine ⟨?_, ?_⟩ )); done))); (focus exact rfl))) | ((refine w_callV (.inl ⟨rfl, rfl⟩) (k2) ?_ (by first | (dsimp only [AV.sh, AV.shl, sh_ints, sh_rows, sh_pairs, sh_ords]; done) | exact rfl) rfl ?_; rotate_left 0; (focus ((repeat' (first | exact trivial | exact Vs.val _ | exact Vs.ro _ | refine Vs.agg' ?_ | refine ⟨?_, ?_⟩)); done)); rotate_left 1; all_goals (try (skip)))) | (((first | apply w_q); (focus (refine Q_call (.inl ⟨rfl, rfl⟩) (k3) ?_; ((repeat' (first | exact trivial | exact vwR rfl | exact Vw.ro _ | refine Vw.agg' ?_ | refine ⟨?_, ?_⟩ )); done))); (focus exact rfl))) | (((first | apply w_q); (focus (refine Q_call (.inl ⟨rfl, rfl⟩) (k4) ?_; ((repeat' (first | exact trivial | exact vwR rfl | exact Vw.ro _ | refine ⟨?_, ?_⟩ )); done))); (focus exact rfl))))); (try all_goals (try show retA _ _ _ _ _ _ _))
      all_goals first
        | (exfalso; omega)
        | (refine ⟨[_], [], ⟨resV_tmp (by conv => lhs; whnf), trivial⟩, VwOs.mk (by decide) trivial, ?_, rfl⟩; (repeat' (first | exact vwR rfl)); done)
        | (all_goals trace_state); fail
    · rw [if_pos rfl]
      refine AC.mk (n := 26) (fn := Tryd.f23) Tryd.func23 (by kernel_rfl) rfl rfl rfl rfl (fun cx => ?_); dsimp only [argv, Nat.reduceAdd]
      (repeat' (first | refine a_seq ?_ | refine a_skip ?_ | refine a_ret ?_ | refine a_region ?_ | refine l_nil ?_ | (apply w_q; (focus (first | exact Q_move (by conv => lhs; whnf) | exact Q_assign (by conv => lhs; whnf) | exact Q_load_all rfl rfl KAg.h | exact Q_gtr rfl rfl | exact Q_neq rfl rfl | exact Q_len_ints rfl KSl.h | exact Q_not rfl | exact Q_pick_f rfl (by assumption) (by conv => lhs; whnf))); (focus exact rfl)) | (refine a_cond rfl ?_ ?_ <;> (intro h; (try (have hp := of_decide_eq_true h)); (try (have hp := of_decide_eq_false h)); (try contradiction); (try (exfalso; omega)))) | refine w_guard_y rfl rfl rfl (by first | assumption | rfl) ?_ | (refine w_guard rfl rfl rfl ?_ ?_ <;> (intro h; (try (have hp := of_decide_eq_true h)); (try (have hp := of_decide_eq_false h)); (try contradiction); (try (exfalso; omega)))) | refine w_box rfl rfl (by first|(dsimp only[obA,obB,obD,obE,obF,obG,obI,List.map,AO.sh,AV.sh,AV.shl,Nat.reduceAdd];done)|exact rfl) (by first|(dsimp only[obA,obB,obD,obE,obF,obG,obI,List.map,AO.sh,AV.sh,AV.shl,Nat.reduceAdd];done)|exact rfl) rfl ?_ | (((first | apply w_q); (focus (refine Q_call (.inl ⟨rfl, rfl⟩) (k1) ?_; ((repeat' (first | exact trivial | exact vwR rfl | exact vwRL rfl | exact Vw.ro _ | refine Vw.agg' ?_ | refine ⟨?_, ?_⟩ )); done))); (focus exact rfl))) | ((refine w_callV (.inl ⟨rfl, rfl⟩) (k2) ?_ (by first | (dsimp only [AV.sh, AV.shl, sh_ints, sh_rows, sh_pairs, sh_ords]; done) | exact rfl) rfl ?_; rotate_left 0; (focus ((repeat' (first | exact trivial | exact Vs.val _ | exact Vs.ro _ | refine Vs.agg' ?_ | refine ⟨?_, ?_⟩)); done)); rotate_left 1; all_goals (try (skip)))) | (((first | apply w_q); (focus (refine Q_call (.inl ⟨rfl, rfl⟩) (k3) ?_; ((repeat' (first | exact trivial | exact vwR rfl | exact Vw.ro _ | refine Vw.agg' ?_ | refine ⟨?_, ?_⟩ )); done))); (focus exact rfl))) | (((first | apply w_q); (focus (refine Q_call (.inl ⟨rfl, rfl⟩) (k4) ?_; ((repeat' (first | exact trivial | exact vwR rfl | exact Vw.ro _ | refine ⟨?_, ?_⟩ )); done))); (focus exact rfl))))); (try all_goals (try show retA _ _ _ _ _ _ _))
      all_goals first
        | (exfalso; omega)
        | (refine ⟨[_], [], ⟨resV_tmp (by conv => lhs; whnf), trivial⟩, VwOs.mk (by decide) trivial, ?_, rfl⟩; (repeat' (first | exact vwR rfl)); done)
        | (all_goals trace_state); fail
  · rw [if_pos h2]
    clear k4
    refine AC.mk (n := 26) (fn := Tryd.f23) Tryd.func23 (by kernel_rfl) rfl rfl rfl rfl (fun cx => ?_); dsimp only [argv, Nat.reduceAdd]
    (repeat' (first | refine a_seq ?_ | refine a_skip ?_ | refine a_ret ?_ | refine a_region ?_ | refine l_nil ?_ | (apply w_q; (focus (first | exact Q_move (by conv => lhs; whnf) | exact Q_assign (by conv => lhs; whnf) | exact Q_load_all rfl rfl KAg.h | exact Q_gtr rfl rfl | exact Q_neq rfl rfl | exact Q_len_ints rfl KSl.h | exact Q_pick_f rfl (by assumption) (by conv => lhs; whnf))); (focus exact rfl)) | (refine a_cond rfl ?_ ?_ <;> (intro h; (try (have hp := of_decide_eq_true h)); (try (have hp := of_decide_eq_false h)); (try contradiction); (try (exfalso; omega)))) | refine w_guard_y rfl rfl rfl (by first | assumption | rfl) ?_ | (refine w_guard rfl rfl rfl ?_ ?_ <;> (intro h; (try (have hp := of_decide_eq_true h)); (try (have hp := of_decide_eq_false h)); (try contradiction); (try (exfalso; omega)))) | refine w_box rfl rfl (by first|(dsimp only[obA,obB,obD,obE,obF,obG,obI,List.map,AO.sh,AV.sh,AV.shl,Nat.reduceAdd];done)|exact rfl) (by first|(dsimp only[obA,obB,obD,obE,obF,obG,obI,List.map,AO.sh,AV.sh,AV.shl,Nat.reduceAdd];done)|exact rfl) rfl ?_ | (((first | apply w_q); (focus (refine Q_call (.inl ⟨rfl, rfl⟩) (k1) ?_; ((repeat' (first | exact trivial | exact vwR rfl | exact vwRL rfl | exact Vw.ro _ | refine Vw.agg' ?_ | refine ⟨?_, ?_⟩ )); done))); (focus exact rfl))) | ((refine w_callV (.inl ⟨rfl, rfl⟩) (k2) ?_ (by first | (dsimp only [AV.sh, AV.shl, sh_ints, sh_rows, sh_pairs, sh_ords]; done) | exact rfl) rfl ?_; rotate_left 0; (focus ((repeat' (first | exact trivial | exact Vs.val _ | exact Vs.ro _ | refine Vs.agg' ?_ | refine ⟨?_, ?_⟩)); done)); rotate_left 1; all_goals (try (skip)))) | (((first | apply w_q); (focus (refine Q_call (.inl ⟨rfl, rfl⟩) (k3) ?_; ((repeat' (first | exact trivial | exact vwR rfl | exact Vw.ro _ | refine Vw.agg' ?_ | refine ⟨?_, ?_⟩ )); done))); (focus exact rfl))))); (try all_goals (try show retA _ _ _ _ _ _ _))
    all_goals first
      | (exfalso; omega)
      | (refine ⟨[_], [], ⟨resV_tmp (by conv => lhs; whnf), trivial⟩, VwOs.mk (by decide) trivial, ?_, rfl⟩; (repeat' (first | exact vwR rfl)); done)
      | (all_goals trace_state); fail
end Go.Proofs.YtbgecpjlopdkfaaDoor
