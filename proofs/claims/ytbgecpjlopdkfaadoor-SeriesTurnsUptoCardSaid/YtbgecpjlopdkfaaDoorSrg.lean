import Derived.Test.YtbgecpjlopdkfaaDoorSrb
import Derived.Test.YtbgecpjlopdkfaaDoorSrf
set_option linter.unusedSimpArgs false
set_option linter.unusedVariables false
set_option linter.unusedSectionVars false
set_option maxRecDepth 20000
namespace Go.Proofs.YtbgecpjlopdkfaaDoor
attribute [local irreducible] QOp aL aC qL
def sink (c : Int → Int → Int) : Nat → List Int → List Int
  | 0, L => L
  | j + 1, L => if c (L.getD (j + 1) 0) (L.getD j 0) < 0 then sink c j ((L.set (j + 1) (L.getD j 0)).set j (L.getD (j + 1) 0)) else L
def insR (c : Int → Int → Int) : Nat → Nat → List Int → List Int
  | 0, _, L => L
  | f + 1, i, L => insR c f (i + 1) (sink c i L)
def isF (c : Int → Int → Int) (l : List Int) : List Int := insR c (l.length - 1) 1 l
theorem getD_mem' {l : List Int} {i : Nat} (h : i < l.length) : l.getD i 0 ∈ l := by
  rw [List.getD_eq_getElem?_getD, List.getElem?_eq_getElem h]
  exact List.getElem_mem h
theorem mem_swap {l : List Int} {i j : Nat} (hi : i < l.length) (hj : j < l.length) {x : Int} (h : x ∈ (l.set i (l.getD j 0)).set j (l.getD i 0)) : x ∈ l := by
  rcases List.mem_or_eq_of_mem_set h with h | h
  · rcases List.mem_or_eq_of_mem_set h with h | h
    · exact h
    · rw [h]; exact getD_mem' hj
  · rw [h]; exact getD_mem' hi
theorem sink_len (c : Int → Int → Int) : ∀ (j : Nat) (L : List Int), (sink c j L).length = L.length
  | 0, L => rfl
  | j + 1, L => by
    unfold sink
    split
    · rw [sink_len c j, List.length_set, List.length_set]
    · rfl
theorem sink_mem (c : Int → Int → Int) : ∀ (j : Nat) (L : List Int), j < L.length → ∀ x, x ∈ sink c j L → x ∈ L
  | 0, L, _, x, h => h
  | j + 1, L, hj, x, h => by
    unfold sink at h
    split at h
    · exact mem_swap hj (by omega) (sink_mem c j _ (by rw [List.length_set, List.length_set]; omega) x h)
    · exact h
attribute [local irreducible] FOp POp hL xH
set_option maxRecDepth 20000 in
set_option maxHeartbeats 4000000 in
theorem Ins_ac (l : List Int) (g : FuncId) (D : List Dat) (c : Int → Int → Int) (hl : l.length ≤ 1024) (hg : ∀ a, a ∈ l → ∀ b, b ∈ l → AC Tryd.prog g [.val (.int .i64 a), .val (.int .i64 b), .rpt D 0] [] (.val (.int .i64 (c a b))) []) :
    AC Tryd.prog 134 [.own 0, .val (.int .i64 0), .val (.int .i64 l.length), .clo g [.rpt D 0]] [.row 3 1 (intc l)] (.tup []) [.row 3 1 (intc (isF c l))] := by
  refine AC.mk (n := 53) (fn := Tryd.f134) Tryd.func134 (by kernel_rfl) rfl rfl rfl rfl (fun cx => ?_); dsimp only [argv, Nat.reduceAdd]
  (repeat' (first | refine a_seq ?_ | refine a_block ?_ | refine a_region ?_ | refine l_nil ?_ | (apply w_q; (focus (first | exact Q_move (by conv => lhs; whnf) | exact Q_assign (by conv => lhs; whnf) | exact Q_add rfl rfl (by omega))); (focus exact rfl)))); (try all_goals (try show retA _ _ _ _ _ _ _))
  refine w_loop (X := Nat × List Int) [0, 1, 2, 3] (by simp only [keepv, getv_cons, Nat.reduceEqDiff, ↓reduceIte]; exact rfl) (fun x => [(8, .val (.int .i64 (x.1 : Nat)))]) (fun x => [.row 3 1 (intc x.2)]) (fun x => 1 ≤ x.1 ∧ x.2.length = l.length ∧ (∀ y, y ∈ x.2 → y ∈ l) ∧ insR c (l.length - x.1) x.1 x.2 = isF c l) (fun x => l.length - x.1) ((1, l)) ([0]) ?_ ?_ rfl ?_ <;> (try dsimp only [List.cons_append, List.nil_append])
  · exact ⟨Nat.le_refl _, rfl, fun _ h => h, rfl⟩
  · (refine St.le_mk rfl (VwOs.mk (by decide) ?_) ?_ <;> (repeat' (first | exact trivial | exact vwR rfl | exact Vw.own _ _ rfl | exact VwO.row _ _ _ | refine ⟨⟨_, rfl, ?_⟩, ?_⟩ | refine ⟨?_, ?_⟩ )))
  rintro ⟨i, L⟩ ⟨i1, i2, i3, i4⟩
  dsimp only at i1 i2 i3 i4 ⊢
  by_cases hi : i < l.length
  · rw [show l.length - i = (l.length - (i + 1)) + 1 by omega] at i4
    change insR c (l.length - (i + 1)) (i + 1) (sink c i L) = isF c l at i4
    (repeat' (first | refine a_seq ?_ | refine a_block ?_ | refine a_skip ?_ | refine a_region ?_ | refine l_nil ?_ | (apply w_q; (focus (first | exact Q_move (by conv => lhs; whnf) | exact Q_assign (by conv => lhs; whnf) | exact Q_lss rfl rfl)); (focus exact rfl)) | (refine a_cond rfl ?_ ?_ <;> (intro h; (try (have hp := of_decide_eq_true h)); (try (have hp := of_decide_eq_false h)); (try contradiction); (try (exfalso; omega)))))); (try all_goals (try show retA _ _ _ _ _ _ _))
    all_goals first
      | (exfalso; omega)
      | skip
    refine w_loop (X := Nat × List Int) [0, 1, 2, 3, 8] (by simp only [keepv, getv_cons, Nat.reduceEqDiff, ↓reduceIte]; exact rfl) (fun x => [(9, .val (.int .i64 (x.1 : Nat)))]) (fun x => [.row 3 1 (intc x.2)]) (fun x => x.1 ≤ i ∧ x.2.length = l.length ∧ (∀ y, y ∈ x.2 → y ∈ l) ∧ sink c x.1 x.2 = sink c i L) (fun x => x.1) ((i, L)) ([0]) ?_ ?_ rfl ?_ <;> (try dsimp only [List.cons_append, List.nil_append])
    · exact ⟨Nat.le_refl _, i2, i3, rfl⟩
    · (refine St.le_mk rfl (VwOs.mk (by decide) ?_) ?_ <;> (repeat' (first | exact trivial | exact vwR rfl | exact Vw.own _ _ rfl | exact VwO.row _ _ _ | refine ⟨⟨_, rfl, ?_⟩, ?_⟩ | refine ⟨?_, ?_⟩ )))
    rintro ⟨j, M⟩ ⟨j1, j2, j3, j4⟩
    dsimp only at j1 j2 j3 j4 ⊢
    rcases j with _ | j
    · (repeat' (first | refine a_seq ?_ | refine a_exit ?_ | refine a_region ?_ | refine l_nil ?_ | refine q_nil ?_ | ((first | apply w_q | apply w_qq); (focus (first | exact Q_move (by conv => lhs; whnf) | exact Q_assign (by conv => lhs; whnf) | exact Q_gtr rfl rfl | exact Q_add rfl rfl (by omega) | exact Q_pick_f rfl rfl (by conv => lhs; whnf))); (focus exact rfl)) | (refine a_cond rfl ?_ ?_ <;> (intro h; (try (have hp := of_decide_eq_true h)); (try (have hp := of_decide_eq_false h)); (try contradiction); (try (exfalso; omega)))) | refine w_qguard_n rfl rfl rfl (by first | assumption | rfl) ?_ | refine a_draw (by kernel_rfl) (by kernel_rfl) ?_)); (try all_goals (try show retA _ _ _ _ _ _ _))
      all_goals first
        | (exfalso; omega)
        | (try dsimp only [thenA, blockA]
           refine ⟨(i + 1, M), [0], ?_, ?_, ?_, rfl⟩ <;> (try dsimp only)
           · exact ⟨by show 1 ≤ i + 1; omega, j2, j3, by show insR c _ _ M = _; rw [← i4, ← j4]; rfl⟩
           · show l.length - (i + 1) < l.length - i; omega
           · (refine St.le_mk rfl (VwOs.mk (by decide) ?_) ?_ <;> (repeat' (first | exact trivial | exact vwR rfl | exact Vw.own _ _ rfl | exact VwO.row _ _ _ | refine ⟨⟨_, rfl, ?_⟩, ?_⟩ | refine ⟨?_, ?_⟩ ))))
        | (all_goals trace_state); fail
    · have hgi := hg _ (j3 _ (getD_mem' (show j + 1 < M.length by omega))) _ (j3 _ (getD_mem' (show j < M.length by omega)))
      generalize hc : c (M.getD (j + 1) 0) (M.getD j 0) = C at *
      by_cases hC : C < 0
      · (repeat' (first | refine a_seq ?_)); (try all_goals (try show retA _ _ _ _ _ _ _))
        refine a_draw (by kernel_rfl) (by kernel_rfl) ?_
        (repeat' (first | refine a_seq ?_ | refine a_block ?_ | refine a_skip ?_ | refine q_nil ?_ | ((first | apply w_qq); (focus (first | exact Q_move (by conv => lhs; whnf) | exact Q_lss rfl rfl | exact Q_gtr rfl rfl | exact Q_sub rfl rfl (by omega) | exact Q_ix_own rfl rfl rfl rfl KSl.h (by omega) | exact Q_ld_own rfl rfl (by omega) KSc.h | exact Q_pick_t rfl (by assumption) (by conv => lhs; whnf))); (focus exact rfl)) | (refine a_cond rfl ?_ ?_ <;> (intro h; (try (have hp := of_decide_eq_true h)); (try (have hp := of_decide_eq_false h)); (try contradiction); (try (exfalso; omega)))) | refine w_qguard_y rfl rfl rfl (by first | assumption | rfl) ?_ | ((first | refine w_qguard rfl rfl rfl ?_ ?_) <;> (intro h; (try (have hp := of_decide_eq_true h)); (try (have hp := of_decide_eq_false h)); (try contradiction); (try (exfalso; omega)))) | (((first | apply w_qq); (focus exact Q_ix_own (o := j) rfl rfl rfl (by omega) KSl.h (by omega)); (focus exact rfl))) | (((first | apply w_qq); (focus (refine Q_call (by exact callee_of (isFn_clo _ _) rfl) (hgi) ?_; ((repeat' (first | exact vwRL rfl)); done))); (focus exact rfl))))); (try all_goals (try show retA _ _ _ _ _ _ _))
        all_goals first
          | (exfalso; omega)
          | skip
        (repeat' (first | refine a_holdN (id := 6) (by kernel_rfl) rfl ?_ | (apply xw_first (listed := [false, false, false, false, false, false, false, false, false, false, false, false, false, false, false, false, false, false]) 2 rfl (by kernel_rfl); (focus (first | exact P_move (by conv => lhs; whnf))); (focus exact rfl)) | (apply xw_first (listed := [false, false, true, false, false, false, false, false, false, false, false, false, false, false, false, false, false, false]) 3 rfl (by kernel_rfl); (focus (first | exact P_move (by conv => lhs; whnf))); (focus exact rfl)) | (apply xw_first (listed := [false, false, true, true, false, false, false, false, false, false, false, false, false, false, false, false, false, false]) 4 rfl (by kernel_rfl); (focus (first | exact P_sub rfl rfl (by omega))); (focus exact rfl)) | refine xh_stage (g := 3) (listed := [false, false, true, true, true, false, false, false, false, false, false, false, false, false, false, false, false, false]) (fin := [true, true, true, true, true, true, true, true, true, true, true, true, true, true, true, false, false, false]) 15 [0, 1, 5, 6, 7, 8, 9, 10, 11, 12, 13, 14] (by kernel_rfl) rfl rfl rfl ?_ | refine xh_step (listed := [true, true, true, true, true, true, true, true, true, true, true, true, true, true, true, false, false, false]) (i := 15) (is := []) (by kernel_rfl) ⟨⟨_, rfl, ?_⟩, trivial⟩ | refine xh_stage (g := 1) (listed := [true, true, true, true, true, true, true, true, true, true, true, true, true, true, true, true, false, false]) (fin := [true, true, true, true, true, true, true, true, true, true, true, true, true, true, true, true, true, false]) 17 [16] (by kernel_rfl) rfl rfl rfl ?_ | refine xh_step (listed := [true, true, true, true, true, true, true, true, true, true, true, true, true, true, true, true, true, false]) (i := 17) (is := []) (by kernel_rfl) ⟨⟨_, rfl, ?_⟩, trivial⟩ | refine xh_done (listed := [true, true, true, true, true, true, true, true, true, true, true, true, true, true, true, true, true, true]) (by kernel_rfl) ?_ | refine a_region ?_ | refine l_nil ?_ | refine q_nil ?_ | ((first | apply w_q | apply w_qq); (focus (first | exact Q_move (by conv => lhs; whnf) | exact Q_assign (by conv => lhs; whnf) | exact Q_sub rfl rfl (by omega) | exact Q_ix_own rfl rfl rfl rfl KSl.h (by omega) | exact Q_ld_own rfl rfl (by omega) KSc.h)); (focus exact rfl)) | refine w_st_ints rfl rfl rfl KSz.h (by omega) (by first|(dsimp only[obA,obB,obD,obE,obF,obG,obI,List.map,AO.sh,AV.sh,AV.shl,Nat.reduceAdd];done)|exact rfl) ?_ | (((first | apply w_qq); (focus exact Q_ix_own (o := j) rfl rfl rfl (by omega) KSl.h (by omega)); (focus exact rfl))) | (((first | apply w_qq); (focus exact Q_ix_own (o := j) rfl rfl rfl (by omega) KSl.h (by rw [List.length_set]; omega)); (focus exact rfl))) | ((refine w_st_ints rfl rfl rfl KSz.h (by rw [List.length_set]; omega) (by first|(dsimp only[obA,obB,obD,obE,obF,obG,obI,List.map,AO.sh,AV.sh,AV.shl,Nat.reduceAdd];done)|exact rfl) ?_)))); (try all_goals (try show retA _ _ _ _ _ _ _))
        all_goals first
          | (exfalso; omega)
          | (try dsimp only [thenA, blockA]
             refine ⟨(j, (M.set (j + 1) (M.getD j 0)).set j (M.getD (j + 1) 0)), [0], ?_, ?_, ?_, rfl⟩ <;> (try dsimp only)
             · refine ⟨by show j ≤ i; omega, by show ((M.set (j + 1) (M.getD j 0)).set j (M.getD (j + 1) 0)).length = _; rw [List.length_set, List.length_set]; exact j2, fun y hy => j3 y (mem_swap (by omega) (by omega) hy), ?_⟩
               show sink c j _ = _
               rw [← j4]
               conv => rhs; unfold sink
               rw [hc, if_pos hC]
             · show j < j + 1; omega
             · (refine St.le_mk rfl (VwOs.mk (by decide) ?_) ?_ <;> (repeat' (first | exact trivial | exact vwR rfl | exact Vw.own _ _ rfl | (refine Vw.int' ?_; first | rfl | omega | (simp; done)) | exact VwO.row _ _ _ | refine ⟨⟨_, rfl, ?_⟩, ?_⟩ | refine ⟨?_, ?_⟩ ))))
          | (all_goals trace_state); fail
      · (repeat' (first | refine a_seq ?_ | refine a_exit ?_ | refine a_region ?_ | refine l_nil ?_ | refine q_nil ?_ | ((first | apply w_q | apply w_qq); (focus (first | exact Q_move (by conv => lhs; whnf) | exact Q_assign (by conv => lhs; whnf) | exact Q_lss rfl rfl | exact Q_gtr rfl rfl | exact Q_add rfl rfl (by omega) | exact Q_sub rfl rfl (by omega) | exact Q_ix_own rfl rfl rfl rfl KSl.h (by omega) | exact Q_ld_own rfl rfl (by omega) KSc.h | exact Q_pick_t rfl (by assumption) (by conv => lhs; whnf))); (focus exact rfl)) | (refine a_cond rfl ?_ ?_ <;> (intro h; (try (have hp := of_decide_eq_true h)); (try (have hp := of_decide_eq_false h)); (try contradiction); (try (exfalso; omega)))) | refine w_qguard_y rfl rfl rfl (by first | assumption | rfl) ?_ | ((first | refine w_qguard rfl rfl rfl ?_ ?_) <;> (intro h; (try (have hp := of_decide_eq_true h)); (try (have hp := of_decide_eq_false h)); (try contradiction); (try (exfalso; omega)))) | refine a_draw (by kernel_rfl) (by kernel_rfl) ?_ | (((first | apply w_qq); (focus exact Q_ix_own (o := j) rfl rfl rfl (by omega) KSl.h (by omega)); (focus exact rfl))) | (((first | apply w_qq); (focus (refine Q_call (by exact callee_of (isFn_clo _ _) rfl) (hgi) ?_; ((repeat' (first | exact vwRL rfl)); done))); (focus exact rfl))))); (try all_goals (try show retA _ _ _ _ _ _ _))
        all_goals first
          | (exfalso; omega)
          | (try dsimp only [thenA, blockA]
             refine ⟨(i + 1, M), [0], ?_, ?_, ?_, rfl⟩ <;> (try dsimp only)
             · refine ⟨by show 1 ≤ i + 1; omega, j2, j3, ?_⟩
               show insR c _ _ M = _
               rw [← i4, ← j4]
               unfold sink
               rw [hc, if_neg hC]
             · show l.length - (i + 1) < l.length - i; omega
             · (refine St.le_mk rfl (VwOs.mk (by decide) ?_) ?_ <;> (repeat' (first | exact trivial | exact vwR rfl | exact Vw.own _ _ rfl | exact VwO.row _ _ _ | refine ⟨⟨_, rfl, ?_⟩, ?_⟩ | refine ⟨?_, ?_⟩ ))))
          | (all_goals trace_state); fail
  · (repeat' (first | refine a_seq ?_ | refine a_exit ?_ | refine a_region ?_ | refine l_nil ?_ | (apply w_q; (focus (first | exact Q_move (by conv => lhs; whnf) | exact Q_lss rfl rfl)); (focus exact rfl)) | (refine a_cond rfl ?_ ?_ <;> (intro h; (try (have hp := of_decide_eq_true h)); (try (have hp := of_decide_eq_false h)); (try contradiction); (try (exfalso; omega)))))); (try all_goals (try show retA _ _ _ _ _ _ _))
    all_goals first
      | (exfalso; omega)
      | (rw [show l.length - i = 0 by omega] at i4
         change L = isF c l at i4
         subst i4
         first
         | (dsimp only [thenA, blockA]; refine ⟨[], [0], trivial, VwOs.mk (by decide) ⟨⟨_, rfl, .row _ _ _⟩, trivial⟩, ?_, rfl⟩; exact Vw.tup' trivial)
         | (refine ⟨[], [0], trivial, VwOs.mk (by decide) ⟨⟨_, rfl, .row _ _ _⟩, trivial⟩, ?_, rfl⟩; exact Vw.tup' trivial))
      | (all_goals trace_state); fail
end Go.Proofs.YtbgecpjlopdkfaaDoor
