import Derived.Test.YtpfldhaaiglgdaaDoorSce
set_option linter.unusedSimpArgs false
set_option linter.unusedVariables false
set_option linter.unusedSectionVars false
set_option maxRecDepth 20000
namespace Go.Proofs.YtpfldhaaiglgdaaDoor
attribute [local irreducible] QOp aL aC qL
set_option maxRecDepth 20000 in
set_option maxHeartbeats 2000000 in
theorem number_big (s : ByteArray) (p e : Nat) (most er : Int) (hs : s.size ≤ 2000) (hd : Dg s p e) (hne : p < e) (hz : bt s p = 48 → e = p + 1) (hm : most < ((cv s p (e - p) : Nat) : Int)) :
    APn Tryd.prog 59 [.ptr 0 0, .val (.int .i64 most), .val (.int .i64 er)] [.box [.val (.string s), .val (.int .i64 (p : Nat))]] (flt er p) := by
  obtain ⟨d1, d2, d3, d4⟩ := hd
  refine APn.mk (n := 102) (fn := Tryd.f59) Tryd.func59 (by kernel_rfl) rfl rfl rfl (fun cx => ?_); dsimp only [argv, Nat.reduceAdd]
  (repeat' (first | refine a_seq ?_ | refine a_block ?_ | refine a_region ?_ | refine l_nil ?_ | ((first | apply w_q); (focus (first | exact Q_move (by conv => lhs; whnf) | exact Q_assign (by conv => lhs; whnf) | exact Q_fieldAddr_ptr rfl KFl.h | exact Q_load_ptr rfl rfl rfl KSc.h | exact Q_nilCheck rfl)); (focus exact rfl)))); (try all_goals (try show retA _ _ _ _ _ _ _))
  rw [show ((p : Nat) : Int) = ((p + 0 : Nat) : Int) from rfl]
  refine w_loop (X := Nat) [0, 1, 2, 7] (by simp only [keepv, getv_cons, Nat.reduceEqDiff, ↓reduceIte]; exact rfl) (fun k => [(8, .val (.int .i64 (cv s p k : Nat)))]) (fun k => [.box [.val (.string s), .val (.int .i64 ((p + k : Nat) : Int))]]) (fun k => k ≤ e - p) (fun k => e - p - k) (0) ([0]) ?_ ?_ rfl ?_ <;> (try dsimp only [List.cons_append, List.nil_append])
  · exact Nat.zero_le _
  · (refine St.le_mk rfl (VwOs.mk (by decide) ?_) ?_ <;> (repeat' (first | exact trivial | exact vwR rfl | exact Vw.ptr _ _ _ rfl | refine VwO.box' ?_ | refine ⟨⟨_, rfl, ?_⟩, ?_⟩ | refine ⟨?_, ?_⟩ )))
  rintro k hk
  have hcv := cv_le s p k
  by_cases hkl : k < e - p
  · have e1 := d3 (p + k) (by omega) (by omega)
    have e2 : p + k < s.size := by omega
    have e4 : cv s p (k + 1) = min (cv s p k * 10 + (bt s (p + k) - 48)) 11 := rfl
    have e5 : 1 ≤ k → 1 ≤ cv s p k := fun h => by
      obtain ⟨j, rfl⟩ := Nat.exists_eq_add_of_le h
      rw [Nat.add_comm]
      refine cv_pos ?_ j
      have := d3 p (Nat.le_refl _) hne
      by_cases hb : bt s p = 48
      · have := hz hb; omega
      · omega
    have e6 : min (((cv s p k : Nat) : Int) * 10 + (((bt s (p + k) : Nat) : Int) - 48)) 11 = ((cv s p (k + 1) : Nat) : Int) := by omega
    have e7 : ((p + k : Nat) : Int) + 1 = ((p + (k + 1) : Nat) : Int) := by omega
    clear e4
    (repeat' (first | refine a_seq ?_ | refine a_block ?_ | refine a_skip ?_ | refine a_region ?_ | refine l_nil ?_ | refine q_nil ?_ | ((first | apply w_q | apply w_qq); (focus (first | exact Q_move (by conv => lhs; whnf) | exact Q_assign (by conv => lhs; whnf) | exact Q_fieldAddr_ptr rfl KFl.h | exact Q_load_ptr rfl rfl rfl KSc.h | exact Q_lss rfl rfl | exact Q_gtr rfl rfl | exact Q_eql rfl rfl | exact Q_add rfl rfl (by omega) | exact Q_pick_t rfl (by assumption) (by conv => lhs; whnf) | exact Q_pick_f rfl (by assumption) (by conv => lhs; whnf) | exact Q_min rfl rfl rfl | exact Q_nilCheck rfl)); (focus exact rfl)) | (refine a_cond rfl ?_ ?_ <;> (intro h; (try (have hp := of_decide_eq_true h)); (try (have hp := of_decide_eq_false h)); (try contradiction); (try (exfalso; omega)))) | refine w_guard_y rfl rfl rfl (by first | assumption | rfl) ?_ | refine w_guard_n rfl rfl rfl (by first | assumption | rfl) ?_ | refine w_qguard_y rfl rfl rfl (by first | assumption | rfl) ?_ | ((first | refine w_guard rfl rfl rfl ?_ ?_ | refine w_qguard rfl rfl rfl ?_ ?_) <;> (intro h; (try (have hp := of_decide_eq_true h)); (try (have hp := of_decide_eq_false h)); (try contradiction); (try (exfalso; omega)))) | refine a_draw (by kernel_rfl) (by kernel_rfl) ?_ | refine w_store rfl rfl rfl (by conv => lhs; whnf) rfl KSz.h (by first|(dsimp only[obA,obB,obD,obE,obF,obG,obI,List.map,AO.sh,AV.sh,AV.shl,Nat.reduceAdd];done)|exact rfl) (by first|(dsimp only[obA,obB,obD,obE,obF,obG,obI,List.map,AO.sh,AV.sh,AV.shl,Nat.reduceAdd];done)|exact rfl) ?_ | (((first | apply w_qq); (focus exact Q_slen rfl (by kernel_rfl)); (focus exact rfl))) | (((first | apply w_qq); (focus exact Q_sidx (j := p + k) rfl rfl rfl (by kernel_rfl) e2); (focus exact rfl))) | (((first | apply w_qq); (focus exact Q_geq8 rfl rfl); (focus exact rfl))) | (((first | apply w_qq); (focus exact Q_leq8 rfl rfl); (focus exact rfl))) | (((first | apply w_qq); (focus exact Q_sub8 rfl rfl (by omega)); (focus exact rfl))) | (((first | apply w_qq); (focus exact Q_mul rfl rfl (by omega)); (focus exact rfl))) | (((first | apply w_qq); (focus exact Q_conv (n := ((bt s (p + k) : Nat) : Int) - 48) rfl Tryd.underlying5 Tryd.underlying3 (IntWalk.i64_in _ (by omega))); (focus exact rfl))))); (try all_goals (try show retA _ _ _ _ _ _ _))
    all_goals first
      | (exfalso; omega)
      | (rw [e6, e7]; refine ⟨k + 1, [0], ?_, ?_, ?_, rfl⟩ <;> (try dsimp only)
         · omega
         · omega
         · (refine St.le_mk rfl (VwOs.mk (by decide) ?_) ?_ <;> (repeat' (first | exact trivial | exact vwR rfl | exact Vw.ptr _ _ _ rfl | refine VwO.box' ?_ | refine ⟨⟨_, rfl, ?_⟩, ?_⟩ | refine ⟨?_, ?_⟩ ))))
      | (all_goals trace_state); fail
  · obtain rfl : k = e - p := by omega
    have e8 : p + (e - p) = e := by omega
    rw [e8]
    by_cases e2 : e < s.size
    · have d5 := d4 e2
      by_cases d6 : 48 ≤ bt s e
      · (repeat' (first | refine a_seq ?_ | refine a_skip ?_ | refine a_exit ?_ | refine a_region ?_ | refine l_nil ?_ | refine q_nil ?_ | ((first | apply w_q | apply w_qq); (focus (first | exact Q_move (by conv => lhs; whnf) | exact Q_fieldAddr_ptr rfl KFl.h | exact Q_load_ptr rfl rfl rfl KSc.h | exact Q_lss rfl rfl | exact Q_gtr rfl rfl | exact Q_eql rfl rfl | exact Q_pick_t rfl (by assumption) (by conv => lhs; whnf) | exact Q_nilCheck rfl)); (focus exact rfl)) | (refine a_cond rfl ?_ ?_ <;> (intro h; (try (have hp := of_decide_eq_true h)); (try (have hp := of_decide_eq_false h)); (try contradiction); (try (exfalso; omega)))) | refine w_qguard_y rfl rfl rfl (by first | assumption | rfl) ?_ | ((first | refine w_qguard rfl rfl rfl ?_ ?_) <;> (intro h; (try (have hp := of_decide_eq_true h)); (try (have hp := of_decide_eq_false h)); (try contradiction); (try (exfalso; omega)))) | refine a_draw (by kernel_rfl) (by kernel_rfl) ?_ | (((first | apply w_q | apply w_qq); (focus exact Q_slen rfl (by kernel_rfl)); (focus exact rfl))) | (((first | apply w_q | apply w_qq); (focus exact Q_sidx (j := e) rfl rfl rfl (by kernel_rfl) e2); (focus exact rfl))) | (((first | apply w_q | apply w_qq); (focus exact Q_geq8 rfl rfl); (focus exact rfl))) | (((first | apply w_q | apply w_qq); (focus exact Q_leq8 rfl rfl); (focus exact rfl))) | ((refine l_callP0 (vs := [.int .i64 er, .int .i64 (p : Nat)]) (fail_ap er p) rfl rfl ?_; exact rfl)))); (try all_goals (try show retA _ _ _ _ _ _ _))
        all_goals first
          | (exfalso; omega)
                    | (all_goals trace_state); fail
      · (repeat' (first | refine a_seq ?_ | refine a_skip ?_ | refine a_exit ?_ | refine a_region ?_ | refine l_nil ?_ | refine q_nil ?_ | ((first | apply w_q | apply w_qq); (focus (first | exact Q_move (by conv => lhs; whnf) | exact Q_fieldAddr_ptr rfl KFl.h | exact Q_load_ptr rfl rfl rfl KSc.h | exact Q_lss rfl rfl | exact Q_gtr rfl rfl | exact Q_eql rfl rfl | exact Q_pick_t rfl (by assumption) (by conv => lhs; whnf) | exact Q_pick_f rfl (by assumption) (by conv => lhs; whnf) | exact Q_nilCheck rfl)); (focus exact rfl)) | (refine a_cond rfl ?_ ?_ <;> (intro h; (try (have hp := of_decide_eq_true h)); (try (have hp := of_decide_eq_false h)); (try contradiction); (try (exfalso; omega)))) | refine w_qguard_y rfl rfl rfl (by first | assumption | rfl) ?_ | refine w_qguard_n rfl rfl rfl (by first | assumption | rfl) ?_ | ((first | refine w_qguard rfl rfl rfl ?_ ?_) <;> (intro h; (try (have hp := of_decide_eq_true h)); (try (have hp := of_decide_eq_false h)); (try contradiction); (try (exfalso; omega)))) | refine a_draw (by kernel_rfl) (by kernel_rfl) ?_ | (((first | apply w_q | apply w_qq); (focus exact Q_slen rfl (by kernel_rfl)); (focus exact rfl))) | (((first | apply w_q | apply w_qq); (focus exact Q_sidx (j := e) rfl rfl rfl (by kernel_rfl) e2); (focus exact rfl))) | (((first | apply w_q | apply w_qq); (focus exact Q_geq8 rfl rfl); (focus exact rfl))) | ((refine l_callP0 (vs := [.int .i64 er, .int .i64 (p : Nat)]) (fail_ap er p) rfl rfl ?_; exact rfl)))); (try all_goals (try show retA _ _ _ _ _ _ _))
        all_goals first
          | (exfalso; omega)
                    | (all_goals trace_state); fail
    · (repeat' (first | refine a_seq ?_ | refine a_skip ?_ | refine a_exit ?_ | refine a_region ?_ | refine l_nil ?_ | refine q_nil ?_ | ((first | apply w_q | apply w_qq); (focus (first | exact Q_move (by conv => lhs; whnf) | exact Q_fieldAddr_ptr rfl KFl.h | exact Q_load_ptr rfl rfl rfl KSc.h | exact Q_lss rfl rfl | exact Q_gtr rfl rfl | exact Q_eql rfl rfl | exact Q_pick_f rfl (by assumption) (by conv => lhs; whnf) | exact Q_pick_f rfl rfl (by conv => lhs; whnf) | exact Q_nilCheck rfl)); (focus exact rfl)) | (refine a_cond rfl ?_ ?_ <;> (intro h; (try (have hp := of_decide_eq_true h)); (try (have hp := of_decide_eq_false h)); (try contradiction); (try (exfalso; omega)))) | refine w_qguard_n rfl rfl rfl (by first | assumption | rfl) ?_ | ((first | refine w_qguard rfl rfl rfl ?_ ?_) <;> (intro h; (try (have hp := of_decide_eq_true h)); (try (have hp := of_decide_eq_false h)); (try contradiction); (try (exfalso; omega)))) | refine a_draw (by kernel_rfl) (by kernel_rfl) ?_ | (((first | apply w_q | apply w_qq); (focus exact Q_slen rfl (by kernel_rfl)); (focus exact rfl))) | ((refine l_callP0 (vs := [.int .i64 er, .int .i64 (p : Nat)]) (fail_ap er p) rfl rfl ?_; exact rfl)))); (try all_goals (try show retA _ _ _ _ _ _ _))
      all_goals first
        | (exfalso; omega)
                | (all_goals trace_state); fail
set_option maxRecDepth 20000 in
set_option maxHeartbeats 2000000 in
theorem number_none (s : ByteArray) (p : Nat) (most er : Int) (hs : s.size ≤ 2000) (hd : Dg s p p) :
    APn Tryd.prog 59 [.ptr 0 0, .val (.int .i64 most), .val (.int .i64 er)] [.box [.val (.string s), .val (.int .i64 (p : Nat))]] (flt 1 p) := by
  obtain ⟨-, d2, d3, d4⟩ := hd
  refine APn.mk (n := 102) (fn := Tryd.f59) Tryd.func59 (by kernel_rfl) rfl rfl rfl (fun cx => ?_); dsimp only [argv, Nat.reduceAdd]
  (repeat' (first | refine a_seq ?_ | refine a_block ?_ | refine a_region ?_ | refine l_nil ?_ | ((first | apply w_q); (focus (first | exact Q_move (by conv => lhs; whnf) | exact Q_assign (by conv => lhs; whnf) | exact Q_fieldAddr_ptr rfl KFl.h | exact Q_load_ptr rfl rfl rfl KSc.h | exact Q_nilCheck rfl)); (focus exact rfl)))); (try all_goals (try show retA _ _ _ _ _ _ _))
  refine w_loop (X := Nat) [0, 1, 2, 7] (by simp only [keepv, getv_cons, Nat.reduceEqDiff, ↓reduceIte]; exact rfl) (fun k => [(8, .val (.int .i64 0))]) (fun k => [.box [.val (.string s), .val (.int .i64 (p : Nat))]]) (fun _ => True) (fun k => k) (0) ([0]) ?_ ?_ rfl ?_ <;> (try dsimp only [List.cons_append, List.nil_append])
  · (refine St.le_mk rfl (VwOs.mk (by decide) ?_) ?_ <;> (repeat' (first | exact trivial | exact vwR rfl | exact Vw.ptr _ _ _ rfl | refine VwO.box' ?_ | refine ⟨⟨_, rfl, ?_⟩, ?_⟩ | refine ⟨?_, ?_⟩ )))
  rintro k -
  by_cases e2 : p < s.size
  · have d5 := d4 e2
    by_cases d6 : 48 ≤ bt s p
    · (repeat' (first | refine a_seq ?_ | refine a_exit ?_ | refine a_region ?_ | refine l_nil ?_ | refine q_nil ?_ | ((first | apply w_q | apply w_qq); (focus (first | exact Q_move (by conv => lhs; whnf) | exact Q_fieldAddr_ptr rfl KFl.h | exact Q_load_ptr rfl rfl rfl KSc.h | exact Q_lss rfl rfl | exact Q_eql rfl rfl | exact Q_pick_t rfl (by assumption) (by conv => lhs; whnf) | exact Q_nilCheck rfl)); (focus exact rfl)) | (refine a_cond rfl ?_ ?_ <;> (intro h; (try (have hp := of_decide_eq_true h)); (try (have hp := of_decide_eq_false h)); (try contradiction); (try (exfalso; omega)))) | refine w_qguard_y rfl rfl rfl (by first | assumption | rfl) ?_ | ((first | refine w_qguard rfl rfl rfl ?_ ?_) <;> (intro h; (try (have hp := of_decide_eq_true h)); (try (have hp := of_decide_eq_false h)); (try contradiction); (try (exfalso; omega)))) | refine a_draw (by kernel_rfl) (by kernel_rfl) ?_ | (((first | apply w_q | apply w_qq); (focus exact Q_slen rfl (by kernel_rfl)); (focus exact rfl))) | (((first | apply w_q | apply w_qq); (focus exact Q_sidx (j := p) rfl rfl rfl (by kernel_rfl) e2); (focus exact rfl))) | (((first | apply w_q | apply w_qq); (focus exact Q_geq8 rfl rfl); (focus exact rfl))) | (((first | apply w_q | apply w_qq); (focus exact Q_leq8 rfl rfl); (focus exact rfl))) | ((refine l_callP0 (vs := [.int .i64 1, .int .i64 (p : Nat)]) (fail_ap 1 p) rfl rfl ?_; exact rfl)))); (try all_goals (try show retA _ _ _ _ _ _ _))
      all_goals first
        | (exfalso; omega)
        | (all_goals trace_state); fail
    · (repeat' (first | refine a_seq ?_ | refine a_exit ?_ | refine a_region ?_ | refine l_nil ?_ | refine q_nil ?_ | ((first | apply w_q | apply w_qq); (focus (first | exact Q_move (by conv => lhs; whnf) | exact Q_fieldAddr_ptr rfl KFl.h | exact Q_load_ptr rfl rfl rfl KSc.h | exact Q_lss rfl rfl | exact Q_eql rfl rfl | exact Q_pick_t rfl (by assumption) (by conv => lhs; whnf) | exact Q_pick_f rfl (by assumption) (by conv => lhs; whnf) | exact Q_nilCheck rfl)); (focus exact rfl)) | (refine a_cond rfl ?_ ?_ <;> (intro h; (try (have hp := of_decide_eq_true h)); (try (have hp := of_decide_eq_false h)); (try contradiction); (try (exfalso; omega)))) | refine w_qguard_y rfl rfl rfl (by first | assumption | rfl) ?_ | refine w_qguard_n rfl rfl rfl (by first | assumption | rfl) ?_ | ((first | refine w_qguard rfl rfl rfl ?_ ?_) <;> (intro h; (try (have hp := of_decide_eq_true h)); (try (have hp := of_decide_eq_false h)); (try contradiction); (try (exfalso; omega)))) | refine a_draw (by kernel_rfl) (by kernel_rfl) ?_ | (((first | apply w_q | apply w_qq); (focus exact Q_slen rfl (by kernel_rfl)); (focus exact rfl))) | (((first | apply w_q | apply w_qq); (focus exact Q_sidx (j := p) rfl rfl rfl (by kernel_rfl) e2); (focus exact rfl))) | (((first | apply w_q | apply w_qq); (focus exact Q_geq8 rfl rfl); (focus exact rfl))) | ((refine l_callP0 (vs := [.int .i64 1, .int .i64 (p : Nat)]) (fail_ap 1 p) rfl rfl ?_; exact rfl)))); (try all_goals (try show retA _ _ _ _ _ _ _))
      all_goals first
        | (exfalso; omega)
        | (all_goals trace_state); fail
  · (repeat' (first | refine a_seq ?_ | refine a_exit ?_ | refine a_region ?_ | refine l_nil ?_ | refine q_nil ?_ | ((first | apply w_q | apply w_qq); (focus (first | exact Q_move (by conv => lhs; whnf) | exact Q_fieldAddr_ptr rfl KFl.h | exact Q_load_ptr rfl rfl rfl KSc.h | exact Q_lss rfl rfl | exact Q_eql rfl rfl | exact Q_pick_f rfl (by assumption) (by conv => lhs; whnf) | exact Q_pick_f rfl rfl (by conv => lhs; whnf) | exact Q_nilCheck rfl)); (focus exact rfl)) | (refine a_cond rfl ?_ ?_ <;> (intro h; (try (have hp := of_decide_eq_true h)); (try (have hp := of_decide_eq_false h)); (try contradiction); (try (exfalso; omega)))) | refine w_qguard_n rfl rfl rfl (by first | assumption | rfl) ?_ | ((first | refine w_qguard rfl rfl rfl ?_ ?_) <;> (intro h; (try (have hp := of_decide_eq_true h)); (try (have hp := of_decide_eq_false h)); (try contradiction); (try (exfalso; omega)))) | refine a_draw (by kernel_rfl) (by kernel_rfl) ?_ | (((first | apply w_q | apply w_qq); (focus exact Q_slen rfl (by kernel_rfl)); (focus exact rfl))) | ((refine l_callP0 (vs := [.int .i64 1, .int .i64 (p : Nat)]) (fail_ap 1 p) rfl rfl ?_; exact rfl)))); (try all_goals (try show retA _ _ _ _ _ _ _))
    all_goals first
      | (exfalso; omega)
      | (all_goals trace_state); fail
set_option maxRecDepth 20000 in
set_option maxHeartbeats 2000000 in
theorem number_zero (s : ByteArray) (p e : Nat) (most er : Int) (hs : s.size ≤ 2000) (hd : Dg s p e) (hz : bt s p = 48) (hne : p + 1 < e) :
    APn Tryd.prog 59 [.ptr 0 0, .val (.int .i64 most), .val (.int .i64 er)] [.box [.val (.string s), .val (.int .i64 (p : Nat))]] (flt 1 ((p + 1 : Nat) : Int)) := by
  obtain ⟨d1, d2, d3, d4⟩ := hd
  refine APn.mk (n := 102) (fn := Tryd.f59) Tryd.func59 (by kernel_rfl) rfl rfl rfl (fun cx => ?_); dsimp only [argv, Nat.reduceAdd]
  (repeat' (first | refine a_seq ?_ | refine a_block ?_ | refine a_region ?_ | refine l_nil ?_ | ((first | apply w_q); (focus (first | exact Q_move (by conv => lhs; whnf) | exact Q_assign (by conv => lhs; whnf) | exact Q_fieldAddr_ptr rfl KFl.h | exact Q_load_ptr rfl rfl rfl KSc.h | exact Q_nilCheck rfl)); (focus exact rfl)))); (try all_goals (try show retA _ _ _ _ _ _ _))
  rw [show ((p : Nat) : Int) = ((p + 0 : Nat) : Int) from rfl]
  refine w_loop (X := Nat) [0, 1, 2, 7] (by simp only [keepv, getv_cons, Nat.reduceEqDiff, ↓reduceIte]; exact rfl) (fun k => [(8, .val (.int .i64 (cv s p k : Nat)))]) (fun k => [.box [.val (.string s), .val (.int .i64 ((p + k : Nat) : Int))]]) (fun k => k ≤ 1) (fun k => e - p - k) (0) ([0]) ?_ ?_ rfl ?_ <;> (try dsimp only [List.cons_append, List.nil_append])
  · exact Nat.zero_le _
  · (refine St.le_mk rfl (VwOs.mk (by decide) ?_) ?_ <;> (repeat' (first | exact trivial | exact vwR rfl | exact Vw.ptr _ _ _ rfl | refine VwO.box' ?_ | refine ⟨⟨_, rfl, ?_⟩, ?_⟩ | refine ⟨?_, ?_⟩ )))
  rintro k hk
  have hcv := cv_le s p k
  have hkl : k < e - p := by omega
  have e9 : 1 ≤ k → cv s p k = 0 := fun h => by
    obtain rfl : k = 1 := by omega
    show min (0 * 10 + (bt s (p + 0) - 48)) 11 = 0
    rw [Nat.add_zero, hz]; rfl
  have e10 : 1 ≤ k → k = 1 := fun h => by omega
  rcases Nat.eq_zero_or_pos k with e11 | e11
  · have e1 := d3 (p + k) (by omega) (by omega)
    have e2 : p + k < s.size := by omega
    have e4 : cv s p (k + 1) = min (cv s p k * 10 + (bt s (p + k) - 48)) 11 := rfl
    have e6 : min (((cv s p k : Nat) : Int) * 10 + (((bt s (p + k) : Nat) : Int) - 48)) 11 = ((cv s p (k + 1) : Nat) : Int) := by omega
    have e7 : ((p + k : Nat) : Int) + 1 = ((p + (k + 1) : Nat) : Int) := by omega
    clear e4
    (repeat' (first | refine a_seq ?_ | refine a_block ?_ | refine a_skip ?_ | refine a_region ?_ | refine l_nil ?_ | refine q_nil ?_ | ((first | apply w_q | apply w_qq); (focus (first | exact Q_move (by conv => lhs; whnf) | exact Q_assign (by conv => lhs; whnf) | exact Q_fieldAddr_ptr rfl KFl.h | exact Q_load_ptr rfl rfl rfl KSc.h | exact Q_lss rfl rfl | exact Q_gtr rfl rfl | exact Q_add rfl rfl (by omega) | exact Q_pick_t rfl (by assumption) (by conv => lhs; whnf) | exact Q_pick_f rfl (by assumption) (by conv => lhs; whnf) | exact Q_min rfl rfl rfl | exact Q_nilCheck rfl)); (focus exact rfl)) | (refine a_cond rfl ?_ ?_ <;> (intro h; (try (have hp := of_decide_eq_true h)); (try (have hp := of_decide_eq_false h)); (try contradiction); (try (exfalso; omega)))) | refine w_guard_n rfl rfl rfl (by first | assumption | rfl) ?_ | refine w_qguard_y rfl rfl rfl (by first | assumption | rfl) ?_ | ((first | refine w_guard rfl rfl rfl ?_ ?_ | refine w_qguard rfl rfl rfl ?_ ?_) <;> (intro h; (try (have hp := of_decide_eq_true h)); (try (have hp := of_decide_eq_false h)); (try contradiction); (try (exfalso; omega)))) | refine a_draw (by kernel_rfl) (by kernel_rfl) ?_ | refine w_store rfl rfl rfl (by conv => lhs; whnf) rfl KSz.h (by first|(dsimp only[obA,obB,obD,obE,obF,obG,obI,List.map,AO.sh,AV.sh,AV.shl,Nat.reduceAdd];done)|exact rfl) (by first|(dsimp only[obA,obB,obD,obE,obF,obG,obI,List.map,AO.sh,AV.sh,AV.shl,Nat.reduceAdd];done)|exact rfl) ?_ | (((first | apply w_qq); (focus exact Q_slen rfl (by kernel_rfl)); (focus exact rfl))) | (((first | apply w_qq); (focus exact Q_sidx (j := p + k) rfl rfl rfl (by kernel_rfl) e2); (focus exact rfl))) | (((first | apply w_qq); (focus exact Q_geq8 rfl rfl); (focus exact rfl))) | (((first | apply w_qq); (focus exact Q_leq8 rfl rfl); (focus exact rfl))) | (((first | apply w_qq); (focus exact Q_sub8 rfl rfl (by omega)); (focus exact rfl))) | (((first | apply w_qq); (focus exact Q_mul rfl rfl (by omega)); (focus exact rfl))) | (((first | apply w_qq); (focus exact Q_conv (n := ((bt s (p + k) : Nat) : Int) - 48) rfl Tryd.underlying5 Tryd.underlying3 (IntWalk.i64_in _ (by omega))); (focus exact rfl))))); (try all_goals (try show retA _ _ _ _ _ _ _))
    all_goals first
      | (exfalso; omega)
      | (rw [e6, e7]; refine ⟨k + 1, [0], ?_, ?_, ?_, rfl⟩ <;> (try dsimp only)
         · omega
         · omega
         · (refine St.le_mk rfl (VwOs.mk (by decide) ?_) ?_ <;> (repeat' (first | exact trivial | exact vwR rfl | exact Vw.ptr _ _ _ rfl | refine VwO.box' ?_ | refine ⟨⟨_, rfl, ?_⟩, ?_⟩ | refine ⟨?_, ?_⟩ ))))
      | (all_goals trace_state); fail
  · obtain rfl : k = 1 := by omega
    have e1 := d3 (p + 1) (by omega) (by omega)
    have e2 : p + 1 < s.size := by omega
    rw [e9 (Nat.le_refl _)]
    (repeat' (first | refine a_seq ?_ | refine a_block ?_ | refine a_skip ?_ | refine a_region ?_ | refine l_nil ?_ | refine q_nil ?_ | ((first | apply w_q | apply w_qq); (focus (first | exact Q_move (by conv => lhs; whnf) | exact Q_fieldAddr_ptr rfl KFl.h | exact Q_load_ptr rfl rfl rfl KSc.h | exact Q_lss rfl rfl | exact Q_gtr rfl rfl | exact Q_eql rfl rfl | exact Q_pick_t rfl (by assumption) (by conv => lhs; whnf) | exact Q_nilCheck rfl)); (focus exact rfl)) | (refine a_cond rfl ?_ ?_ <;> (intro h; (try (have hp := of_decide_eq_true h)); (try (have hp := of_decide_eq_false h)); (try contradiction); (try (exfalso; omega)))) | refine w_guard_y rfl rfl rfl (by first | assumption | rfl) ?_ | refine w_qguard_y rfl rfl rfl (by first | assumption | rfl) ?_ | ((first | refine w_guard rfl rfl rfl ?_ ?_ | refine w_qguard rfl rfl rfl ?_ ?_) <;> (intro h; (try (have hp := of_decide_eq_true h)); (try (have hp := of_decide_eq_false h)); (try contradiction); (try (exfalso; omega)))) | refine a_draw (by kernel_rfl) (by kernel_rfl) ?_ | (((first | apply w_q | apply w_qq); (focus exact Q_slen rfl (by kernel_rfl)); (focus exact rfl))) | (((first | apply w_q | apply w_qq); (focus exact Q_sidx (j := p + 1) rfl rfl rfl (by kernel_rfl) e2); (focus exact rfl))) | (((first | apply w_q | apply w_qq); (focus exact Q_geq8 rfl rfl); (focus exact rfl))) | (((first | apply w_q | apply w_qq); (focus exact Q_leq8 rfl rfl); (focus exact rfl))) | ((refine l_callP0 (vs := [.int .i64 1, .int .i64 ((p + 1 : Nat) : Int)]) (fail_ap 1 ((p + 1 : Nat) : Int)) rfl rfl ?_; exact rfl)))); (try all_goals (try show retA _ _ _ _ _ _ _))
    all_goals first
      | (exfalso; omega)
      | (all_goals trace_state); fail
end Go.Proofs.YtpfldhaaiglgdaaDoor
