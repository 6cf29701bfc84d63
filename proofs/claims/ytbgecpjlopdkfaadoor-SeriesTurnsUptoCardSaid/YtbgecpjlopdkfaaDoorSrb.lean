import Derived.Test.YtbgecpjlopdkfaaDoorSrd
import Derived.Test.YtbgecpjlopdkfaaDoorEngZzh
import Derived.Test.YtbgecpjlopdkfaaDoorEngZd
import Derived.Test.YtbgecpjlopdkfaaDoorEngZf
import Derived.Test.YtbgecpjlopdkfaaDoorGr
import Derived.Test.YtbgecpjlopdkfaaDoorSra
import Derived.Test.YtbgecpjlopdkfaaDoorTypes
set_option linter.unusedSimpArgs false
set_option linter.unusedVariables false
set_option linter.unusedSectionVars false
set_option maxRecDepth 20000
namespace Go.Proofs.YtbgecpjlopdkfaaDoor
attribute [local irreducible] QOp aL aC qL
theorem iLen64_2 : AC Tryd.prog 143 [.val (.int .u64 ((2 : Nat) : Int))] [] (.val (.int .i64 2)) [] := by
  refine AC.mk (n := 25) (fn := Tryd.f143) Tryd.func143 (by kernel_rfl) rfl rfl rfl rfl (fun cx => ?_); dsimp only [argv, Nat.reduceAdd]
  (repeat' (first | refine a_seq ?_ | refine a_skip ?_ | refine a_ret ?_ | refine a_region ?_ | refine l_nil ?_ | (apply w_q; (focus (first | exact Q_move (by conv => lhs; whnf) | exact Q_assign (by conv => lhs; whnf) | exact Q_add rfl rfl (by omega))); (focus exact rfl)) | (refine a_cond rfl ?_ ?_ <;> (intro h; (try (have hp := of_decide_eq_true h)); (try (have hp := of_decide_eq_false h)); (try contradiction); (try (exfalso; omega)))) | (((first | apply w_q); (focus exact Q_ugeq rfl rfl); (focus exact rfl))) | (((first | apply w_q); (focus exact Q_conv (n := ((2 : Nat) : Int)) rfl Tryd.underlying158 Tryd.underlying5 rfl); (focus exact rfl))) | (((first | apply w_q); (focus exact Q_ixStr (b := 2) (i := 2) rfl rfl rfl (by kernel_rfl)); (focus exact rfl))) | (((first | apply w_q); (focus exact Q_conv (n := ((2 : Nat) : Int)) rfl Tryd.underlying5 Tryd.underlying3 rfl); (focus exact rfl))))); (try all_goals (try show retA _ _ _ _ _ _ _))
  all_goals first
    | (exfalso; omega)
    | (refine ⟨[_], [], ⟨resV_tmp (by conv => lhs; whnf), trivial⟩, VwOs.mk (by decide) trivial, ?_, rfl⟩; (repeat' (first | exact vwR rfl)); done)
    | (all_goals trace_state); fail
attribute [local irreducible] FOp POp hL xH
end Go.Proofs.YtbgecpjlopdkfaaDoor
set_option linter.unusedSimpArgs false
set_option linter.unusedVariables false
set_option linter.unusedSectionVars false
set_option maxRecDepth 20000
namespace Go.Proofs.YtbgecpjlopdkfaaDoor
attribute [local irreducible] QOp aL aC qL
def ta3 (k p : Int) (l : List Tr) : AV := .agg [.val (.int .i64 k), .val (.int .i64 p), tks l]
set_option maxRecDepth 20000 in
theorem terms_ac : ∀ (d : Nat) (k p : Int) (l : List Tr), 1 + kdep l ≤ d → 1 + kcnt l ≤ 100000000 → AC Tryd.prog 106 [ta3 k p l] [] (.val (.int .i64 ((1 + kcnt l : Nat) : Int))) []
  | 0, k, p, l, hd, _ => by omega
  | d + 1, k, p, l, hd, hb => by
    have ih := terms_ac d
    unfold ta3 at ih ⊢
    refine AC.mk (n := 19) (fn := Tryd.f106) Tryd.func106 (by kernel_rfl) rfl rfl rfl rfl (fun cx => ?_); dsimp only [argv, Nat.reduceAdd]
    (repeat' (first | refine a_seq ?_ | refine a_block ?_ | refine a_region ?_ | refine l_nil ?_ | (apply w_q; (focus (first | exact Q_move (by conv => lhs; whnf) | exact Q_assign (by conv => lhs; whnf) | exact Q_fieldAddr_ptr rfl KFl.h | exact Q_load_ptr rfl rfl rfl KSc.h)); (focus exact rfl)) | refine w_box rfl rfl (by first|(dsimp only[obA,obB,obD,obE,obF,obG,obI,List.map,AO.sh,AV.sh,AV.shl,Nat.reduceAdd];done)|exact rfl) (by first|(dsimp only[obA,obB,obD,obE,obF,obG,obI,List.map,AO.sh,AV.sh,AV.shl,Nat.reduceAdd];done)|exact rfl) rfl ?_ | (((first | apply w_q); (focus exact Q_len_kid rfl KSl.h); (focus exact rfl))))); (try all_goals (try show retA _ _ _ _ _ _ _))
    refine w_loop (X := Nat) [7, 8] (by simp only [keepv, getv_cons, Nat.reduceEqDiff, ↓reduceIte]; exact rfl) (fun i => [(3, .val (.int .i64 ((1 + kcnt (l.take i) : Nat) : Int))), (9, .val (.int .i64 (i : Nat)))]) (fun i => [.box [.val (.int .i64 k), .val (.int .i64 p), tks l]]) (fun i => i ≤ l.length) (fun i => l.length - i) (0) ([0]) ?_ ?_ rfl ?_ <;> (try dsimp only [List.cons_append, List.nil_append])
    · exact Nat.zero_le _
    · (refine St.le_mk rfl (VwOs.mk (by decide) ?_) ?_ <;> (repeat' (first | exact trivial | exact vwR rfl | exact Vw.ro _ | refine VwO.box' ?_ | refine ⟨⟨_, rfl, ?_⟩, ?_⟩ | refine ⟨?_, ?_⟩ )))
    rintro i hi
    by_cases hil : i < l.length
    · have hm := kcnt_mono l (i + 1)
      have hll := kcnt_len l
      have ht := kcnt_take hil
      have hdp := dep_kid hil
      rcases hk : l[i] with ⟨k1, p1, r⟩
      rw [hk] at ht hdp
      have c1 : (Tr.mk k1 p1 r).cnt = 1 + kcnt r := by unfold Tr.cnt; rfl
      have c2 : (Tr.mk k1 p1 r).dep = 1 + kdep r := by unfold Tr.dep; rfl
      have call := ih k1 p1 r (by omega) (by omega)
      have e1 : ((1 + kcnt (l.take i) : Nat) : Int) + ((1 + kcnt r : Nat) : Int) = ((1 + kcnt (l.take (i + 1)) : Nat) : Int) := by omega
      have b1 : 1 + kcnt (l.take i) ≤ 100000000 := by omega
      have b2 : 1 + kcnt r ≤ 100000000 := by omega
      have b3 : l.length ≤ 100000000 := by omega
      clear ih ht hdp c1 c2
      (repeat' (first | refine a_seq ?_ | refine a_block ?_ | refine a_skip ?_ | refine a_region ?_ | refine l_nil ?_ | (apply w_q; (focus (first | exact Q_move (by conv => lhs; whnf) | exact Q_assign (by conv => lhs; whnf) | exact Q_load_all rfl rfl KAg.h | exact Q_lss rfl rfl | exact Q_add rfl rfl (by omega))); (focus exact rfl)) | (refine a_cond rfl ?_ ?_ <;> (intro h; (try (have hp := of_decide_eq_true h)); (try (have hp := of_decide_eq_false h)); (try contradiction); (try (exfalso; omega)))) | refine w_alloc KMk.h (by first|(dsimp only[obA,obB,obD,obE,obF,obG,obI,List.map,AO.sh,AV.sh,AV.shl,Nat.reduceAdd];done)|exact rfl) rfl (by first|(dsimp only[obA,obB,obD,obE,obF,obG,obI,List.map,AO.sh,AV.sh,AV.shl,Nat.reduceAdd];done)|exact rfl) (by first|(dsimp only[obA,obB,obD,obE,obF,obG,obI,List.map,AO.sh,AV.sh,AV.shl,Nat.reduceAdd];done)|exact rfl) rfl ?_ | refine w_store_all rfl rfl rfl rfl rfl KSz.h (by first|(dsimp only[obA,obB,obD,obE,obF,obG,obI,List.map,AO.sh,AV.sh,AV.shl,Nat.reduceAdd];done)|exact rfl) ?_ | (((first | apply w_q); (focus exact Q_ix_kid rfl rfl rfl KSl.h hil); (focus exact rfl))) | (((first | apply w_q); (focus exact Q_ld_kid rfl hil hk KAg.h); (focus exact rfl))) | ((refine w_callV (.inl ⟨rfl, rfl⟩) (call) ?_ (by first | (dsimp only [AV.sh, AV.shl, sh_ints, sh_rows, sh_pairs, sh_ords]; done) | exact rfl) rfl ?_; rotate_left 0; (focus ((repeat' (first | exact trivial | exact Vs.val _ | exact Vs.ro _ | refine Vs.agg' ?_ | refine ⟨?_, ?_⟩)); done)); rotate_left 1; all_goals (try (skip)))))); (try all_goals (try show retA _ _ _ _ _ _ _))
      all_goals first
        | (exfalso; omega)
        | (rw [e1]
           refine ⟨i + 1, [0], ?_, ?_, ?_, rfl⟩ <;> (try dsimp only)
           · omega
           · omega
           · (refine St.le_mk rfl (VwOs.mk (by decide) ?_) ?_ <;> (repeat' (first | exact trivial | exact vwR rfl | exact Vw.ro _ | refine VwO.box' ?_ | refine ⟨⟨_, rfl, ?_⟩, ?_⟩ | refine ⟨?_, ?_⟩ ))))
        | (all_goals trace_state); fail
    · obtain rfl : i = l.length := by omega
      rw [List.take_length]
      (repeat' (first | refine a_seq ?_ | refine a_ret ?_ | refine a_exit ?_ | refine a_region ?_ | refine l_nil ?_ | (apply w_q; (focus (first | exact Q_move (by conv => lhs; whnf) | exact Q_assign (by conv => lhs; whnf) | exact Q_lss rfl rfl)); (focus exact rfl)) | (refine a_cond rfl ?_ ?_ <;> (intro h; (try (have hp := of_decide_eq_true h)); (try (have hp := of_decide_eq_false h)); (try contradiction); (try (exfalso; omega)))))); (try all_goals (try show retA _ _ _ _ _ _ _))
      all_goals first
        | (exfalso; omega)
        | (refine ⟨[_], [], ⟨resV_tmp (by conv => lhs; whnf), trivial⟩, VwOs.mk (by decide) trivial, ?_, rfl⟩; (repeat' (first | exact vwR rfl)); done)
        | (all_goals trace_state); fail
set_option maxRecDepth 20000 in
theorem points_acS : ∀ (d : Nat) (k p : Int) (l : List Tr), 1 + kdep l ≤ d → 1 + kcnt l ≤ 100000000 → AC Tryd.prog 70 [ta3 k p l] [] (.own 0) [.row 3 1 (intc (Tr.mk k p l).pts)]
  | 0, k, p, l, hd, _ => by omega
  | d + 1, k, p, l, hd, hb => by
    have ih := points_acS d
    have hu : (Tr.mk k p l).pts = if k = 1 then [p] else kpts l := by unfold Tr.pts; rfl
    rw [hu]
    unfold ta3 at ih ⊢
    by_cases hk1 : k = 1
    · rw [if_pos hk1]
      refine AC.mk (n := 25) (fn := Tryd.f70) Tryd.func70 (by kernel_rfl) rfl rfl rfl rfl (fun cx => ?_); dsimp only [argv, Nat.reduceAdd]
      (repeat' (first | refine a_seq ?_ | refine a_ret ?_ | refine a_region ?_ | refine l_nil ?_ | (apply w_q; (focus (first | exact Q_assign (by conv => lhs; whnf) | exact Q_fieldAddr_ptr rfl KFl.h | exact Q_load_ptr rfl rfl rfl KSc.h | exact Q_eql rfl rfl)); (focus exact rfl)) | (refine a_cond rfl ?_ ?_ <;> (intro h; (try (have hp := of_decide_eq_true h)); (try (have hp := of_decide_eq_false h)); (try contradiction); (try (exfalso; omega)))) | refine w_box rfl rfl (by first|(dsimp only[obA,obB,obD,obE,obF,obG,obI,List.map,AO.sh,AV.sh,AV.shl,Nat.reduceAdd];done)|exact rfl) (by first|(dsimp only[obA,obB,obD,obE,obF,obG,obI,List.map,AO.sh,AV.sh,AV.shl,Nat.reduceAdd];done)|exact rfl) rfl ?_ | refine w_lit_int rfl KSl.h KMk.h (by first|(dsimp only[obA,obB,obD,obE,obF,obG,obI,List.map,AO.sh,AV.sh,AV.shl,Nat.reduceAdd];done)|exact rfl) (by first|(dsimp only[obA,obB,obD,obE,obF,obG,obI,List.map,AO.sh,AV.sh,AV.shl,Nat.reduceAdd];done)|exact rfl) rfl ?_)); (try all_goals (try show retA _ _ _ _ _ _ _))
      all_goals first
        | (exfalso; omega)
        | (refine ⟨[_], [1], ⟨resV_tmp (by conv => lhs; whnf), trivial⟩, VwOs.mk (by decide) ⟨⟨_, rfl, .row _ _ _⟩, trivial⟩, ?_, rfl⟩; (repeat' (first | exact Vw.own _ _ rfl)); done)
        | (all_goals trace_state); fail
    rw [if_neg hk1]
    refine AC.mk (n := 25) (fn := Tryd.f70) Tryd.func70 (by kernel_rfl) rfl rfl rfl rfl (fun cx => ?_); dsimp only [argv, Nat.reduceAdd]
    (repeat' (first | refine a_seq ?_ | refine a_block ?_ | refine a_skip ?_ | refine a_region ?_ | refine l_nil ?_ | (apply w_q; (focus (first | exact Q_move (by conv => lhs; whnf) | exact Q_assign (by conv => lhs; whnf) | exact Q_fieldAddr_ptr rfl KFl.h | exact Q_load_ptr rfl rfl rfl KSc.h | exact Q_eql rfl rfl)); (focus exact rfl)) | (refine a_cond rfl ?_ ?_ <;> (intro h; (try (have hp := of_decide_eq_true h)); (try (have hp := of_decide_eq_false h)); (try contradiction); (try (exfalso; omega)))) | refine w_box rfl rfl (by first|(dsimp only[obA,obB,obD,obE,obF,obG,obI,List.map,AO.sh,AV.sh,AV.shl,Nat.reduceAdd];done)|exact rfl) (by first|(dsimp only[obA,obB,obD,obE,obF,obG,obI,List.map,AO.sh,AV.sh,AV.shl,Nat.reduceAdd];done)|exact rfl) rfl ?_ | (((first | apply w_q); (focus exact Q_len_kid rfl KSl.h); (focus exact rfl))))); (try all_goals (try show retA _ _ _ _ _ _ _))
    all_goals first
      | (exfalso; omega)
      | skip
    refine w_nilownC 3 3 1 rfl (by first|(dsimp only[obA,obB,obD,obE,obF,obG,obI,List.map,AO.sh,AV.sh,AV.shl,Nat.reduceAdd];done)|exact rfl) rfl ?_
    refine w_loop (X := Nat) [13, 14] (by simp only [keepv, getv_cons, Nat.reduceEqDiff, ↓reduceIte]; exact rfl) (fun i => [(3, .own 1), (15, .val (.int .i64 (i : Nat)))]) (fun i => [.gone, .row 3 1 (intc (kpts (l.take i)))]) (fun i => i ≤ l.length) (fun i => l.length - i) (0) ([0, 1]) ?_ ?_ rfl ?_ <;> (try dsimp only [List.cons_append, List.nil_append])
    · exact Nat.zero_le _
    · (refine St.le_mk rfl (VwOs.mk (by decide) ?_) ?_ <;> (repeat' (first | exact trivial | exact vwR rfl | exact Vw.ro _ | exact Vw.own _ _ rfl | exact VwO.row _ _ _ | exact VwO.gone _ | refine ⟨⟨_, rfl, ?_⟩, ?_⟩ | refine ⟨?_, ?_⟩ )))
    rintro i hi
    by_cases hil : i < l.length
    · have hm := kcnt_mono l (i + 1)
      have hll := kcnt_len l
      have ht := kpts_take hil
      have htc := kcnt_take hil
      have hdp := dep_kid hil
      have hb1 := kpts_cnt (l.take i)
      have hb2 := pts_cnt (l[i])
      rcases hk : l[i] with ⟨k2, p1, r⟩
      rw [hk] at ht hdp htc hb2
      have c1 : (Tr.mk k2 p1 r).cnt = 1 + kcnt r := by unfold Tr.cnt; rfl
      have c2 : (Tr.mk k2 p1 r).dep = 1 + kdep r := by unfold Tr.dep; rfl
      have call := AC.vw0 (ih k2 p1 r (by omega) (by omega)) (res2 := ints (Tr.mk k2 p1 r).pts) (by (repeat' (first | exact Vw.rowro _ _ _ _ rfl (by decide))))
      have b1 : (kpts (l.take i)).length ≤ 100000000 := by omega
      have b2 : (Tr.mk k2 p1 r).pts.length ≤ 100000000 := by omega
      generalize (Tr.mk k2 p1 r).pts = X at *
      generalize kpts (l.take i) = Y at *
      have b3 : l.length ≤ 100000000 := by omega
      clear ih hdp c1 c2 htc hu
      (repeat' (first | refine a_seq ?_ | refine a_block ?_ | refine a_skip ?_ | refine a_region ?_ | refine l_nil ?_ | (apply w_q; (focus (first | exact Q_move (by conv => lhs; whnf) | exact Q_assign (by conv => lhs; whnf) | exact Q_load_all rfl rfl KAg.h | exact Q_lss rfl rfl | exact Q_add rfl rfl (by omega))); (focus exact rfl)) | (refine a_cond rfl ?_ ?_ <;> (intro h; (try (have hp := of_decide_eq_true h)); (try (have hp := of_decide_eq_false h)); (try contradiction); (try (exfalso; omega)))) | refine w_alloc KMk.h (by first|(dsimp only[obA,obB,obD,obE,obF,obG,obI,List.map,AO.sh,AV.sh,AV.shl,Nat.reduceAdd];done)|exact rfl) rfl (by first|(dsimp only[obA,obB,obD,obE,obF,obG,obI,List.map,AO.sh,AV.sh,AV.shl,Nat.reduceAdd];done)|exact rfl) (by first|(dsimp only[obA,obB,obD,obE,obF,obG,obI,List.map,AO.sh,AV.sh,AV.shl,Nat.reduceAdd];done)|exact rfl) rfl ?_ | refine w_store_all rfl rfl rfl rfl rfl KSz.h (by first|(dsimp only[obA,obB,obD,obE,obF,obG,obI,List.map,AO.sh,AV.sh,AV.shl,Nat.reduceAdd];done)|exact rfl) ?_ | (((first | apply w_q); (focus exact Q_ix_kid rfl rfl rfl KSl.h hil); (focus exact rfl))) | (((first | apply w_q); (focus exact Q_ld_kid rfl hil hk KAg.h); (focus exact rfl))) | ((refine w_callV (.inl ⟨rfl, rfl⟩) (call) ?_ (by first | (dsimp only [AV.sh, AV.shl, sh_ints, sh_rows, sh_pairs, sh_ords]; done) | exact rfl) rfl ?_; rotate_left 0; (focus ((repeat' (first | exact trivial | exact Vs.val _ | exact Vs.ro _ | refine Vs.agg' ?_ | refine ⟨?_, ?_⟩)); done)); rotate_left 1; all_goals (try (skip)))) | (refine w_ap_intsS rfl rfl rfl KSl.h KMk.h (by omega) (by first|(dsimp only[obA,obB,obD,obE,obF,obG,obI,List.map,AO.sh,AV.sh,AV.shl,Nat.reduceAdd];done)|exact rfl) rfl rfl ?_))); (try all_goals (try show retA _ _ _ _ _ _ _))
      all_goals first
        | (exfalso; omega)
        | (refine ⟨i + 1, [0, 3], ?_, ?_, ?_, rfl⟩ <;> (try dsimp only)
           · omega
           · omega
           · rw [ht]; (refine St.le_mk rfl (VwOs.mk (by decide) ?_) ?_ <;> (repeat' (first | exact trivial | exact vwR rfl | exact Vw.ro _ | exact Vw.own _ _ rfl | exact VwO.row _ _ _ | exact VwO.gone _ | refine ⟨⟨_, rfl, ?_⟩, ?_⟩ | refine ⟨?_, ?_⟩ ))))
        | (all_goals trace_state); fail
    · obtain rfl : i = l.length := by omega
      rw [List.take_length]
      (repeat' (first | refine a_seq ?_ | refine a_ret ?_ | refine a_exit ?_ | refine a_region ?_ | refine l_nil ?_ | (apply w_q; (focus (first | exact Q_move (by conv => lhs; whnf) | exact Q_assign (by conv => lhs; whnf) | exact Q_lss rfl rfl)); (focus exact rfl)) | (refine a_cond rfl ?_ ?_ <;> (intro h; (try (have hp := of_decide_eq_true h)); (try (have hp := of_decide_eq_false h)); (try contradiction); (try (exfalso; omega)))))); (try all_goals (try show retA _ _ _ _ _ _ _))
      all_goals first
        | (exfalso; omega)
        | (refine ⟨[_], [1], ⟨resV_tmp (by conv => lhs; whnf), trivial⟩, VwOs.mk (by decide) ⟨⟨_, rfl, .row _ _ _⟩, trivial⟩, ?_, rfl⟩; (repeat' (first | exact Vw.own _ _ rfl)); done)
        | (all_goals trace_state); fail
end Go.Proofs.YtbgecpjlopdkfaaDoor
