import Derived.Test.YtgojkabjgagjcaaDoorEq
import Derived.Test.YtgojkabjgagjcaaDoorEs
import Derived.Test.YtgojkabjgagjcaaDoorQf
set_option linter.unusedSimpArgs false
set_option linter.unusedVariables false
set_option linter.unusedSectionVars false
set_option maxRecDepth 20000
namespace Go.Proofs.YtgojkabjgagjcaaDoor
attribute [local irreducible] QOp aL aC qL
attribute [local irreducible] FOp POp hL xH
theorem prs_nd {n : Nat} {f : Nat → Nat → Bool} {a : Nat} : (prsTo n f a).Nodup := by
  unfold prsTo rowTo
  rw [List.nodup_iff_pairwise_ne, List.pairwise_flatMap]
  refine ⟨fun b _ => ?_, ?_⟩
  · rw [List.pairwise_map]
    exact (List.nodup_iff_pairwise_ne.1 (List.nodup_range.filter _)).imp fun h e => h (by cases e; rfl)
  · refine (List.nodup_iff_pairwise_ne.1 List.nodup_range).imp fun h x hx y hy e => ?_
    obtain ⟨a, _, rfl⟩ := List.mem_map.1 hx
    obtain ⟨a', _, rfl⟩ := List.mem_map.1 hy
    exact h (by cases e; rfl)
theorem ap_asked (n : Nat) (ns : List Nat) : Asked n (apL n ns) := ⟨fun p hp => ⟨(apL_mem.1 hp).l, (apL_mem.1 hp).r⟩, prs_nd, fun p hp => apL_mem.2 (ApP.swap (apL_mem.1 hp))⟩
theorem apf_cmp (ns : List Nat) (a b : Nat) : (decide (a ≠ b) && !cmp ns a b) = apf ns a b := by
  unfold apf cmp
  cases lt ns a b <;> cases lt ns b a <;> simp
theorem apf_iff {n : Nat} {ns : List Nat} {a b : Nat} (ha : a < n) (hb : b < n) : apf ns a b = true ↔ ApP n ns (a, b) := by
  rw [← apL_mem]
  unfold apL
  rw [prs_mem]
  exact ⟨fun h => ⟨ha, hb, h⟩, fun h => h.2.2⟩
def ordO (n : Nat) (o : Option (List Nat)) : AV := match o with
  | some C => ordv n (nl C)
  | none => ordv 0 []
theorem Turned_err (N : Int) (l : List Int) (h : chkR N l ≠ 0) : AC Tryd.prog 14 [ordv N l] [] (.tup [ordv 0 [], .val (.bool false), .val (.int .i64 (chkR N l))]) [] := by
  have kC := chkR_ac N l
  generalize chkR N l = e at *
  refine AC.mk (n := 24) (fn := Tryd.f14) Tryd.func14 (by kernel_rfl) rfl rfl rfl rfl (fun cx => ?_); dsimp only [argv, Nat.reduceAdd]
  (repeat' (first | refine a_seq ?_ | refine a_ret ?_ | refine a_region ?_ | refine l_nil ?_ | (apply w_q; (focus (first | exact Q_move (by conv => lhs; whnf) | exact Q_assign (by conv => lhs; whnf) | exact Q_load_all rfl rfl KAg.h | exact Q_neq rfl rfl | exact Q_build0 KBd.h (by simp only [List.map_cons, List.map_nil, List.take_succ_cons, List.take_zero, List.drop_succ_cons, List.drop_zero, List.drop_nil, List.nil_append, List.cons_append, List.append_nil, List.length_cons, List.length_nil, Nat.reduceAdd, Nat.reduceMul]; exact rfl))); (focus exact rfl)) | (refine a_cond rfl ?_ ?_ <;> (intro h; (try (have hp := of_decide_eq_true h)); (try (have hp := of_decide_eq_false h)); (try contradiction); (try (exfalso; omega)))) | refine w_box rfl rfl (by first|(dsimp only[obA,obB,obD,obE,obF,obG,obI,List.map,AO.sh,AV.sh,AV.shl,Nat.reduceAdd];done)|exact rfl) (by first|(dsimp only[obA,obB,obD,obE,obF,obG,obI,List.map,AO.sh,AV.sh,AV.shl,Nat.reduceAdd];done)|exact rfl) rfl ?_ | refine w_alloc KMk.h (by first|(dsimp only[obA,obB,obD,obE,obF,obG,obI,List.map,AO.sh,AV.sh,AV.shl,Nat.reduceAdd];done)|exact rfl) rfl (by first|(dsimp only[obA,obB,obD,obE,obF,obG,obI,List.map,AO.sh,AV.sh,AV.shl,Nat.reduceAdd];done)|exact rfl) (by first|(dsimp only[obA,obB,obD,obE,obF,obG,obI,List.map,AO.sh,AV.sh,AV.shl,Nat.reduceAdd];done)|exact rfl) rfl ?_ | refine w_store_all rfl rfl rfl rfl rfl KSz.h (by first|(dsimp only[obA,obB,obD,obE,obF,obG,obI,List.map,AO.sh,AV.sh,AV.shl,Nat.reduceAdd];done)|exact rfl) ?_ | (((first | apply w_q); (focus (refine Q_call (.inl ⟨rfl, rfl⟩) (kC) ?_; ((repeat' (first | exact trivial | exact vwR rfl | exact Vw.ro _ | refine Vw.agg' ?_ | refine ⟨?_, ?_⟩ )); done))); (focus exact rfl))))); (try all_goals (try show retA _ _ _ _ _ _ _))
  all_goals first
    | (exfalso; omega)
    | (refine ⟨[_, _, _], [], ⟨resV_cell rfl rfl KAg.h, resV_tmp (by conv => lhs; whnf), resV_tmp (by conv => lhs; whnf), trivial⟩, VwOs.mk (by decide) trivial, ?_, rfl⟩; (repeat' (first | exact trivial | exact vwR rfl | exact vwRL rfl | exact Vw.nilro _ | refine Vw.agg' ?_ | refine Vw.tup' ?_ | refine ⟨?_, ?_⟩ )); done)
    | (all_goals trace_state); fail
set_option maxRecDepth 20000 in
set_option maxHeartbeats 2000000 in
theorem Turned_at (n : Nat) (ns : List Nat) (hn : n ≤ 7) (hv : Vld n ns) (hok : okB n ns = true) (r : Option (List Nat)) (hr : turnN n (apL n ns) (msN n (apL n ns) [] + 1) [] = r) :
    AC Tryd.prog 14 [ordv n (nl ns)] [] (.tup [ordO n r, .val (.bool r.isSome), .val (.int .i64 0)]) [] := by
  have kC := chkR_ac n (nl ns)
  have hz : chkR n (nl ns) = 0 := by
    unfold chkR
    rw [chk_ok (by omega) hv hok, if_neg (fun h => by omega)]
  rw [hz] at kC
  have kA := apart_ac n ns (by omega) hv
  have hl : (apL n ns).length ≤ 100 := Nat.le_trans (prsTo_len n _ n) (mul_le10 (Nat.le_refl n) (by omega))
  have hm : msN n (apL n ns) [] ≤ (apL n ns).length := List.length_filter_le _ _
  have kT := turn_ac n (apL n ns) hn (ap_asked n ns) hl (msN n (apL n ns) [] + 1) [] (fun p hp => by cases hp) (by simp only [List.length_nil]; omega) (by omega)
  rw [hr, show pn ([] : List (Nat × Nat)) = [] from rfl] at kT
  clear hm hl hr
  generalize apL n ns = ps at *
  cases r with
  | none =>
    unfold resT at kT
    unfold ordO
    dsimp only [Option.isSome] at kT ⊢
    refine AC.mk (n := 24) (fn := Tryd.f14) Tryd.func14 (by kernel_rfl) rfl rfl rfl rfl (fun cx => ?_); dsimp only [argv, Nat.reduceAdd]
    (repeat' (first | refine a_seq ?_ | refine a_skip ?_ | refine a_region ?_ | refine l_nil ?_ | (apply w_q; (focus (first | exact Q_move (by conv => lhs; whnf) | exact Q_assign (by conv => lhs; whnf) | exact Q_load_all rfl rfl KAg.h | exact Q_neq rfl rfl)); (focus exact rfl)) | (refine a_cond rfl ?_ ?_ <;> (intro h; (try (have hp := of_decide_eq_true h)); (try (have hp := of_decide_eq_false h)); (try contradiction); (try (exfalso; omega)))) | refine w_box rfl rfl (by first|(dsimp only[obA,obB,obD,obE,obF,obG,obI,List.map,AO.sh,AV.sh,AV.shl,Nat.reduceAdd];done)|exact rfl) (by first|(dsimp only[obA,obB,obD,obE,obF,obG,obI,List.map,AO.sh,AV.sh,AV.shl,Nat.reduceAdd];done)|exact rfl) rfl ?_ | refine w_alloc KMk.h (by first|(dsimp only[obA,obB,obD,obE,obF,obG,obI,List.map,AO.sh,AV.sh,AV.shl,Nat.reduceAdd];done)|exact rfl) rfl (by first|(dsimp only[obA,obB,obD,obE,obF,obG,obI,List.map,AO.sh,AV.sh,AV.shl,Nat.reduceAdd];done)|exact rfl) (by first|(dsimp only[obA,obB,obD,obE,obF,obG,obI,List.map,AO.sh,AV.sh,AV.shl,Nat.reduceAdd];done)|exact rfl) rfl ?_ | (((first | apply w_q); (focus (refine Q_call (.inl ⟨rfl, rfl⟩) (kC) ?_; ((repeat' (first | exact trivial | exact vwR rfl | exact Vw.ro _ | refine Vw.agg' ?_ | refine ⟨?_, ?_⟩ )); done))); (focus exact rfl))))); (try all_goals (try show retA _ _ _ _ _ _ _))
    all_goals first
      | (exfalso; omega)
      | skip
    refine w_freezeBC 0 [.val (.int .i64 n), .sl 1 (intc (nl ns))] rfl rfl (by simp only [fbv_nil, fbv_cons, fbl_nil, fbl_cons, fbo_nil, fbo_cons, fbo_box, fbo_row, fbo_gone, fb_own, fb_val, fb_ro, fb_rpt, fb_ptr, fb_ept, fb_agg, fb_tup, fb_clo, fb_ints, fb_rows, fb_pairs, fb_ords, Nat.reduceEqDiff, ↓reduceIte, List.set_cons_zero, List.set_cons_succ]; exact rfl) (by simp only [fbv_nil, fbv_cons, fbl_nil, fbl_cons, fbo_nil, fbo_cons, fbo_box, fbo_row, fbo_gone, fb_own, fb_val, fb_ro, fb_rpt, fb_ptr, fb_ept, fb_agg, fb_tup, fb_clo, fb_ints, fb_rows, fb_pairs, fb_ords, Nat.reduceEqDiff, ↓reduceIte, List.set_cons_zero, List.set_cons_succ]; exact rfl) ?_
    (repeat' (first | (refine a_holdRN (id := 4) (by kernel_rfl) rfl ?_; apply rw_first 0 rfl (by kernel_rfl); (focus (first | exact R_fieldAddr_rpt rfl KFl.h)); (focus exact rfl); apply rw_first 1 rfl (by kernel_rfl); (focus (first | exact R_ld_rv rfl rfl KSc.h)); (focus exact rfl); apply rw_first 2 rfl (by kernel_rfl); (focus (first | exact R_ld_rpa rfl KAg.h rfl (by first | (dsimp only [List.map, ofD]; done) | exact rfl))); (focus exact rfl); refine rw_frame (fun _ _ => ?_)) | refine xh_step (listed := [true, true, true, false, false, false, false, false, false, false, false]) (i := 3) (is := [8]) (by kernel_rfl) ⟨⟨_, rfl, ?_⟩, ⟨_, rfl, ?_⟩, trivial⟩ | refine xh_step (listed := [true, true, true, false, false, false, false, false, true, false, false]) (i := 3) (is := []) (by kernel_rfl) ⟨⟨_, rfl, ?_⟩, trivial⟩ | refine xh_step (listed := [true, true, true, true, false, false, false, false, true, false, false]) (i := 4) (is := []) (by kernel_rfl) ⟨⟨_, rfl, ?_⟩, trivial⟩ | (apply xw_first (listed := [true, true, true, true, true, false, false, false, true, false, false]) 5 rfl (by kernel_rfl); (focus (first | exact P_move (by conv => lhs; whnf))); (focus exact rfl)) | (apply xw_first (listed := [true, true, true, true, true, true, false, false, true, false, false]) 6 rfl (by kernel_rfl); (focus (first | exact P_extract rfl (by conv => lhs; whnf))); (focus exact rfl)) | (apply xw_first (listed := [true, true, true, true, true, true, true, false, true, false, false]) 7 rfl (by kernel_rfl); (focus (first | exact P_extract rfl (by conv => lhs; whnf))); (focus exact rfl)) | refine xh_step (listed := [true, true, true, true, true, true, true, true, true, false, false]) (i := 9) (is := []) (by kernel_rfl) ⟨⟨_, rfl, ?_⟩, trivial⟩ | (apply xw_first (listed := [true, true, true, true, true, true, true, true, true, true, false]) 10 rfl (by kernel_rfl); (focus (first | exact P_assign (by conv => lhs; whnf))); (focus exact rfl)) | refine xh_done (listed := [true, true, true, true, true, true, true, true, true, true, true]) (by kernel_rfl) ?_ | refine xh_step (listed := [true, true, true, true, false, false, false, false, false, false, false]) (i := 4) (is := [8]) (by kernel_rfl) ⟨⟨_, rfl, ?_⟩, ⟨_, rfl, ?_⟩, trivial⟩ | (apply xw_first (listed := [true, true, true, true, true, false, false, false, false, false, false]) 5 rfl (by kernel_rfl); (focus (first | exact P_move (by conv => lhs; whnf))); (focus exact rfl)) | (apply xw_first (listed := [true, true, true, true, true, true, false, false, false, false, false]) 6 rfl (by kernel_rfl); (focus (first | exact P_extract rfl (by conv => lhs; whnf))); (focus exact rfl)) | (apply xw_first (listed := [true, true, true, true, true, true, true, false, false, false, false]) 7 rfl (by kernel_rfl); (focus (first | exact P_extract rfl (by conv => lhs; whnf))); (focus exact rfl)) | refine xh_step (listed := [true, true, true, true, true, true, true, true, false, false, false]) (i := 8) (is := []) (by kernel_rfl) ⟨⟨_, rfl, ?_⟩, trivial⟩ | refine a_seq ?_ | refine a_ret ?_ | refine a_region ?_ | refine l_nil ?_ | ((first | apply w_q); (focus (first | exact Q_move (by conv => lhs; whnf) | exact Q_assign (by conv => lhs; whnf) | exact Q_load_all rfl rfl KAg.h)); (focus exact rfl)) | refine w_alloc KMk.h (by first|(dsimp only[obA,obB,obD,obE,obF,obG,obI,List.map,AO.sh,AV.sh,AV.shl,Nat.reduceAdd];done)|exact rfl) rfl (by first|(dsimp only[obA,obB,obD,obE,obF,obG,obI,List.map,AO.sh,AV.sh,AV.shl,Nat.reduceAdd];done)|exact rfl) (by first|(dsimp only[obA,obB,obD,obE,obF,obG,obI,List.map,AO.sh,AV.sh,AV.shl,Nat.reduceAdd];done)|exact rfl) rfl ?_ | refine w_store_all rfl rfl rfl rfl rfl KSz.h (by first|(dsimp only[obA,obB,obD,obE,obF,obG,obI,List.map,AO.sh,AV.sh,AV.shl,Nat.reduceAdd];done)|exact rfl) ?_ | ((refine w_callV (.inl ⟨rfl, rfl⟩) (kA) ?_ (by first | (dsimp only [AV.sh, AV.shl, sh_ints, sh_rows, sh_pairs, sh_ords]; done) | exact rfl) rfl ?_; rotate_left 0; (focus ((repeat' (first | exact trivial | exact Vs.val _ | exact Vs.ro _ | refine Vs.agg' ?_ | refine ⟨?_, ?_⟩)); done)); rotate_left 1; all_goals (try (skip)))) | ((refine w_callV (.inl ⟨rfl, rfl⟩) (kT) ?_ (by first | (dsimp only [AV.sh, AV.shl, sh_ints, sh_rows, sh_pairs, sh_ords]; done) | exact rfl) rfl ?_; rotate_left 0; (focus ((repeat' (first | exact trivial | exact Vs.val _ | exact Vs.ro _ | exact Vs.nilro _ | refine ⟨?_, ?_⟩)); done)); rotate_left 1; all_goals (try (skip)))))); (try all_goals (try show retA _ _ _ _ _ _ _))
    all_goals first
      | (exfalso; omega)
      | (refine ⟨[_, _, _], [], ⟨resV_cell rfl rfl KAg.h, resV_tmp (by conv => lhs; whnf), resV_tmp (by conv => lhs; whnf), trivial⟩, VwOs.mk (by decide) trivial, ?_, rfl⟩; (repeat' (first | exact trivial | exact vwR rfl | exact vwRL rfl | exact Vw.ro _ | refine Vw.agg' ?_ | refine Vw.tup' ?_ | refine ⟨?_, ?_⟩ )); done)
      | (all_goals trace_state); fail
  | some C =>
    unfold resT at kT
    unfold ordO
    dsimp only [Option.isSome] at kT ⊢
    refine AC.mk (n := 24) (fn := Tryd.f14) Tryd.func14 (by kernel_rfl) rfl rfl rfl rfl (fun cx => ?_); dsimp only [argv, Nat.reduceAdd]
    (repeat' (first | refine a_seq ?_ | refine a_skip ?_ | refine a_region ?_ | refine l_nil ?_ | (apply w_q; (focus (first | exact Q_move (by conv => lhs; whnf) | exact Q_assign (by conv => lhs; whnf) | exact Q_load_all rfl rfl KAg.h | exact Q_neq rfl rfl)); (focus exact rfl)) | (refine a_cond rfl ?_ ?_ <;> (intro h; (try (have hp := of_decide_eq_true h)); (try (have hp := of_decide_eq_false h)); (try contradiction); (try (exfalso; omega)))) | refine w_box rfl rfl (by first|(dsimp only[obA,obB,obD,obE,obF,obG,obI,List.map,AO.sh,AV.sh,AV.shl,Nat.reduceAdd];done)|exact rfl) (by first|(dsimp only[obA,obB,obD,obE,obF,obG,obI,List.map,AO.sh,AV.sh,AV.shl,Nat.reduceAdd];done)|exact rfl) rfl ?_ | refine w_alloc KMk.h (by first|(dsimp only[obA,obB,obD,obE,obF,obG,obI,List.map,AO.sh,AV.sh,AV.shl,Nat.reduceAdd];done)|exact rfl) rfl (by first|(dsimp only[obA,obB,obD,obE,obF,obG,obI,List.map,AO.sh,AV.sh,AV.shl,Nat.reduceAdd];done)|exact rfl) (by first|(dsimp only[obA,obB,obD,obE,obF,obG,obI,List.map,AO.sh,AV.sh,AV.shl,Nat.reduceAdd];done)|exact rfl) rfl ?_ | (((first | apply w_q); (focus (refine Q_call (.inl ⟨rfl, rfl⟩) (kC) ?_; ((repeat' (first | exact trivial | exact vwR rfl | exact Vw.ro _ | refine Vw.agg' ?_ | refine ⟨?_, ?_⟩ )); done))); (focus exact rfl))))); (try all_goals (try show retA _ _ _ _ _ _ _))
    all_goals first
      | (exfalso; omega)
      | skip
    refine w_freezeBC 0 [.val (.int .i64 n), .sl 1 (intc (nl ns))] rfl rfl (by simp only [fbv_nil, fbv_cons, fbl_nil, fbl_cons, fbo_nil, fbo_cons, fbo_box, fbo_row, fbo_gone, fb_own, fb_val, fb_ro, fb_rpt, fb_ptr, fb_ept, fb_agg, fb_tup, fb_clo, fb_ints, fb_rows, fb_pairs, fb_ords, Nat.reduceEqDiff, ↓reduceIte, List.set_cons_zero, List.set_cons_succ]; exact rfl) (by simp only [fbv_nil, fbv_cons, fbl_nil, fbl_cons, fbo_nil, fbo_cons, fbo_box, fbo_row, fbo_gone, fb_own, fb_val, fb_ro, fb_rpt, fb_ptr, fb_ept, fb_agg, fb_tup, fb_clo, fb_ints, fb_rows, fb_pairs, fb_ords, Nat.reduceEqDiff, ↓reduceIte, List.set_cons_zero, List.set_cons_succ]; exact rfl) ?_
    (repeat' (first | (refine a_holdRN (id := 4) (by kernel_rfl) rfl ?_; apply rw_first 0 rfl (by kernel_rfl); (focus (first | exact R_fieldAddr_rpt rfl KFl.h)); (focus exact rfl); apply rw_first 1 rfl (by kernel_rfl); (focus (first | exact R_ld_rv rfl rfl KSc.h)); (focus exact rfl); apply rw_first 2 rfl (by kernel_rfl); (focus (first | exact R_ld_rpa rfl KAg.h rfl (by first | (dsimp only [List.map, ofD]; done) | exact rfl))); (focus exact rfl); refine rw_frame (fun _ _ => ?_)) | refine xh_step (listed := [true, true, true, false, false, false, false, false, false, false, false]) (i := 3) (is := [8]) (by kernel_rfl) ⟨⟨_, rfl, ?_⟩, ⟨_, rfl, ?_⟩, trivial⟩ | refine xh_step (listed := [true, true, true, false, false, false, false, false, true, false, false]) (i := 3) (is := []) (by kernel_rfl) ⟨⟨_, rfl, ?_⟩, trivial⟩ | refine xh_step (listed := [true, true, true, true, false, false, false, false, true, false, false]) (i := 4) (is := []) (by kernel_rfl) ⟨⟨_, rfl, ?_⟩, trivial⟩ | (apply xw_first (listed := [true, true, true, true, true, false, false, false, true, false, false]) 5 rfl (by kernel_rfl); (focus (first | exact P_move (by conv => lhs; whnf))); (focus exact rfl)) | (apply xw_first (listed := [true, true, true, true, true, true, false, false, true, false, false]) 6 rfl (by kernel_rfl); (focus (first | exact P_extract rfl (by conv => lhs; whnf))); (focus exact rfl)) | (apply xw_first (listed := [true, true, true, true, true, true, true, false, true, false, false]) 7 rfl (by kernel_rfl); (focus (first | exact P_extract rfl (by conv => lhs; whnf))); (focus exact rfl)) | refine xh_step (listed := [true, true, true, true, true, true, true, true, true, false, false]) (i := 9) (is := []) (by kernel_rfl) ⟨⟨_, rfl, ?_⟩, trivial⟩ | (apply xw_first (listed := [true, true, true, true, true, true, true, true, true, true, false]) 10 rfl (by kernel_rfl); (focus (first | exact P_assign (by conv => lhs; whnf))); (focus exact rfl)) | refine xh_done (listed := [true, true, true, true, true, true, true, true, true, true, true]) (by kernel_rfl) ?_ | refine xh_step (listed := [true, true, true, true, false, false, false, false, false, false, false]) (i := 4) (is := [8]) (by kernel_rfl) ⟨⟨_, rfl, ?_⟩, ⟨_, rfl, ?_⟩, trivial⟩ | (apply xw_first (listed := [true, true, true, true, true, false, false, false, false, false, false]) 5 rfl (by kernel_rfl); (focus (first | exact P_move (by conv => lhs; whnf))); (focus exact rfl)) | (apply xw_first (listed := [true, true, true, true, true, true, false, false, false, false, false]) 6 rfl (by kernel_rfl); (focus (first | exact P_extract rfl (by conv => lhs; whnf))); (focus exact rfl)) | (apply xw_first (listed := [true, true, true, true, true, true, true, false, false, false, false]) 7 rfl (by kernel_rfl); (focus (first | exact P_extract rfl (by conv => lhs; whnf))); (focus exact rfl)) | refine xh_step (listed := [true, true, true, true, true, true, true, true, false, false, false]) (i := 8) (is := []) (by kernel_rfl) ⟨⟨_, rfl, ?_⟩, trivial⟩ | refine a_seq ?_ | refine a_ret ?_ | refine a_region ?_ | refine l_nil ?_ | ((first | apply w_q); (focus (first | exact Q_move (by conv => lhs; whnf) | exact Q_assign (by conv => lhs; whnf) | exact Q_load_all rfl rfl KAg.h)); (focus exact rfl)) | refine w_alloc KMk.h (by first|(dsimp only[obA,obB,obD,obE,obF,obG,obI,List.map,AO.sh,AV.sh,AV.shl,Nat.reduceAdd];done)|exact rfl) rfl (by first|(dsimp only[obA,obB,obD,obE,obF,obG,obI,List.map,AO.sh,AV.sh,AV.shl,Nat.reduceAdd];done)|exact rfl) (by first|(dsimp only[obA,obB,obD,obE,obF,obG,obI,List.map,AO.sh,AV.sh,AV.shl,Nat.reduceAdd];done)|exact rfl) rfl ?_ | refine w_store_all rfl rfl rfl rfl rfl KSz.h (by first|(dsimp only[obA,obB,obD,obE,obF,obG,obI,List.map,AO.sh,AV.sh,AV.shl,Nat.reduceAdd];done)|exact rfl) ?_ | ((refine w_callV (.inl ⟨rfl, rfl⟩) (kA) ?_ (by first | (dsimp only [AV.sh, AV.shl, sh_ints, sh_rows, sh_pairs, sh_ords]; done) | exact rfl) rfl ?_; rotate_left 0; (focus ((repeat' (first | exact trivial | exact Vs.val _ | exact Vs.ro _ | refine Vs.agg' ?_ | refine ⟨?_, ?_⟩)); done)); rotate_left 1; all_goals (try (skip)))) | ((refine w_callV (.inl ⟨rfl, rfl⟩) (kT) ?_ (by first | (dsimp only [AV.sh, AV.shl, sh_ints, sh_rows, sh_pairs, sh_ords]; done) | exact rfl) rfl ?_; rotate_left 0; (focus ((repeat' (first | exact trivial | exact Vs.val _ | exact Vs.ro _ | exact Vs.nilro _ | refine ⟨?_, ?_⟩)); done)); rotate_left 1; all_goals (try (skip)))))); (try all_goals (try show retA _ _ _ _ _ _ _))
    all_goals first
      | (exfalso; omega)
      | (refine ⟨[_, _, _], [], ⟨resV_cell rfl rfl KAg.h, resV_tmp (by conv => lhs; whnf), resV_tmp (by conv => lhs; whnf), trivial⟩, VwOs.mk (by decide) trivial, ?_, rfl⟩; (repeat' (first | exact trivial | exact vwR rfl | exact vwRL rfl | exact Vw.ro _ | refine Vw.agg' ?_ | refine Vw.tup' ?_ | refine ⟨?_, ?_⟩ )); done)
      | (all_goals trace_state); fail
/-- Turned answers an order of just the pairs that are apart, or that there is none. -/
theorem Turned_ok (n : Nat) (ns : List Nat) (hn : n ≤ 7) (hv : Vld n ns) (hok : okB n ns = true) :
    (∃ C, TurnO n (apL n ns) C ∧ AC Tryd.prog 14 [ordv n (nl ns)] [] (.tup [ordv n (nl C), .val (.bool true), .val (.int .i64 0)]) []) ∨
    ((¬ ∃ C, TurnO n (apL n ns) C) ∧ AC Tryd.prog 14 [ordv n (nl ns)] [] (.tup [ordv 0 [], .val (.bool false), .val (.int .i64 0)]) []) := by
  have k := Turned_at n ns hn hv hok _ rfl
  have hI : Inn n ([] : List (Nat × Nat)) := fun p hp => by cases hp
  cases hr : turnN n (apL n ns) (msN n (apL n ns) [] + 1) [] with
  | some C =>
    rw [hr] at k
    exact .inl ⟨C, turnN_some (by omega) (ap_asked n ns) _ _ C hI hr, k⟩
  | none =>
    rw [hr] at k
    exact .inr ⟨fun ⟨C, hC⟩ => turnN_none (by omega) (ap_asked n ns) hC _ _ hI (fun p hp => by cases hp) (Nat.lt_succ_self _) hr, k⟩
theorem turnO_apf {n : Nat} {ns C : List Nat} (h : TurnO n (apL n ns) C) {a b : Nat} (ha : a < n) (hb : b < n) (hab : a ≠ b) : apf C a b = !apf ns a b := by
  have h1 := h.iff a b ha hb
  rw [apL_mem, ← apf_iff ha hb] at h1
  have h2 : apf C a b = !cmpE C (a, b) := by
    unfold apf cmpE
    rw [decide_eq_true hab]
    cases lt C a b <;> cases lt C b a <;> rfl
  rw [h2, Bool.eq_iff_iff.2 h1]
set_option maxRecDepth 20000 in
set_option maxHeartbeats 2000000 in
theorem IsTurned_yes (n : Nat) (ns C : List Nat) (hn : n ≤ 10) (hv : Vld n ns) (hT : TurnO n (apL n ns) C) :
    AC Tryd.prog 19 [ordv n (nl ns), ordv n (nl C)] [] (.val (.bool true)) [] := by
  have kC := CheckOrder_ac n (nl C)
  rw [chk_ok hn hT.vld hT.ok] at kC
  have hk := fun a b (ha : a < n) (hb : b < n) (hab : a ≠ b) => turnO_apf hT ha hb hab
  have k1 := fun a b (ha : a < n) (hb : b < n) => Apart_ac n ns a b hn hv ha hb
  have k2 := fun a b (ha : a < n) (hb : b < n) => Apart_ac n C a b hn hT.vld ha hb
  simp only [apf_cmp] at k1 k2
  clear hT hv
  refine AC.mk (n := 37) (fn := Tryd.f19) Tryd.func19 (by kernel_rfl) rfl rfl rfl rfl (fun cx => ?_); dsimp only [argv, Nat.reduceAdd]
  (repeat' (first | refine a_seq ?_ | refine a_region ?_ | refine l_nil ?_ | (apply w_q; (focus (first | exact Q_assign (by conv => lhs; whnf))); (focus exact rfl)) | refine w_box rfl rfl (by first|(dsimp only[obA,obB,obD,obE,obF,obG,obI,List.map,AO.sh,AV.sh,AV.shl,Nat.reduceAdd];done)|exact rfl) (by first|(dsimp only[obA,obB,obD,obE,obF,obG,obI,List.map,AO.sh,AV.sh,AV.shl,Nat.reduceAdd];done)|exact rfl) rfl ?_)); (try all_goals (try show retA _ _ _ _ _ _ _))
  refine w_freezeB 0 [.val (.int .i64 n), .sl 1 (intc (nl ns))] rfl rfl (by simp only [fbv_nil, fbv_cons, fbl_nil, fbl_cons, fbo_nil, fbo_cons, fbo_box, fbo_row, fbo_gone, fb_own, fb_val, fb_ro, fb_rpt, fb_ptr, fb_ept, fb_agg, fb_tup, fb_clo, fb_ints, fb_rows, fb_pairs, fb_ords, Nat.reduceEqDiff, ↓reduceIte, List.set_cons_zero, List.set_cons_succ]; exact rfl) (by simp only [fbv_nil, fbv_cons, fbl_nil, fbl_cons, fbo_nil, fbo_cons, fbo_box, fbo_row, fbo_gone, fb_own, fb_val, fb_ro, fb_rpt, fb_ptr, fb_ept, fb_agg, fb_tup, fb_clo, fb_ints, fb_rows, fb_pairs, fb_ords, Nat.reduceEqDiff, ↓reduceIte, List.set_cons_zero, List.set_cons_succ]; exact rfl) ?_
  refine w_freezeB 1 [.val (.int .i64 n), .sl 1 (intc (nl C))] rfl rfl (by simp only [fbv_nil, fbv_cons, fbl_nil, fbl_cons, fbo_nil, fbo_cons, fbo_box, fbo_row, fbo_gone, fb_own, fb_val, fb_ro, fb_rpt, fb_ptr, fb_ept, fb_agg, fb_tup, fb_clo, fb_ints, fb_rows, fb_pairs, fb_ords, Nat.reduceEqDiff, ↓reduceIte, List.set_cons_zero, List.set_cons_succ]; exact rfl) (by simp only [fbv_nil, fbv_cons, fbl_nil, fbl_cons, fbo_nil, fbo_cons, fbo_box, fbo_row, fbo_gone, fb_own, fb_val, fb_ro, fb_rpt, fb_ptr, fb_ept, fb_agg, fb_tup, fb_clo, fb_ints, fb_rows, fb_pairs, fb_ords, Nat.reduceEqDiff, ↓reduceIte, List.set_cons_zero, List.set_cons_succ]; exact rfl) ?_
  (repeat' (first | refine a_seq ?_ | refine a_block ?_ | refine a_skip ?_ | refine a_region ?_ | refine l_nil ?_ | (apply w_q; (focus (first | exact Q_move (by conv => lhs; whnf) | exact Q_assign (by conv => lhs; whnf) | exact Q_fieldAddr_rpt rfl KFl.h | exact Q_neq rfl rfl | exact Q_ld_rpa rfl KAg.h rfl rfl (by first | (dsimp only [List.drop_zero, List.drop_succ_cons, List.take_succ_cons, List.take_zero, List.map, ofD]; done) | exact rfl) | exact Q_ld_rv rfl rfl KSc.h | exact Q_pick_f rfl rfl (by conv => lhs; whnf))); (focus exact rfl)) | (refine a_cond rfl ?_ ?_ <;> (intro h; (try (have hp := of_decide_eq_true h)); (try (have hp := of_decide_eq_false h)); (try contradiction); (try (exfalso; omega)))) | refine w_guard_y rfl rfl rfl (by first | assumption | rfl) ?_ | (((first | apply w_q); (focus (refine Q_call (.inl ⟨rfl, rfl⟩) (kC) ?_; ((repeat' (first | exact trivial | exact vwR rfl | exact Vw.ro _ | refine Vw.agg' ?_ | refine ⟨?_, ?_⟩ )); done))); (focus exact rfl))))); (try all_goals (try show retA _ _ _ _ _ _ _))
  all_goals first
    | (exfalso; omega)
    | skip
  refine w_loop (X := Nat) [2, 3] (by simp only [keepv, getv_cons, Nat.reduceEqDiff, ↓reduceIte]; exact rfl) (fun a => [(5, .val (.int .i64 (a : Nat)))]) (fun _ => [.gone, .gone]) (fun a => a ≤ n) (fun a => n - a) (0) ([0, 1]) ?_ ?_ rfl ?_ <;> (try dsimp only [List.cons_append, List.nil_append])
  · exact Nat.zero_le _
  · (refine St.le_mk rfl (VwOs.mk (by decide) ?_) ?_ <;> (repeat' (first | exact trivial | exact vwR rfl | exact VwO.gone _ | refine ⟨⟨_, rfl, ?_⟩, ?_⟩ | refine ⟨?_, ?_⟩ )))
  rintro a ha
  by_cases hal : a < n
  · (repeat' (first | refine a_seq ?_ | refine a_block ?_ | refine a_skip ?_ | refine a_region ?_ | refine l_nil ?_ | (apply w_q; (focus (first | exact Q_move (by conv => lhs; whnf) | exact Q_assign (by conv => lhs; whnf) | exact Q_fieldAddr_rpt rfl KFl.h | exact Q_lss rfl rfl | exact Q_ld_rv rfl rfl KSc.h)); (focus exact rfl)) | (refine a_cond rfl ?_ ?_ <;> (intro h; (try (have hp := of_decide_eq_true h)); (try (have hp := of_decide_eq_false h)); (try contradiction); (try (exfalso; omega)))))); (try all_goals (try show retA _ _ _ _ _ _ _))
    all_goals first
      | (exfalso; omega)
      | skip
    refine w_loop (X := Nat) [2, 3, 5] (by simp only [keepv, getv_cons, Nat.reduceEqDiff, ↓reduceIte]; exact rfl) (fun b => [(6, .val (.int .i64 (b : Nat)))]) (fun _ => [.gone, .gone]) (fun b => b ≤ a) (fun b => a - b) (0) ([0, 1]) ?_ ?_ rfl ?_ <;> (try dsimp only [List.cons_append, List.nil_append])
    · exact Nat.zero_le _
    · (refine St.le_mk rfl (VwOs.mk (by decide) ?_) ?_ <;> (repeat' (first | exact trivial | exact vwR rfl | exact VwO.gone _ | refine ⟨⟨_, rfl, ?_⟩, ?_⟩ | refine ⟨?_, ?_⟩ )))
    rintro b hb
    by_cases hbl : b < a
    · have k1 := k1 a b hal (by omega)
      have k2 := k2 a b hal (by omega)
      rw [hk a b hal (by omega) (by omega)] at k2
      generalize apf ns a b = p at *
      cases p
      all_goals
        (repeat' (first | refine a_seq ?_ | refine a_block ?_ | refine a_skip ?_ | refine a_region ?_ | refine l_nil ?_ | refine q_nil ?_ | ((first | apply w_q | apply w_qq); (focus (first | exact Q_move (by conv => lhs; whnf) | exact Q_assign (by conv => lhs; whnf) | exact Q_lss rfl rfl | exact Q_eqlB rfl rfl KBo.h | exact Q_add rfl rfl (by omega) | exact Q_ld_rpa rfl KAg.h rfl rfl (by first | (dsimp only [List.drop_zero, List.drop_succ_cons, List.take_succ_cons, List.take_zero, List.map, ofD]; done) | exact rfl))); (focus exact rfl)) | (refine a_cond rfl ?_ ?_ <;> (intro h; (try (have hp := of_decide_eq_true h)); (try (have hp := of_decide_eq_false h)); (try contradiction); (try (exfalso; omega)))) | refine a_draw (by kernel_rfl) (by kernel_rfl) ?_ | (((first | apply w_qq); (focus (refine Q_call (.inl ⟨rfl, rfl⟩) (k1) ?_; ((repeat' (first | exact trivial | exact vwR rfl | exact vwRL rfl | exact Vw.ro _ | refine Vw.agg' ?_ | refine ⟨?_, ?_⟩ )); done))); (focus exact rfl))) | (((first | apply w_qq); (focus (refine Q_call (.inl ⟨rfl, rfl⟩) (k2) ?_; ((repeat' (first | exact trivial | exact vwR rfl | exact vwRL rfl | exact Vw.ro _ | refine Vw.agg' ?_ | refine ⟨?_, ?_⟩ )); done))); (focus exact rfl))))); (try all_goals (try show retA _ _ _ _ _ _ _))
        all_goals first
          | (exfalso; omega)
          | (exfalso; simp at *; done)
          | (refine ⟨b + 1, [0, 1], ?_, ?_, ?_, rfl⟩ <;> (try dsimp only)
             · omega
             · omega
             · (refine St.le_mk rfl (VwOs.mk (by decide) ?_) ?_ <;> (repeat' (first | exact trivial | exact vwR rfl | exact VwO.gone _ | refine ⟨⟨_, rfl, ?_⟩, ?_⟩ | refine ⟨?_, ?_⟩ ))))
          | (all_goals trace_state); fail
    · (repeat' (first | refine a_seq ?_ | refine a_exit ?_ | refine a_region ?_ | refine l_nil ?_ | (apply w_q; (focus (first | exact Q_move (by conv => lhs; whnf) | exact Q_assign (by conv => lhs; whnf) | exact Q_lss rfl rfl | exact Q_add rfl rfl (by omega))); (focus exact rfl)) | (refine a_cond rfl ?_ ?_ <;> (intro h; (try (have hp := of_decide_eq_true h)); (try (have hp := of_decide_eq_false h)); (try contradiction); (try (exfalso; omega)))))); (try all_goals (try show retA _ _ _ _ _ _ _))
      all_goals first
        | (exfalso; omega)
        | (refine ⟨a + 1, [0, 1], ?_, ?_, ?_, rfl⟩ <;> (try dsimp only)
           · omega
           · omega
           · (refine St.le_mk rfl (VwOs.mk (by decide) ?_) ?_ <;> (repeat' (first | exact trivial | exact vwR rfl | exact VwO.gone _ | refine ⟨⟨_, rfl, ?_⟩, ?_⟩ | refine ⟨?_, ?_⟩ ))))
        | (all_goals trace_state); fail
  · (repeat' (first | refine a_seq ?_ | refine a_ret ?_ | refine a_exit ?_ | refine a_region ?_ | refine l_nil ?_ | (apply w_q; (focus (first | exact Q_move (by conv => lhs; whnf) | exact Q_assign (by conv => lhs; whnf) | exact Q_fieldAddr_rpt rfl KFl.h | exact Q_lss rfl rfl | exact Q_ld_rv rfl rfl KSc.h)); (focus exact rfl)) | (refine a_cond rfl ?_ ?_ <;> (intro h; (try (have hp := of_decide_eq_true h)); (try (have hp := of_decide_eq_false h)); (try contradiction); (try (exfalso; omega)))))); (try all_goals (try show retA _ _ _ _ _ _ _))
    all_goals first
      | (exfalso; omega)
      | (refine ⟨[_], [], ⟨resV_tmp (by conv => lhs; whnf), trivial⟩, VwOs.mk (by decide) trivial, ?_, rfl⟩; (repeat' (first | exact vwR rfl)); done)
      | (all_goals trace_state); fail
theorem checkSmall_ac (N : Int) (l : List Int) : AC Tryd.prog 15 [ordv N l] [] (.val (.int .i64 (chkR N l))) [] := by
  have kC := CheckOrder_ac N l
  unfold chkR
  by_cases hz : chk N l = 0
  · rw [hz] at kC ⊢
    by_cases h7 : 7 < N
    · rw [if_pos ⟨rfl, h7⟩]
      refine AC.mk (n := 14) (fn := Tryd.f15) Tryd.func15 (by kernel_rfl) rfl rfl rfl rfl (fun cx => ?_); dsimp only [argv, Nat.reduceAdd]
      (repeat' (first | refine a_seq ?_ | refine a_ret ?_ | refine a_region ?_ | refine l_nil ?_ | (apply w_q; (focus (first | exact Q_move (by conv => lhs; whnf) | exact Q_assign (by conv => lhs; whnf) | exact Q_fieldAddr_ptr rfl KFl.h | exact Q_load_ptr rfl rfl rfl KSc.h | exact Q_load_all rfl rfl KAg.h | exact Q_gtr rfl rfl | exact Q_eql rfl rfl | exact Q_pick_t rfl rfl (by conv => lhs; whnf))); (focus exact rfl)) | (refine a_cond rfl ?_ ?_ <;> (intro h; (try (have hp := of_decide_eq_true h)); (try (have hp := of_decide_eq_false h)); (try contradiction); (try (exfalso; omega)))) | refine w_guard_y rfl rfl rfl (by first | assumption | rfl) ?_ | refine w_box rfl rfl (by first|(dsimp only[obA,obB,obD,obE,obF,obG,obI,List.map,AO.sh,AV.sh,AV.shl,Nat.reduceAdd];done)|exact rfl) (by first|(dsimp only[obA,obB,obD,obE,obF,obG,obI,List.map,AO.sh,AV.sh,AV.shl,Nat.reduceAdd];done)|exact rfl) rfl ?_ | (((first | apply w_q); (focus (refine Q_call (.inl ⟨rfl, rfl⟩) (kC) ?_; ((repeat' (first | exact trivial | exact vwR rfl | exact Vw.ro _ | refine Vw.agg' ?_ | refine ⟨?_, ?_⟩ )); done))); (focus exact rfl))))); (try all_goals (try show retA _ _ _ _ _ _ _))
      all_goals first
        | (exfalso; omega)
        | (refine ⟨[_], [], ⟨resV_tmp (by conv => lhs; whnf), trivial⟩, VwOs.mk (by decide) trivial, ?_, rfl⟩; (repeat' (first | exact vwR rfl)); done)
        | (all_goals trace_state); fail
    · rw [if_neg fun h => h7 h.2]
      refine AC.mk (n := 14) (fn := Tryd.f15) Tryd.func15 (by kernel_rfl) rfl rfl rfl rfl (fun cx => ?_); dsimp only [argv, Nat.reduceAdd]
      (repeat' (first | refine a_seq ?_ | refine a_skip ?_ | refine a_ret ?_ | refine a_region ?_ | refine l_nil ?_ | (apply w_q; (focus (first | exact Q_move (by conv => lhs; whnf) | exact Q_assign (by conv => lhs; whnf) | exact Q_fieldAddr_ptr rfl KFl.h | exact Q_load_ptr rfl rfl rfl KSc.h | exact Q_load_all rfl rfl KAg.h | exact Q_gtr rfl rfl | exact Q_eql rfl rfl | exact Q_pick_t rfl rfl (by conv => lhs; whnf))); (focus exact rfl)) | (refine a_cond rfl ?_ ?_ <;> (intro h; (try (have hp := of_decide_eq_true h)); (try (have hp := of_decide_eq_false h)); (try contradiction); (try (exfalso; omega)))) | refine w_guard_y rfl rfl rfl (by first | assumption | rfl) ?_ | refine w_box rfl rfl (by first|(dsimp only[obA,obB,obD,obE,obF,obG,obI,List.map,AO.sh,AV.sh,AV.shl,Nat.reduceAdd];done)|exact rfl) (by first|(dsimp only[obA,obB,obD,obE,obF,obG,obI,List.map,AO.sh,AV.sh,AV.shl,Nat.reduceAdd];done)|exact rfl) rfl ?_ | (((first | apply w_q); (focus (refine Q_call (.inl ⟨rfl, rfl⟩) (kC) ?_; ((repeat' (first | exact trivial | exact vwR rfl | exact Vw.ro _ | refine Vw.agg' ?_ | refine ⟨?_, ?_⟩ )); done))); (focus exact rfl))))); (try all_goals (try show retA _ _ _ _ _ _ _))
      all_goals first
        | (exfalso; omega)
        | (refine ⟨[_], [], ⟨resV_tmp (by conv => lhs; whnf), trivial⟩, VwOs.mk (by decide) trivial, ?_, rfl⟩; (repeat' (first | exact vwR rfl)); done)
        | (all_goals trace_state); fail
  · rw [if_neg fun h => hz h.1]
    generalize chk N l = e at *
    refine AC.mk (n := 14) (fn := Tryd.f15) Tryd.func15 (by kernel_rfl) rfl rfl rfl rfl (fun cx => ?_); dsimp only [argv, Nat.reduceAdd]
    (repeat' (first | refine a_seq ?_ | refine a_skip ?_ | refine a_ret ?_ | refine a_region ?_ | refine l_nil ?_ | (apply w_q; (focus (first | exact Q_move (by conv => lhs; whnf) | exact Q_assign (by conv => lhs; whnf) | exact Q_load_all rfl rfl KAg.h | exact Q_eql rfl rfl | exact Q_pick_f rfl (by assumption) (by conv => lhs; whnf))); (focus exact rfl)) | (refine a_cond rfl ?_ ?_ <;> (intro h; (try (have hp := of_decide_eq_true h)); (try (have hp := of_decide_eq_false h)); (try contradiction); (try (exfalso; omega)))) | refine w_guard_n rfl rfl rfl (by first | assumption | rfl) ?_ | (refine w_guard rfl rfl rfl ?_ ?_ <;> (intro h; (try (have hp := of_decide_eq_true h)); (try (have hp := of_decide_eq_false h)); (try contradiction); (try (exfalso; omega)))) | refine w_box rfl rfl (by first|(dsimp only[obA,obB,obD,obE,obF,obG,obI,List.map,AO.sh,AV.sh,AV.shl,Nat.reduceAdd];done)|exact rfl) (by first|(dsimp only[obA,obB,obD,obE,obF,obG,obI,List.map,AO.sh,AV.sh,AV.shl,Nat.reduceAdd];done)|exact rfl) rfl ?_ | (((first | apply w_q); (focus (refine Q_call (.inl ⟨rfl, rfl⟩) (kC) ?_; ((repeat' (first | exact trivial | exact vwR rfl | exact Vw.ro _ | refine Vw.agg' ?_ | refine ⟨?_, ?_⟩ )); done))); (focus exact rfl))))); (try all_goals (try show retA _ _ _ _ _ _ _))
    all_goals first
      | (exfalso; omega)
      | (refine ⟨[_], [], ⟨resV_tmp (by conv => lhs; whnf), trivial⟩, VwOs.mk (by decide) trivial, ?_, rfl⟩; (repeat' (first | exact vwR rfl)); done)
      | (all_goals trace_state); fail
end Go.Proofs.YtgojkabjgagjcaaDoor
