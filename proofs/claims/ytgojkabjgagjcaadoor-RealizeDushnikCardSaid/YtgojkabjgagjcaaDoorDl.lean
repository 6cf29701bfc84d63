import Derived.Test.YtgojkabjgagjcaaDoorEt
import Derived.Test.YtgojkabjgagjcaaDoorEv
import Derived.Test.YtgojkabjgagjcaaDoorEx
import Derived.Test.YtgojkabjgagjcaaDoorEngR
import Derived.Test.YtgojkabjgagjcaaDoorGp
set_option linter.unusedSimpArgs false
set_option linter.unusedVariables false
set_option linter.unusedSectionVars false
set_option maxRecDepth 20000
namespace Go.Proofs.YtgojkabjgagjcaaDoor
open Go.ChangeShapes Go.WideShapes Go.ChangeAt Go.RowKit
attribute [local irreducible] QOp aL aC qL
attribute [local irreducible] FOp POp hL xH
set_option maxRecDepth 20000 in
set_option maxHeartbeats 4000000 in
open Classical in
theorem RealizeDushnik_ac (N : Int) (l : List Int) (rs : List (List Int)) (hc : rs.length ≤ big) (hr : ∀ r ∈ rs, r.length ≤ big) : AC Tryd.prog 4 [ordv N l, rows rs] [] (.val (.bool true)) [] := by
  unfold big at hc hr
  have kb := rzbegun_ac
  by_cases h : chkR N l = 0
  · obtain ⟨n, ns, rfl, rfl, hn, hv, hok⟩ := chkR_zero h
    obtain ⟨k, L, hD⟩ := dimIs_ex hv hok
    have hi := fun m => hD.iff hv (m := m)
    have hk : k ≤ 2 := (hi 2).1 (hira_3 hn hv hok)
    have kD := hD.ac hn hv hok
    have kS := dim_said hn hv hok hD hk
    have hLl : (tn L).length = k + 1 := by rw [tn_len, (covN_some hv k _ L (fun p hp => apL_mem.1 hp) hD.some).1]
    have kR := said_ac n ns rs (by omega) hv (Nat.le_trans hc (by decide)) (fun r hrr => Nat.le_trans (hr r hrr) (by decide)) (decide (0 < rs.length ∧ rs.length ≤ 10 ∧ rs.all (pmB n) = true ∧ ofn n (ordR (natR rs)) = ns)) (by rw [decide_eq_true_eq])
    have hle : decide (0 < rs.length ∧ rs.length ≤ 10 ∧ rs.all (pmB n) = true ∧ ofn n (ordR (natR rs)) = ns) = true → k + 1 ≤ rs.length := fun q => by
      rw [decide_eq_true_eq] at q
      obtain ⟨q1, q2, q3, q4⟩ := q
      have hper : ∀ r ∈ natR rs, r.Perm (List.range n) := fun r hrr => by
        obtain ⟨x, hx, rfl⟩ := List.mem_map.1 hrr
        exact (natR_row (List.all_eq_true.1 q3 x hx)).2
      have hC : Cvb n ns (rs.length - 1 + 1) := ⟨natR rs, by unfold natR; rw [List.length_map]; omega, said_cov hv hper q4⟩
      have := (hi (rs.length - 1)).1 hC
      omega
    have hG := dushnik hv hok
    rw [hi 1] at hG
    generalize decide (0 < rs.length ∧ rs.length ≤ 10 ∧ rs.all (pmB n) = true ∧ ofn n (ordR (natR rs)) = ns) = s at *
    generalize tn L = T at *
    rcases Turned_ok n ns hn hv hok with ⟨C, hC, kT⟩ | ⟨hno, kT⟩
    · have hk1 := hG.1 ⟨C, hC⟩
      have kI := IsTurned_yes n ns C (by omega) hv hC
      clear hC hG hv hok hD hi h hr
      cases s
      · clear hle
        refine AC.mk (n := 70) (fn := Tryd.f4) Tryd.func4 (by kernel_rfl) rfl rfl rfl rfl (fun cx => ?_); dsimp only [argv, Nat.reduceAdd]
        (repeat' (first | refine a_seq ?_ | refine a_skip ?_ | refine a_ret ?_ | refine a_region ?_ | refine l_nil ?_ | (apply w_q; (focus (first | exact Q_move (by conv => lhs; whnf) | exact Q_assign (by conv => lhs; whnf) | exact Q_load_all rfl rfl KAg.h | exact Q_leq rfl rfl | exact Q_eql rfl rfl | exact Q_eqlB rfl rfl KBo.h | exact Q_neq rfl rfl | exact Q_len_rows rfl KSl.h | exact Q_extract rfl (by conv => lhs; whnf) | exact Q_not rfl | exact Q_pick_t rfl (by assumption) (by conv => lhs; whnf) | exact Q_pick_f rfl (by assumption) (by conv => lhs; whnf) | exact Q_pick_t rfl rfl (by conv => lhs; whnf))); (focus exact rfl)) | (refine a_cond rfl ?_ ?_ <;> (intro h; (try (have hp := of_decide_eq_true h)); (try (have hp := of_decide_eq_false h)); (try contradiction); (try (exfalso; omega)))) | refine w_guard_u rfl rfl rfl ?_ | refine w_guard_y rfl rfl rfl (by first | assumption | rfl) ?_ | refine w_guard_n rfl rfl rfl (by first | assumption | rfl) ?_ | (refine w_guard rfl rfl rfl ?_ ?_ <;> (intro h; (try (have hp := of_decide_eq_true h)); (try (have hp := of_decide_eq_false h)); (try contradiction); (try (exfalso; omega)))) | refine w_box rfl rfl (by first|(dsimp only[obA,obB,obD,obE,obF,obG,obI,List.map,AO.sh,AV.sh,AV.shl,Nat.reduceAdd];done)|exact rfl) (by first|(dsimp only[obA,obB,obD,obE,obF,obG,obI,List.map,AO.sh,AV.sh,AV.shl,Nat.reduceAdd];done)|exact rfl) rfl ?_ | refine w_alloc KMk.h (by first|(dsimp only[obA,obB,obD,obE,obF,obG,obI,List.map,AO.sh,AV.sh,AV.shl,Nat.reduceAdd];done)|exact rfl) rfl (by first|(dsimp only[obA,obB,obD,obE,obF,obG,obI,List.map,AO.sh,AV.sh,AV.shl,Nat.reduceAdd];done)|exact rfl) (by first|(dsimp only[obA,obB,obD,obE,obF,obG,obI,List.map,AO.sh,AV.sh,AV.shl,Nat.reduceAdd];done)|exact rfl) rfl ?_ | refine w_store_all rfl rfl rfl rfl rfl KSz.h (by first|(dsimp only[obA,obB,obD,obE,obF,obG,obI,List.map,AO.sh,AV.sh,AV.shl,Nat.reduceAdd];done)|exact rfl) ?_ | (((first | apply w_q); (focus (refine Q_call (.inl ⟨rfl, rfl⟩) (kb) ?_; ((repeat' (first | exact trivial)); done))); (focus exact rfl))) | ((refine w_callV (.inl ⟨rfl, rfl⟩) (kD) ?_ (by first | (dsimp only [AV.sh, AV.shl, sh_ints, sh_rows, sh_pairs, sh_ords]; done) | exact rfl) rfl ?_; rotate_left 0; (focus ((repeat' (first | exact trivial | exact Vs.val _ | exact Vs.ro _ | refine Vs.agg' ?_ | refine ⟨?_, ?_⟩)); done)); rotate_left 1; all_goals (try (skip)))) | ((refine w_callV (.inl ⟨rfl, rfl⟩) (kT) ?_ (by first | (dsimp only [AV.sh, AV.shl, sh_ints, sh_rows, sh_pairs, sh_ords]; done) | exact rfl) rfl ?_; rotate_left 0; (focus ((repeat' (first | exact trivial | exact Vs.val _ | exact Vs.ro _ | refine Vs.agg' ?_ | refine ⟨?_, ?_⟩)); done)); rotate_left 1; all_goals (try (skip)))) | (((first | apply w_q); (focus (refine Q_call (.inl ⟨rfl, rfl⟩) (kS) ?_; ((repeat' (first | exact trivial | exact vwR rfl | exact Vw.ro _ | refine Vw.agg' ?_ | refine ⟨?_, ?_⟩ )); done))); (focus exact rfl))) | (((first | apply w_q); (focus (refine Q_call (.inl ⟨rfl, rfl⟩) (kI) ?_; ((repeat' (first | exact trivial | exact vwR rfl | exact Vw.ro _ | refine Vw.agg' ?_ | refine ⟨?_, ?_⟩ )); done))); (focus exact rfl))) | (((first | apply w_q); (focus (refine Q_call (.inl ⟨rfl, rfl⟩) (kR) ?_; ((repeat' (first | exact trivial | exact vwR rfl | exact Vw.ro _ | refine Vw.agg' ?_ | refine ⟨?_, ?_⟩ )); done))); (focus exact rfl))))); (try all_goals (try show retA _ _ _ _ _ _ _))
        all_goals first
          | (exfalso; omega)
          | (exfalso; simp at *; omega)
          | (refine ⟨[_], [], ⟨resV_tmp (by conv => lhs; whnf), trivial⟩, VwOs.mk (by decide) trivial, ?_, rfl⟩; (repeat' (first | exact vwR rfl)); done)
          | (all_goals trace_state); fail
      · have hle := hle rfl
        refine AC.mk (n := 70) (fn := Tryd.f4) Tryd.func4 (by kernel_rfl) rfl rfl rfl rfl (fun cx => ?_); dsimp only [argv, Nat.reduceAdd]
        (repeat' (first | refine a_seq ?_ | refine a_skip ?_ | refine a_ret ?_ | refine a_region ?_ | refine l_nil ?_ | (apply w_q; (focus (first | exact Q_move (by conv => lhs; whnf) | exact Q_assign (by conv => lhs; whnf) | exact Q_load_all rfl rfl KAg.h | exact Q_leq rfl rfl | exact Q_geq rfl rfl | exact Q_eql rfl rfl | exact Q_eqlB rfl rfl KBo.h | exact Q_neq rfl rfl | exact Q_len_rows rfl KSl.h | exact Q_extract rfl (by conv => lhs; whnf) | exact Q_not rfl | exact Q_pick_t rfl (by assumption) (by conv => lhs; whnf) | exact Q_pick_f rfl (by assumption) (by conv => lhs; whnf) | exact Q_pick_t rfl rfl (by conv => lhs; whnf))); (focus exact rfl)) | (refine a_cond rfl ?_ ?_ <;> (intro h; (try (have hp := of_decide_eq_true h)); (try (have hp := of_decide_eq_false h)); (try contradiction); (try (exfalso; omega)))) | refine w_guard_u rfl rfl rfl ?_ | refine w_guard_y rfl rfl rfl (by first | assumption | rfl) ?_ | refine w_guard_n rfl rfl rfl (by first | assumption | rfl) ?_ | (refine w_guard rfl rfl rfl ?_ ?_ <;> (intro h; (try (have hp := of_decide_eq_true h)); (try (have hp := of_decide_eq_false h)); (try contradiction); (try (exfalso; omega)))) | refine w_box rfl rfl (by first|(dsimp only[obA,obB,obD,obE,obF,obG,obI,List.map,AO.sh,AV.sh,AV.shl,Nat.reduceAdd];done)|exact rfl) (by first|(dsimp only[obA,obB,obD,obE,obF,obG,obI,List.map,AO.sh,AV.sh,AV.shl,Nat.reduceAdd];done)|exact rfl) rfl ?_ | refine w_alloc KMk.h (by first|(dsimp only[obA,obB,obD,obE,obF,obG,obI,List.map,AO.sh,AV.sh,AV.shl,Nat.reduceAdd];done)|exact rfl) rfl (by first|(dsimp only[obA,obB,obD,obE,obF,obG,obI,List.map,AO.sh,AV.sh,AV.shl,Nat.reduceAdd];done)|exact rfl) (by first|(dsimp only[obA,obB,obD,obE,obF,obG,obI,List.map,AO.sh,AV.sh,AV.shl,Nat.reduceAdd];done)|exact rfl) rfl ?_ | refine w_store_all rfl rfl rfl rfl rfl KSz.h (by first|(dsimp only[obA,obB,obD,obE,obF,obG,obI,List.map,AO.sh,AV.sh,AV.shl,Nat.reduceAdd];done)|exact rfl) ?_ | (((first | apply w_q); (focus (refine Q_call (.inl ⟨rfl, rfl⟩) (kb) ?_; ((repeat' (first | exact trivial)); done))); (focus exact rfl))) | ((refine w_callV (.inl ⟨rfl, rfl⟩) (kD) ?_ (by first | (dsimp only [AV.sh, AV.shl, sh_ints, sh_rows, sh_pairs, sh_ords]; done) | exact rfl) rfl ?_; rotate_left 0; (focus ((repeat' (first | exact trivial | exact Vs.val _ | exact Vs.ro _ | refine Vs.agg' ?_ | refine ⟨?_, ?_⟩)); done)); rotate_left 1; all_goals (try (skip)))) | ((refine w_callV (.inl ⟨rfl, rfl⟩) (kT) ?_ (by first | (dsimp only [AV.sh, AV.shl, sh_ints, sh_rows, sh_pairs, sh_ords]; done) | exact rfl) rfl ?_; rotate_left 0; (focus ((repeat' (first | exact trivial | exact Vs.val _ | exact Vs.ro _ | refine Vs.agg' ?_ | refine ⟨?_, ?_⟩)); done)); rotate_left 1; all_goals (try (skip)))) | (((first | apply w_q); (focus (refine Q_call (.inl ⟨rfl, rfl⟩) (kS) ?_; ((repeat' (first | exact trivial | exact vwR rfl | exact Vw.ro _ | refine Vw.agg' ?_ | refine ⟨?_, ?_⟩ )); done))); (focus exact rfl))) | (((first | apply w_q); (focus (refine Q_call (.inl ⟨rfl, rfl⟩) (kI) ?_; ((repeat' (first | exact trivial | exact vwR rfl | exact Vw.ro _ | refine Vw.agg' ?_ | refine ⟨?_, ?_⟩ )); done))); (focus exact rfl))) | (((first | apply w_q); (focus (refine Q_call (.inl ⟨rfl, rfl⟩) (kR) ?_; ((repeat' (first | exact trivial | exact vwR rfl | exact Vw.ro _ | refine Vw.agg' ?_ | refine ⟨?_, ?_⟩ )); done))); (focus exact rfl))))); (try all_goals (try show retA _ _ _ _ _ _ _))
        all_goals first
          | (exfalso; omega)
          | (exfalso; simp at *; omega)
          | (refine ⟨[_], [], ⟨resV_tmp (by conv => lhs; whnf), trivial⟩, VwOs.mk (by decide) trivial, ?_, rfl⟩; (first | exact Vw.bool' (decide_eq_true (by omega))); done)
          | (all_goals trace_state); fail
    · have hk1 : ¬ k ≤ 1 := fun q => hno (hG.2 q)
      clear hno hG hv hok hD hi h hr
      cases s
      · clear hle
        refine AC.mk (n := 70) (fn := Tryd.f4) Tryd.func4 (by kernel_rfl) rfl rfl rfl rfl (fun cx => ?_); dsimp only [argv, Nat.reduceAdd]
        (repeat' (first | refine a_seq ?_ | refine a_skip ?_ | refine a_ret ?_ | refine a_region ?_ | refine l_nil ?_ | (apply w_q; (focus (first | exact Q_move (by conv => lhs; whnf) | exact Q_assign (by conv => lhs; whnf) | exact Q_load_all rfl rfl KAg.h | exact Q_leq rfl rfl | exact Q_eql rfl rfl | exact Q_eqlB rfl rfl KBo.h | exact Q_neq rfl rfl | exact Q_len_rows rfl KSl.h | exact Q_extract rfl (by conv => lhs; whnf) | exact Q_not rfl | exact Q_pick_t rfl (by assumption) (by conv => lhs; whnf) | exact Q_pick_f rfl (by assumption) (by conv => lhs; whnf) | exact Q_pick_t rfl rfl (by conv => lhs; whnf))); (focus exact rfl)) | (refine a_cond rfl ?_ ?_ <;> (intro h; (try (have hp := of_decide_eq_true h)); (try (have hp := of_decide_eq_false h)); (try contradiction); (try (exfalso; omega)))) | refine w_guard_u rfl rfl rfl ?_ | refine w_guard_y rfl rfl rfl (by first | assumption | rfl) ?_ | refine w_guard_n rfl rfl rfl (by first | assumption | rfl) ?_ | (refine w_guard rfl rfl rfl ?_ ?_ <;> (intro h; (try (have hp := of_decide_eq_true h)); (try (have hp := of_decide_eq_false h)); (try contradiction); (try (exfalso; omega)))) | refine w_box rfl rfl (by first|(dsimp only[obA,obB,obD,obE,obF,obG,obI,List.map,AO.sh,AV.sh,AV.shl,Nat.reduceAdd];done)|exact rfl) (by first|(dsimp only[obA,obB,obD,obE,obF,obG,obI,List.map,AO.sh,AV.sh,AV.shl,Nat.reduceAdd];done)|exact rfl) rfl ?_ | refine w_alloc KMk.h (by first|(dsimp only[obA,obB,obD,obE,obF,obG,obI,List.map,AO.sh,AV.sh,AV.shl,Nat.reduceAdd];done)|exact rfl) rfl (by first|(dsimp only[obA,obB,obD,obE,obF,obG,obI,List.map,AO.sh,AV.sh,AV.shl,Nat.reduceAdd];done)|exact rfl) (by first|(dsimp only[obA,obB,obD,obE,obF,obG,obI,List.map,AO.sh,AV.sh,AV.shl,Nat.reduceAdd];done)|exact rfl) rfl ?_ | refine w_store_all rfl rfl rfl rfl rfl KSz.h (by first|(dsimp only[obA,obB,obD,obE,obF,obG,obI,List.map,AO.sh,AV.sh,AV.shl,Nat.reduceAdd];done)|exact rfl) ?_ | (((first | apply w_q); (focus (refine Q_call (.inl ⟨rfl, rfl⟩) (kb) ?_; ((repeat' (first | exact trivial)); done))); (focus exact rfl))) | ((refine w_callV (.inl ⟨rfl, rfl⟩) (kD) ?_ (by first | (dsimp only [AV.sh, AV.shl, sh_ints, sh_rows, sh_pairs, sh_ords]; done) | exact rfl) rfl ?_; rotate_left 0; (focus ((repeat' (first | exact trivial | exact Vs.val _ | exact Vs.ro _ | refine Vs.agg' ?_ | refine ⟨?_, ?_⟩)); done)); rotate_left 1; all_goals (try (skip)))) | ((refine w_callV (.inl ⟨rfl, rfl⟩) (kT) ?_ (by first | (dsimp only [AV.sh, AV.shl, sh_ints, sh_rows, sh_pairs, sh_ords]; done) | exact rfl) rfl ?_; rotate_left 0; (focus ((repeat' (first | exact trivial | exact Vs.val _ | exact Vs.ro _ | refine Vs.agg' ?_ | refine ⟨?_, ?_⟩)); done)); rotate_left 1; all_goals (try (skip)))) | (((first | apply w_q); (focus (refine Q_call (.inl ⟨rfl, rfl⟩) (kS) ?_; ((repeat' (first | exact trivial | exact vwR rfl | exact Vw.ro _ | refine Vw.agg' ?_ | refine ⟨?_, ?_⟩ )); done))); (focus exact rfl))) | (((first | apply w_q); (focus (refine Q_call (.inl ⟨rfl, rfl⟩) (kR) ?_; ((repeat' (first | exact trivial | exact vwR rfl | exact Vw.ro _ | refine Vw.agg' ?_ | refine ⟨?_, ?_⟩ )); done))); (focus exact rfl))))); (try all_goals (try show retA _ _ _ _ _ _ _))
        all_goals first
          | (exfalso; omega)
          | (exfalso; simp at *; omega)
          | (refine ⟨[_], [], ⟨resV_tmp (by conv => lhs; whnf), trivial⟩, VwOs.mk (by decide) trivial, ?_, rfl⟩; (repeat' (first | exact vwR rfl)); done)
          | (all_goals trace_state); fail
      · have hle := hle rfl
        refine AC.mk (n := 70) (fn := Tryd.f4) Tryd.func4 (by kernel_rfl) rfl rfl rfl rfl (fun cx => ?_); dsimp only [argv, Nat.reduceAdd]
        (repeat' (first | refine a_seq ?_ | refine a_skip ?_ | refine a_ret ?_ | refine a_region ?_ | refine l_nil ?_ | (apply w_q; (focus (first | exact Q_move (by conv => lhs; whnf) | exact Q_assign (by conv => lhs; whnf) | exact Q_load_all rfl rfl KAg.h | exact Q_leq rfl rfl | exact Q_geq rfl rfl | exact Q_eql rfl rfl | exact Q_eqlB rfl rfl KBo.h | exact Q_neq rfl rfl | exact Q_len_rows rfl KSl.h | exact Q_extract rfl (by conv => lhs; whnf) | exact Q_not rfl | exact Q_pick_t rfl (by assumption) (by conv => lhs; whnf) | exact Q_pick_f rfl (by assumption) (by conv => lhs; whnf) | exact Q_pick_t rfl rfl (by conv => lhs; whnf))); (focus exact rfl)) | (refine a_cond rfl ?_ ?_ <;> (intro h; (try (have hp := of_decide_eq_true h)); (try (have hp := of_decide_eq_false h)); (try contradiction); (try (exfalso; omega)))) | refine w_guard_u rfl rfl rfl ?_ | refine w_guard_y rfl rfl rfl (by first | assumption | rfl) ?_ | refine w_guard_n rfl rfl rfl (by first | assumption | rfl) ?_ | (refine w_guard rfl rfl rfl ?_ ?_ <;> (intro h; (try (have hp := of_decide_eq_true h)); (try (have hp := of_decide_eq_false h)); (try contradiction); (try (exfalso; omega)))) | refine w_box rfl rfl (by first|(dsimp only[obA,obB,obD,obE,obF,obG,obI,List.map,AO.sh,AV.sh,AV.shl,Nat.reduceAdd];done)|exact rfl) (by first|(dsimp only[obA,obB,obD,obE,obF,obG,obI,List.map,AO.sh,AV.sh,AV.shl,Nat.reduceAdd];done)|exact rfl) rfl ?_ | refine w_alloc KMk.h (by first|(dsimp only[obA,obB,obD,obE,obF,obG,obI,List.map,AO.sh,AV.sh,AV.shl,Nat.reduceAdd];done)|exact rfl) rfl (by first|(dsimp only[obA,obB,obD,obE,obF,obG,obI,List.map,AO.sh,AV.sh,AV.shl,Nat.reduceAdd];done)|exact rfl) (by first|(dsimp only[obA,obB,obD,obE,obF,obG,obI,List.map,AO.sh,AV.sh,AV.shl,Nat.reduceAdd];done)|exact rfl) rfl ?_ | refine w_store_all rfl rfl rfl rfl rfl KSz.h (by first|(dsimp only[obA,obB,obD,obE,obF,obG,obI,List.map,AO.sh,AV.sh,AV.shl,Nat.reduceAdd];done)|exact rfl) ?_ | (((first | apply w_q); (focus (refine Q_call (.inl ⟨rfl, rfl⟩) (kb) ?_; ((repeat' (first | exact trivial)); done))); (focus exact rfl))) | ((refine w_callV (.inl ⟨rfl, rfl⟩) (kD) ?_ (by first | (dsimp only [AV.sh, AV.shl, sh_ints, sh_rows, sh_pairs, sh_ords]; done) | exact rfl) rfl ?_; rotate_left 0; (focus ((repeat' (first | exact trivial | exact Vs.val _ | exact Vs.ro _ | refine Vs.agg' ?_ | refine ⟨?_, ?_⟩)); done)); rotate_left 1; all_goals (try (skip)))) | ((refine w_callV (.inl ⟨rfl, rfl⟩) (kT) ?_ (by first | (dsimp only [AV.sh, AV.shl, sh_ints, sh_rows, sh_pairs, sh_ords]; done) | exact rfl) rfl ?_; rotate_left 0; (focus ((repeat' (first | exact trivial | exact Vs.val _ | exact Vs.ro _ | refine Vs.agg' ?_ | refine ⟨?_, ?_⟩)); done)); rotate_left 1; all_goals (try (skip)))) | (((first | apply w_q); (focus (refine Q_call (.inl ⟨rfl, rfl⟩) (kS) ?_; ((repeat' (first | exact trivial | exact vwR rfl | exact Vw.ro _ | refine Vw.agg' ?_ | refine ⟨?_, ?_⟩ )); done))); (focus exact rfl))) | (((first | apply w_q); (focus (refine Q_call (.inl ⟨rfl, rfl⟩) (kR) ?_; ((repeat' (first | exact trivial | exact vwR rfl | exact Vw.ro _ | refine Vw.agg' ?_ | refine ⟨?_, ?_⟩ )); done))); (focus exact rfl))))); (try all_goals (try show retA _ _ _ _ _ _ _))
        all_goals first
          | (exfalso; omega)
          | (exfalso; simp at *; omega)
          | (refine ⟨[_], [], ⟨resV_tmp (by conv => lhs; whnf), trivial⟩, VwOs.mk (by decide) trivial, ?_, rfl⟩; (first | exact Vw.bool' (decide_eq_true (by omega))); done)
          | (all_goals trace_state); fail
  · have kD := Dim_err N l h
    have kT := Turned_err N l h
    generalize chkR N l = e at *
    refine AC.mk (n := 70) (fn := Tryd.f4) Tryd.func4 (by kernel_rfl) rfl rfl rfl rfl (fun cx => ?_); dsimp only [argv, Nat.reduceAdd]
    (repeat' (first | refine a_seq ?_ | refine a_skip ?_ | refine a_ret ?_ | refine a_region ?_ | refine l_nil ?_ | (apply w_q; (focus (first | exact Q_move (by conv => lhs; whnf) | exact Q_assign (by conv => lhs; whnf) | exact Q_load_all rfl rfl KAg.h | exact Q_eql rfl rfl | exact Q_neq rfl rfl | exact Q_extract rfl (by conv => lhs; whnf) | exact Q_not rfl)); (focus exact rfl)) | (refine a_cond rfl ?_ ?_ <;> (intro h; (try (have hp := of_decide_eq_true h)); (try (have hp := of_decide_eq_false h)); (try contradiction); (try (exfalso; omega)))) | refine w_box rfl rfl (by first|(dsimp only[obA,obB,obD,obE,obF,obG,obI,List.map,AO.sh,AV.sh,AV.shl,Nat.reduceAdd];done)|exact rfl) (by first|(dsimp only[obA,obB,obD,obE,obF,obG,obI,List.map,AO.sh,AV.sh,AV.shl,Nat.reduceAdd];done)|exact rfl) rfl ?_ | refine w_alloc KMk.h (by first|(dsimp only[obA,obB,obD,obE,obF,obG,obI,List.map,AO.sh,AV.sh,AV.shl,Nat.reduceAdd];done)|exact rfl) rfl (by first|(dsimp only[obA,obB,obD,obE,obF,obG,obI,List.map,AO.sh,AV.sh,AV.shl,Nat.reduceAdd];done)|exact rfl) (by first|(dsimp only[obA,obB,obD,obE,obF,obG,obI,List.map,AO.sh,AV.sh,AV.shl,Nat.reduceAdd];done)|exact rfl) rfl ?_ | refine w_store_all rfl rfl rfl rfl rfl KSz.h (by first|(dsimp only[obA,obB,obD,obE,obF,obG,obI,List.map,AO.sh,AV.sh,AV.shl,Nat.reduceAdd];done)|exact rfl) ?_ | (((first | apply w_q); (focus (refine Q_call (.inl ⟨rfl, rfl⟩) (kb) ?_; ((repeat' (first | exact trivial)); done))); (focus exact rfl))) | ((refine w_callV (.inl ⟨rfl, rfl⟩) (kD) ?_ (by first | (dsimp only [AV.sh, AV.shl, sh_ints, sh_rows, sh_pairs, sh_ords]; done) | exact rfl) rfl ?_; rotate_left 0; (focus ((repeat' (first | exact trivial | exact Vs.val _ | exact Vs.ro _ | refine Vs.agg' ?_ | refine ⟨?_, ?_⟩)); done)); rotate_left 1; all_goals (try (skip)))) | ((refine w_callV (.inl ⟨rfl, rfl⟩) (kT) ?_ (by first | (dsimp only [AV.sh, AV.shl, sh_ints, sh_rows, sh_pairs, sh_ords]; done) | exact rfl) rfl ?_; rotate_left 0; (focus ((repeat' (first | exact trivial | exact Vs.val _ | exact Vs.ro _ | refine Vs.agg' ?_ | refine ⟨?_, ?_⟩)); done)); rotate_left 1; all_goals (try (skip)))))); (try all_goals (try show retA _ _ _ _ _ _ _))
    all_goals first
      | (exfalso; omega)
      | (exfalso; simp at *; omega)
      | (refine ⟨[_], [], ⟨resV_tmp (by conv => lhs; whnf), trivial⟩, VwOs.mk (by decide) trivial, ?_, rfl⟩; (first | exact Vw.bool' (by simp)); done)
      | (all_goals trace_state); fail
theorem RealizeDushnik_knob : ownKnob Tryd.prog.godebug = none := by kernel_rfl
theorem RealizeDushnik_laid : laidOutB Tryd.prog = true := by kernel_rfl
theorem door_met (os : Os) (args : Array Value) : laidMetH Tryd.prog tabL ((World.doorLaid Tryd.prog 24 os).forCall (fun _ _ => 0) ⟨#[], args, []⟩).memory :=
  laidMetH_of_parts3 (fuel := 8) (laidMet_of_run' 8 (by kernel_rfl) (by kernel_rfl)) (by kernel_rfl) (by kernel_rfl)
set_option maxRecDepth 100000 in
theorem RealizeDushnik_lifted (os : Os) (started : os.Started) (H : Type) (enc : TypeId × Value → H) :
    ReturnsInHanded {} Tryd.checked os 4 .any (fun w args => (Rows.realizeDushnikSpec.pre enc Tryd.prog Tryd.f4 Rows.realizeDushnikRow.domain false w args ∧ laidMetH Tryd.prog tabL w) ∧ sizedMet enc Tryd.prog Tryd.f4 (OpenSpec.ofChange Rows.realizeDushnikSpec) false w args) (Rows.realizeDushnikSpec.post enc Tryd.prog Tryd.f4 false true false false) := by
  refine law_frameT (C := Tryd.checked) (laid := tabL) RealizeDushnik_knob started (by kernel_rfl) Tryd.func4
    (ChangeSpec.witness_shaped (enc := enc) (C := Tryd.checked) (os := os) (X := fun w _ => laidMetH Tryd.prog tabL w) false (World.doorLaid Tryd.prog 24 os) #[.agg #[.int .i64 0, .slice none 0 0], .slice none 0 0] 8 rfl (World.shaped_of_RefB (by kernel_rfl) (by kernel_rfl)) (by kernel_rfl) (by kernel_rfl) (by kernel_rfl) (door_met os _))
    RealizeDushnik_laid rfl Tryd.underlying4 (by kernel_rfl) rfl ?_ tab_laid ?_
  · intro ds h
    match ds, h with
    | [d0, d1], _ => rfl
  · intro W base args ds p hval hA
    obtain ⟨v0, v1, d0, d1, p0, p1, rfl, rfl, rfl, h0, h1⟩ := trodAll_two hA
    obtain ⟨N0, l0, u0, rfl, r0, a0, b0, c0⟩ := arg_order Tryd.underlying24 (by kernel_rfl) rfl rfl Tryd.underlying3 (by kernel_rfl) Tryd.underlying22 (by kernel_rfl) Tryd.underlying3 (by kernel_rfl) (hval 0 _ _ rfl rfl) h0
    obtain ⟨l1, r1, b1, c1⟩ := arg_rows Tryd.underlying33 Tryd.underlying22 Tryd.underlying3 (by kernel_rfl) (by kernel_rfl) (hval 1 _ _ rfl rfl) h1
    exact ⟨[_, _], ⟨gm_order r0, gm_rows r1, trivial⟩, RealizeDushnik_ac N0 l0 l1 c1 (fun r hr => (b1 r hr).2)⟩
theorem RealizeDushnik_row : Rows.RealizeDushnikSaid :=
  OpenClaim.holds_of_wide 4 Tryd.f4 rfl rfl rfl rfl rfl rfl rfl ⟨rfl, rfl, rfl, rfl, rfl⟩ rfl rfl rfl rfl rfl (by kernel_rfl) Tryd.func4 (by kernel_rfl)
    (of_decide_eq_true (by kernel_rfl)) (by unfold Func.isWrapper; first | (rw [if_pos (by decide +kernel)]; kernel_rfl) | (rw [if_neg (by decide +kernel)]; exact ⟨rfl, rfl⟩))
    (fun os started H enc _ => RealizeDushnik_lifted os started H enc)
theorem RealizeDushnik_holds : Rows.RealizeDushnikCardSaid :=
  Claim7.holds_tied_plain_at .later [] [.data, .data] true (true, "21c88d9afaf9ffc8725b5f50f2b0b327c3cdfe6d4ef30e7516558d86c81b678b") true
    RealizeDushnik_row (fun _ h => by cases h) (by kernel_rfl) (fun _ h => by cases h) realizeDushnik_row_tie rfl ⟨rfl, rfl⟩ (by kernel_rfl) rfl
    (fun f fn hf hfn => by
      obtain rfl : f = 4 := Option.some.inj ((show Tryd.prog.funcNamed "hasse/hasselaw.RealizeDushnik" = some 4 by kernel_rfl).symm.trans hf) |>.symm
      obtain rfl : fn = Tryd.f4 := (Option.some.inj (Tryd.func4.symm.trans hfn)).symm
      exact ⟨by kernel_rfl, fun j t ht => by
        rw [Tryd.params4] at ht
        have hm : t ∈ [24, 33] := by simpa using Array.mem_of_getElem? ht
        have hall : ([24, 33].all fun u => !Tryd.prog.wantsStandIn u) = true := by kernel_rfl
        exact (show Tryd.prog.wantsStandIn t = false by simpa using List.all_eq_true.1 hall t hm)⟩)
    (by kernel_rfl)
end Go.Proofs.YtgojkabjgagjcaaDoor
