import Derived.Test.YtgojkabjgagjcaaEngZzo
import Derived.Test.YtgojkabjgagjcaaEa
import Derived.Test.YtgojkabjgagjcaaHd
set_option linter.unusedSimpArgs false
set_option linter.unusedVariables false
set_option linter.unusedSectionVars false
set_option maxRecDepth 20000
namespace Go.Proofs.Ytgojkabjgagjcaa
attribute [local irreducible] QOp aL aC qL
theorem rowsL_len (n : Nat) (ns : List Nat) : (rowsL n ns).length = rest n (mayO ns) 0 := by unfold rowsL; rw [List.length_map, List.length_range]
theorem rowsL_take {n : Nat} {ns : List Nat} {k : Nat} (h : k < rest n (mayO ns) 0) : (rowsL n ns).take k ++ [nthN n ns k] = (rowsL n ns).take (k + 1) := by
  unfold rowsL
  rw [← List.map_take, ← List.map_take, List.take_range, List.take_range, Nat.min_eq_left (Nat.le_of_lt h), Nat.min_eq_left h, List.range_succ, List.map_append]
  rfl
theorem rz_rows_ac (n : Nat) (ns : List Nat) :
    AC Try.prog 23 [ordv n (nl ns)] [] (.clo 35 [.rpt [.val (.int .i64 n), .sl 1 (intc (nl ns))] 0]) [] := by
  refine AC.mk (n := 4) (fn := Try.f23) Try.func23 (by kernel_rfl) rfl rfl rfl rfl (fun cx => ?_); dsimp only [argv, Nat.reduceAdd]
  (repeat' (first | refine a_seq ?_ | refine a_ret ?_ | refine a_region ?_ | refine l_nil ?_ | (apply w_q; (focus (first | exact Q_assign (by conv => lhs; whnf) | exact Q_clo1 (by conv => lhs; whnf))); (focus exact rfl)) | refine w_box rfl rfl (by first|(dsimp only[obA,obB,obD,obE,obF,obG,obI,List.map,AO.sh,AV.sh,AV.shl,Nat.reduceAdd];done)|exact rfl) (by first|(dsimp only[obA,obB,obD,obE,obF,obG,obI,List.map,AO.sh,AV.sh,AV.shl,Nat.reduceAdd];done)|exact rfl) rfl ?_)); (try all_goals (try show retA _ _ _ _ _ _ _))
  all_goals first
    | (refine ⟨[_], [], ⟨resV_tmp (by conv => lhs; whnf), trivial⟩, VwOs.mk (by decide) trivial, ?_, rfl⟩; (repeat' (first | exact trivial | exact vwR rfl | exact Vw.valro _ | refine Vw.clo' ?_ | refine Vw.boxrpt' rfl (by decide) ?_ | exact Nat.le_of_ble_eq_true rfl | refine ⟨?_, ?_⟩ )); done)
    | (all_goals trace_state); fail
set_option maxRecDepth 20000 in
set_option maxHeartbeats 2000000 in
theorem rows1_iter (n : Nat) (ns : List Nat) (hn : n ≤ 10) (hv : Vld n ns) (hok : okB n ns = true) :
    IterG Try.prog 35 [.rpt [.val (.int .i64 n), .sl 1 (intc (nl ns))] 0] (fun r => ints (nl r)) (rowsL n ns) := by
  have kC := ECount_ok n ns hn hv hok
  have kN := fun k (h : k < rest n (mayO ns) 0) => Nth_ok n ns k hn hv hok h
  have hle := rest_le hn (mayO ns) 0
  have htk := fun k => rowsL_take (n := n) (ns := ns) (k := k)
  have htl := rowsL_len n ns
  generalize hT : rest n (mayO ns) 0 = T at *
  refine IterG.mk (n := 28) (fn := Try.f35) Try.func35 (by kernel_rfl) rfl rfl rfl rfl rfl ?_; intro _ cx G hG; dsimp only [argv, Nat.reduceAdd]
  obtain ⟨gl, hgl⟩ : ∃ gl, G.l = gl := ⟨_, rfl⟩
  rw [hgl]
  refine d_seq (d_plain fun cx' => ?_)
  (repeat' (first | refine a_region ?_ | refine l_nil ?_ | (apply w_q; (focus (first | exact Q_move (by conv => lhs; whnf) | exact Q_assign (by conv => lhs; whnf) | exact Q_ld_rpa rfl KAg.h rfl rfl (by first | (dsimp only [List.drop_zero, List.drop_succ_cons, List.take_succ_cons, List.take_zero, List.map, ofD]; done) | exact rfl) | exact Q_extract rfl (by conv => lhs; whnf))); (focus exact rfl)) | ((refine w_callV (.inl ⟨rfl, rfl⟩) (kC) ?_ (by first | (dsimp only [AV.sh, AV.shl, sh_ints, sh_rows, sh_pairs, sh_ords]; done) | exact rfl) rfl ?_; rotate_left 0; (focus ((repeat' (first | exact trivial | exact Vs.val _ | exact Vs.ro _ | refine Vs.agg' ?_ | refine ⟨?_, ?_⟩)); done)); rotate_left 1; all_goals (try (skip)))))); (try all_goals (try show retA _ _ _ _ _ _ _))
  (try dsimp only [thenJ, blockJ])
  refine d_seq (d_plain fun cx' => ?_)
  (repeat' (first | refine a_region ?_ | refine l_nil ?_ | (apply w_q; (focus (first | exact Q_move (by conv => lhs; whnf))); (focus exact rfl)))); (try all_goals (try show retA _ _ _ _ _ _ _))
  (try dsimp only [thenJ, blockJ])
  refine d_block ?_
  refine d_loop (X := Nat) (fun i => ⟨28, [(0, .val (.func (.yield gl) #[] #[])), (1, .rpt [.val (.int .i64 n), .sl 1 (intc (nl ns))] 0), (13, .val (.int .i64 (T : Nat))), (14, .val (.int .i64 (i : Nat)))], []⟩) (fun i => ((rowsL n ns).take i, false)) (fun i => i ≤ T) (fun i => T - i) 0 [] (Nat.zero_le _) rfl (by (refine St.le_mk rfl (VwOs.mk (by decide) ?_) ?_ <;> (repeat' (first | exact trivial | exact vwR rfl | refine ⟨?_, ?_⟩ )))) rfl ?_
  intro i hi
  (try dsimp only at hi ⊢)
  refine d_seq (d_plain fun cx' => ?_)
  (repeat' (first | refine a_region ?_ | refine l_nil ?_ | (apply w_q; (focus (first | exact Q_lss rfl rfl)); (focus exact rfl)))); (try all_goals (try show retA _ _ _ _ _ _ _))
  (try dsimp only [thenJ, blockJ])
  by_cases hiT : i < T
  · have hpre : (rowsL n ns).take i ++ [nthN n ns i] <+: rowsL n ns := by rw [htk i hiT]; exact List.take_prefix _ _
    have kN := kN i hiT
    have htk := htk i hiT
    generalize nthN n ns i = r at *
    refine d_seq (d_cond rfl (fun _ => d_plain fun cx' => ?_) (fun h => by simp at h; omega))
    (repeat' (first | refine a_skip ?_)); (try all_goals (try show retA _ _ _ _ _ _ _))
    (try dsimp only [thenJ, blockJ])
    refine d_seq (d_block ?_)
    refine d_seq (d_plain fun cx' => ?_)
    (repeat' (first | refine a_region ?_ | refine l_nil ?_ | (apply w_q; (focus (first | exact Q_move (by conv => lhs; whnf) | exact Q_assign (by conv => lhs; whnf))); (focus exact rfl)))); (try all_goals (try show retA _ _ _ _ _ _ _))
    (try dsimp only [thenJ, blockJ])
    refine d_seq (d_plain fun cx' => ?_)
    (repeat' (first | refine a_region ?_ | refine l_nil ?_ | (apply w_q; (focus (first | exact Q_move (by conv => lhs; whnf) | exact Q_assign (by conv => lhs; whnf) | exact Q_ld_rpa rfl KAg.h rfl rfl (by first | (dsimp only [List.drop_zero, List.drop_succ_cons, List.take_succ_cons, List.take_zero, List.map, ofD]; done) | exact rfl) | exact Q_extract rfl (by conv => lhs; whnf))); (focus exact rfl)) | ((refine w_callR (res := .tup [.own 0, .val (.int .i64 0)]) (news := [.row 3 1 (intc (nl r))]) (.inl ⟨rfl, rfl⟩) (kN) ?_ ?_ ?_ rfl (by repeat' (first | exact trivial | exact flat_ints _ _ | refine ⟨?_, ?_⟩)) (by first|(dsimp only[obA,obB,obD,obE,obF,obG,obI,List.map,AO.sh,AV.sh,AV.shl,Nat.reduceAdd];done)|exact rfl) (by first|(dsimp only[obA,obB,obD,obE,obF,obG,obI,List.map,AO.sh,AV.sh,AV.shl,Nat.reduceAdd];done)|exact rfl) rfl ?_; rotate_left 0; (focus exact rfl); (focus exact rfl); (focus ((repeat' (first | exact trivial | exact vwR rfl | exact vwRL rfl | exact Vw.ro _ | refine Vw.agg' ?_ | refine ⟨?_, ?_⟩ )); done)); rotate_left 1; all_goals (try (skip)))))); (try all_goals (try show retA _ _ _ _ _ _ _))
    (try dsimp only [thenJ, blockJ])
    refine d_seq (g_yield hG (s1 := ?s) (x := r) (ig := 0) (e := 3) (sz := 1) (cs := intc (nl r)) 2 rfl rfl rfl (fun _ _ h => h) (fun _ _ _ h => h) (fun cx' => ?h1) ?hw ?hy ?hx ?hox ?hcs rfl hpre ?hd rfl ?h2)
    case h1 =>
      dsimp only [List.take_succ_cons, List.take_zero]
      (repeat' (first | refine l_nil ?_ | (apply w_q; (focus (first | exact Q_move (by conv => lhs; whnf))); (focus exact rfl)))); (try all_goals (try show retA _ _ _ _ _ _ _))
      exact rfl
    case hw => exact .inl rfl
    case hy => rw [hgl]; rfl
    case hx => exact rfl
    case hox => exact rfl
    case hcs => simp [intc, plD]
    case hd => rfl
    intro _ b cx'
    cases b
    · (repeat' (first | refine l_nil ?_ | (apply w_q; (focus (first | exact Q_not rfl)); (focus exact rfl)))); (try all_goals (try show retA _ _ _ _ _ _ _))
      (try dsimp only [thenJ, blockJ])
      refine d_cond rfl (fun _ => d_plain fun cx' => ?_) (fun h => by cases h)
      (repeat' (first | refine a_ret ?_)); (try all_goals (try show retA _ _ _ _ _ _ _))
      exact .inr ⟨rfl, hpre⟩
    · (repeat' (first | refine l_nil ?_ | (apply w_q; (focus (first | exact Q_not rfl)); (focus exact rfl)))); (try all_goals (try show retA _ _ _ _ _ _ _))
      (try dsimp only [thenJ, blockJ])
      refine d_cond rfl (fun h => by cases h) (fun _ => d_plain fun cx' => ?_)
      (repeat' (first | refine a_skip ?_)); (try all_goals (try show retA _ _ _ _ _ _ _))
      (try dsimp only [thenJ, blockJ])
      refine d_plain fun cx' => ?_
      (repeat' (first | refine a_region ?_ | refine l_nil ?_ | (apply w_q; (focus (first | exact Q_move (by conv => lhs; whnf) | exact Q_add rfl rfl (by omega))); (focus exact rfl)))); (try all_goals (try show retA _ _ _ _ _ _ _))
      exact ⟨i + 1, [], hiT, (by omega), (by rw [htk]; rfl), (by (refine St.le_mk rfl (VwOs.mk (by decide) ?_) ?_ <;> (repeat' (first | exact trivial | exact vwR rfl | refine ⟨?_, ?_⟩ )))), rfl⟩
  · refine d_seq (d_cond rfl (fun h => by simp at h; omega) (fun h => d_plain fun cx' => ?_))
    (repeat' (first | refine a_exit ?_)); (try all_goals (try show retA _ _ _ _ _ _ _))
    obtain rfl : i = T := by omega
    refine .inl ?_
    rw [← htl, List.take_length]
end Go.Proofs.Ytgojkabjgagjcaa
