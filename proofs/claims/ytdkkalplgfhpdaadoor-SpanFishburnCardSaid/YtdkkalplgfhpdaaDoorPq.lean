import Derived.Test.YtdkkalplgfhpdaaDoorWp
import Derived.Test.YtdkkalplgfhpdaaDoorWs
import Derived.Test.YtdkkalplgfhpdaaDoorGb
import Derived.Test.YtdkkalplgfhpdaaDoorTabs
import Derived.Test.YtdkkalplgfhpdaaDoorEngR
set_option linter.unusedSimpArgs false
set_option linter.unusedVariables false
set_option linter.unusedSectionVars false
set_option maxRecDepth 20000
namespace Go.Proofs.YtdkkalplgfhpdaaDoor
open Go.ChangeShapes Go.WideShapes Go.ChangeAt Go.RowKit
attribute [local irreducible] QOp aL aC qL
theorem sn_ok {l : List (Int × Int)} (hz : snE l = 0) : okB l.length (ofn l.length (snB l)) = true := by
  obtain ⟨_, hall⟩ := snE_zero hz
  refine okB_all (ofn_vld _ _).2 fun i hi => ⟨fun j hj k hk => ?_, ?_⟩
  · unfold trip
    rw [ofn_lt _ hj hk, ofn_lt _ hk hi, ofn_lt _ hj hi]
    unfold snB
    have := hall k hk
    rw [Bool.eq_false_iff]
    simp only [ne_eq, Bool.and_eq_true, decide_eq_true_eq, Bool.not_eq_true', decide_eq_false_iff_not]
    omega
  · rw [ofn_lt _ hi hi]
    unfold snB
    have := hall i hi
    rw [decide_eq_false_iff_not]; omega
set_option maxRecDepth 20000 in
set_option maxHeartbeats 4000000 in
theorem SpanFishburn_ac (N : Int) (o : List Int) (l : List (Int × Int)) (ho : o.length ≤ 9223372036854775807) (hl : l.length ≤ 9223372036854775807) : AC Tryd.prog 10 [ordv N o, pairs l] [] (.val (.bool true)) [] := by
  have kv := snbegun_ac
  have chain : ∀ {n : Nat} {ns : List Nat}, Vld n ns → okB n ns = true → qdY n (twQ ns) = false → ChN (dsN n ns) := fun hv hok hy => ch_of hv hok fun a b c d ha hb hc hd h1 => by
    cases hq : twQ _ a b c d with
    | false => rfl
    | true => rw [qdY_ex.2 ⟨a, b, c, d, ha, hb, hc, hd, h1, hq⟩] at hy; cases hy
  -- what is asked of o
  have hB : (∃ e, e ≠ 0 ∧ AC Tryd.prog 32 [ordv N o] [] (.tup [.val (.slice none 0 0), .val (.bool false), .val (.int .i64 e)]) [] ∧ AC Tryd.prog 24 [ordv N o] [] (.tup [ints [], .val (.bool false), .val (.int .i64 e)]) []) ∨
      (∃ T R, AC Tryd.prog 32 [ordv N o] [] (.tup [pairs T, .val (.bool true), .val (.int .i64 0)]) [] ∧ AC Tryd.prog 24 [ordv N o] [] (.tup [ints R, .val (.bool false), .val (.int .i64 0)]) [] ∧ AC Tryd.prog 36 [pairs T] [] (.val (.bool true)) []) ∨
      (∃ R, AC Tryd.prog 32 [ordv N o] [] (.tup [.val (.slice none 0 0), .val (.bool false), .val (.int .i64 0)]) [] ∧ AC Tryd.prog 24 [ordv N o] [] (.tup [ints R, .val (.bool true), .val (.int .i64 0)]) []) := by
    have k2 := SnTwo_ac N o
    by_cases hz : chk N o = 0
    · obtain ⟨n, ns, rfl, rfl, hn, hv, hok⟩ := chk_zero hz
      have k1 := Spans_ok n ns hn hv hok
      rw [fishburn hn hv hok] at k1
      rw [if_pos hz, nl_map, Int.toNat_natCast, decide_eq_true hz, Bool.true_and, hz] at k2
      cases hy : qdY n (twQ ns) with
      | false =>
        rw [hy] at k1 k2
        exact .inr (.inl ⟨_, _, k1, k2, ends_acW _ (endP_of hn hv hok (chain hv hok hy))⟩)
      | true =>
        rw [hy] at k1 k2
        exact .inr (.inr ⟨_, k1, k2⟩)
    · rw [if_neg hz, decide_eq_false hz, Bool.false_and] at k2
      exact .inl ⟨_, hz, Spans_err N o hz, k2⟩
  have hA : (∃ e, e ≠ 0 ∧ AC Tryd.prog 20 [pairs l] [] (.tup [ordv 0 [], .val (.int .i64 e)]) []) ∨
      (∃ n O T R, AC Tryd.prog 20 [pairs l] [] (.tup [ordv n O, .val (.int .i64 0)]) [] ∧ AC Tryd.prog 32 [ordv n O] [] (.tup [pairs T, .val (.bool true), .val (.int .i64 0)]) [] ∧ AC Tryd.prog 20 [pairs T] [] (.tup [ordv n O, .val (.int .i64 0)]) [] ∧
        AC Tryd.prog 24 [ordv n O] [] (.tup [ints R, .val (.bool false), .val (.int .i64 0)]) [] ∧ AC Tryd.prog 35 [ordv n O, ordv n O] [] (.val (.bool true)) [] ∧ AC Tryd.prog 36 [pairs T] [] (.val (.bool true)) []) := by
    by_cases hz : snE l = 0
    · have hn := (snE_zero hz).1
      have kO := AC.vw0 (res2 := .tup [ordv l.length (nl (ofn l.length (snB l))), .val (.int .i64 0)]) (SnOf_ok l hz) (by (repeat' (first | exact trivial | exact vwR rfl | exact vwRL rfl | exact Vw.val _ | exact Vw.ro _ | exact Vw.any _ | exact Vw.valro _ | exact Vw.own _ _ rfl | exact Vw.ptr _ _ _ rfl | exact Vw.rpt _ _ | exact Vw.nilro _ | exact Vw.rowro _ _ _ _ rfl (by decide) | exact Vw.rowro2 rfl (by decide) (by with_unfolding_all exact rfl) | refine Vw.agg' ?_ | refine Vw.tup' ?_ | refine Vw.clo' ?_ | refine Vw.boxrpt' rfl (by decide) ?_ | exact Nat.le_of_ble_eq_true rfl | refine ⟨?_, ?_⟩ )))
      have hno := fun a b c d => sn_no hz rfl (a := a) (b := b) (c := c) (d := d)
      have hv := ofn_vld l.length (snB l)
      have hok := sn_ok hz
      generalize ofn l.length (snB l) = ns at *
      generalize l.length = n at *
      have hy : qdY n (twQ ns) = false := by
        rw [Bool.eq_false_iff]
        intro h
        obtain ⟨a, b, c, d, ha, hb, hc, hd, _, h2⟩ := qdY_ex.1 h
        rw [hno a b c d ha hb hc hd] at h2; cases h2
      have hY : snY n ns = true := by rw [fishburn hn hv hok, hy]; rfl
      have k1 := Spans_ok n ns hn hv hok
      rw [hY, if_pos rfl] at k1
      unfold snY at hY
      rw [Bool.and_eq_true, decide_eq_true_eq, decide_eq_true_eq] at hY
      have htl := snT_len n ns n
      have kO2 := AC.vw0 (res2 := .tup [ordv (snT n ns n).length (nl (ofn (snT n ns n).length (snB (snT n ns n)))), .val (.int .i64 0)]) (SnOf_ok _ hY.1) (by (repeat' (first | exact trivial | exact vwR rfl | exact vwRL rfl | exact Vw.val _ | exact Vw.ro _ | exact Vw.any _ | exact Vw.valro _ | exact Vw.own _ _ rfl | exact Vw.ptr _ _ _ rfl | exact Vw.rpt _ _ | exact Vw.nilro _ | exact Vw.rowro _ _ _ _ rfl (by decide) | exact Vw.rowro2 rfl (by decide) (by with_unfolding_all exact rfl) | refine Vw.agg' ?_ | refine Vw.tup' ?_ | refine Vw.clo' ?_ | refine Vw.boxrpt' rfl (by decide) ?_ | exact Nat.le_of_ble_eq_true rfl | refine ⟨?_, ?_⟩ )))
      rw [htl, hY.2] at kO2
      have k2 := SnTwo_ac n (nl ns)
      have hc := chk_ok hn hv hok
      rw [if_pos hc, nl_map, Int.toNat_natCast, decide_eq_true hc, Bool.true_and, hc, hy] at k2
      have kS := SameOrder_ac n n (nl ns) (nl ns) (by rw [nl_len, hv.1]; omega)
      rw [decide_eq_true rfl, decide_eq_true rfl] at kS
      exact .inr ⟨_, _, _, _, kO, k1, kO2, k2, kS, ends_acW _ (endP_of hn hv hok (chain hv hok hy))⟩
    · exact .inl ⟨_, hz, SnOf_err l hl hz⟩
  clear chain
  refine AC.mk (n := 107) (fn := Tryd.f10) Tryd.func10 (by kernel_rfl) rfl rfl rfl rfl (fun cx => ?_); dsimp only [argv, Nat.reduceAdd]
  rcases hA with ⟨e1, he1, kO⟩ | ⟨n, O, T1, R1, kO, kS1, kO2, kT1, kE, kN1⟩ <;> rcases hB with ⟨e, he, kS, kT⟩ | ⟨T, R, kS, kT, kN⟩ | ⟨R, kS, kT⟩
  all_goals
    (repeat' (first | refine a_seq ?_ | refine a_block ?_ | refine a_skip ?_ | refine a_ret ?_ | refine a_exit ?_ | refine a_region ?_ | refine l_nil ?_ | (apply w_q; (focus (first | exact Q_move (by conv => lhs; whnf) | exact Q_assign (by conv => lhs; whnf) | exact Q_load_ptr rfl rfl rfl KSc.h | exact Q_load_all rfl rfl KAg.h | exact Q_eql rfl rfl | exact Q_eqlB rfl rfl KBo.h | exact Q_neq rfl rfl | exact Q_neqB rfl rfl KBo.h | exact Q_ld_rpa rfl KAg.h rfl rfl (by first | (dsimp only [List.drop_zero, List.drop_succ_cons, List.take_succ_cons, List.take_zero, List.map, ofD]; done) | exact rfl) | exact Q_ld_rv rfl rfl KSc.h | exact Q_ld_rs rfl rfl KSc.h | exact Q_ld_nats rfl (by omega) KSc.h | exact Q_ld_ints rfl (by omega) KSc.h | exact Q_ld_ownN rfl rfl (by omega) KSc.h | exact Q_ld_own rfl rfl (by omega) KSc.h | exact Q_ld_rows rfl (by omega) KSc.h | exact Q_ld_pair1N rfl (by omega) KSc.h | exact Q_ld_pair2N rfl (by omega) KSc.h | exact Q_ld_pair1 rfl (by omega) KSc.h | exact Q_ld_pair2 rfl (by omega) KSc.h | exact Q_ld_pairN rfl (by omega) KAg.h | exact Q_ld_pair rfl (by omega) KAg.h | exact Q_eqlP rfl rfl inferInstance | exact Q_neqP rfl rfl inferInstance | exact Q_ld_ord rfl (by omega) KAg.h | exact Q_ld_ownb rfl rfl (by omega) KSc.h | exact Q_extract rfl (by conv => lhs; whnf) | exact Q_extract_v rfl (by conv => lhs; whnf) | exact Q_not rfl | exact Q_pick_t rfl (by assumption) (by conv => lhs; whnf) | exact Q_pick_f rfl (by assumption) (by conv => lhs; whnf) | exact Q_pick_t rfl rfl (by conv => lhs; whnf) | exact Q_pick_f rfl rfl (by conv => lhs; whnf))); (focus exact rfl)) | (refine a_cond rfl ?_ ?_ <;> (intro h; (try (have hp := of_decide_eq_true h)); (try (have hp := of_decide_eq_false h)); (try contradiction); (try (exfalso; omega)))) | refine w_guard_u rfl rfl rfl ?_ | refine w_guard_y rfl rfl rfl (by first | assumption | rfl) ?_ | refine w_guard_n rfl rfl rfl (by first | assumption | rfl) ?_ | (refine w_guard rfl rfl rfl ?_ ?_ <;> (intro h; (try (have hp := of_decide_eq_true h)); (try (have hp := of_decide_eq_false h)); (try contradiction); (try (exfalso; omega)))) | refine w_box rfl rfl (by first|(dsimp only[obA,obB,obD,obE,obF,obG,obI,List.map,AO.sh,AV.sh,AV.shl,Nat.reduceAdd];done)|exact rfl) (by first|(dsimp only[obA,obB,obD,obE,obF,obG,obI,List.map,AO.sh,AV.sh,AV.shl,Nat.reduceAdd];done)|exact rfl) rfl ?_ | refine w_box1 (by conv => lhs; whnf) rfl rfl (by first|(dsimp only[obA,obB,obD,obE,obF,obG,obI,List.map,AO.sh,AV.sh,AV.shl,Nat.reduceAdd];done)|exact rfl) (by first|(dsimp only[obA,obB,obD,obE,obF,obG,obI,List.map,AO.sh,AV.sh,AV.shl,Nat.reduceAdd];done)|exact rfl) rfl ?_ | refine w_alloc KMk.h (by first|(dsimp only[obA,obB,obD,obE,obF,obG,obI,List.map,AO.sh,AV.sh,AV.shl,Nat.reduceAdd];done)|exact rfl) rfl (by first|(dsimp only[obA,obB,obD,obE,obF,obG,obI,List.map,AO.sh,AV.sh,AV.shl,Nat.reduceAdd];done)|exact rfl) (by first|(dsimp only[obA,obB,obD,obE,obF,obG,obI,List.map,AO.sh,AV.sh,AV.shl,Nat.reduceAdd];done)|exact rfl) rfl ?_ | refine w_store rfl rfl rfl (by conv => lhs; whnf) rfl KSz.h (by first|(dsimp only[obA,obB,obD,obE,obF,obG,obI,List.map,AO.sh,AV.sh,AV.shl,Nat.reduceAdd];done)|exact rfl) (by first|(dsimp only[obA,obB,obD,obE,obF,obG,obI,List.map,AO.sh,AV.sh,AV.shl,Nat.reduceAdd];done)|exact rfl) ?_ | refine w_store_all rfl rfl rfl rfl rfl KSz.h (by first|(dsimp only[obA,obB,obD,obE,obF,obG,obI,List.map,AO.sh,AV.sh,AV.shl,Nat.reduceAdd];done)|exact rfl) ?_ | refine w_st_nats rfl rfl rfl KSz.h (by omega) (by first|(dsimp only[obA,obB,obD,obE,obF,obG,obI,List.map,AO.sh,AV.sh,AV.shl,Nat.reduceAdd];done)|exact rfl) ?_ | refine w_st_ints rfl rfl rfl KSz.h (by omega) (by first|(dsimp only[obA,obB,obD,obE,obF,obG,obI,List.map,AO.sh,AV.sh,AV.shl,Nat.reduceAdd];done)|exact rfl) ?_ | refine w_st_bools rfl rfl rfl KSz.h (by omega) (by first|(dsimp only[obA,obB,obD,obE,obF,obG,obI,List.map,AO.sh,AV.sh,AV.shl,Nat.reduceAdd];done)|exact rfl) ?_ | ((refine w_callV (.inl ⟨rfl, rfl⟩) (kO) ?_ (by first | (dsimp only [AV.sh, AV.shl, sh_ints, sh_rows, sh_pairs, sh_ords]; done) | exact rfl) rfl ?_; rotate_left 0; (focus ((repeat' (first | exact trivial | exact Vs.val _ | exact Vs.ro _ | exact Vs.rpt _ _ | exact Vs.valro _ | exact Vs.nilro _ | exact Vs.any _ | refine Vs.agg' ?_ | refine Vs.tup' ?_ | refine Vs.clo' ?_ | refine ⟨?_, ?_⟩)); done)); rotate_left 1; all_goals (try (skip)))) | ((refine w_callV (.inl ⟨rfl, rfl⟩) (kS1) ?_ (by first | (dsimp only [AV.sh, AV.shl, sh_ints, sh_rows, sh_pairs, sh_ords]; done) | exact rfl) rfl ?_; rotate_left 0; (focus ((repeat' (first | exact trivial | exact Vs.val _ | exact Vs.ro _ | exact Vs.rpt _ _ | exact Vs.valro _ | exact Vs.nilro _ | exact Vs.any _ | refine Vs.agg' ?_ | refine Vs.tup' ?_ | refine Vs.clo' ?_ | refine ⟨?_, ?_⟩)); done)); rotate_left 1; all_goals (try (skip)))) | ((refine w_callV (.inl ⟨rfl, rfl⟩) (kO2) ?_ (by first | (dsimp only [AV.sh, AV.shl, sh_ints, sh_rows, sh_pairs, sh_ords]; done) | exact rfl) rfl ?_; rotate_left 0; (focus ((repeat' (first | exact trivial | exact Vs.val _ | exact Vs.ro _ | exact Vs.rpt _ _ | exact Vs.valro _ | exact Vs.nilro _ | exact Vs.any _ | refine Vs.agg' ?_ | refine Vs.tup' ?_ | refine Vs.clo' ?_ | refine ⟨?_, ?_⟩)); done)); rotate_left 1; all_goals (try (skip)))) | ((refine w_callV (.inl ⟨rfl, rfl⟩) (kT1) ?_ (by first | (dsimp only [AV.sh, AV.shl, sh_ints, sh_rows, sh_pairs, sh_ords]; done) | exact rfl) rfl ?_; rotate_left 0; (focus ((repeat' (first | exact trivial | exact Vs.val _ | exact Vs.ro _ | exact Vs.rpt _ _ | exact Vs.valro _ | exact Vs.nilro _ | exact Vs.any _ | refine Vs.agg' ?_ | refine Vs.tup' ?_ | refine Vs.clo' ?_ | refine ⟨?_, ?_⟩)); done)); rotate_left 1; all_goals (try (skip)))) | (((first | apply w_q | apply w_qq); (focus (refine Q_call (.inl ⟨rfl, rfl⟩) (kE) ?_; ((repeat' (first | exact trivial | exact vwR rfl | exact vwRL rfl | exact Vw.val _ | exact Vw.ro _ | exact Vw.any _ | exact Vw.valro _ | exact Vw.own _ _ rfl | exact Vw.ptr _ _ _ rfl | exact Vw.rpt _ _ | exact Vw.nilro _ | exact Vw.rowro _ _ _ _ rfl (by decide) | exact Vw.rowro2 rfl (by decide) (by with_unfolding_all exact rfl) | refine Vw.agg' ?_ | refine Vw.tup' ?_ | refine Vw.clo' ?_ | refine Vw.boxrpt' rfl (by decide) ?_ | exact Nat.le_of_ble_eq_true rfl | refine ⟨?_, ?_⟩ )); done))); (focus exact rfl))) | (((first | apply w_q | apply w_qq); (focus (refine Q_call (.inl ⟨rfl, rfl⟩) (kN1) ?_; ((repeat' (first | exact trivial | exact vwR rfl | exact vwRL rfl | exact Vw.val _ | exact Vw.ro _ | exact Vw.any _ | exact Vw.valro _ | exact Vw.own _ _ rfl | exact Vw.ptr _ _ _ rfl | exact Vw.rpt _ _ | exact Vw.nilro _ | exact Vw.rowro _ _ _ _ rfl (by decide) | exact Vw.rowro2 rfl (by decide) (by with_unfolding_all exact rfl) | refine Vw.agg' ?_ | refine Vw.tup' ?_ | refine Vw.clo' ?_ | refine Vw.boxrpt' rfl (by decide) ?_ | exact Nat.le_of_ble_eq_true rfl | refine ⟨?_, ?_⟩ )); done))); (focus exact rfl))) | ((refine w_callV (.inl ⟨rfl, rfl⟩) (kS) ?_ (by first | (dsimp only [AV.sh, AV.shl, sh_ints, sh_rows, sh_pairs, sh_ords]; done) | exact rfl) rfl ?_; rotate_left 0; (focus ((repeat' (first | exact trivial | exact Vs.val _ | exact Vs.ro _ | exact Vs.rpt _ _ | exact Vs.valro _ | exact Vs.nilro _ | exact Vs.any _ | refine Vs.agg' ?_ | refine Vs.tup' ?_ | refine Vs.clo' ?_ | refine ⟨?_, ?_⟩)); done)); rotate_left 1; all_goals (try (skip)))) | ((refine w_callV (.inl ⟨rfl, rfl⟩) (kT) ?_ (by first | (dsimp only [AV.sh, AV.shl, sh_ints, sh_rows, sh_pairs, sh_ords]; done) | exact rfl) rfl ?_; rotate_left 0; (focus ((repeat' (first | exact trivial | exact Vs.val _ | exact Vs.ro _ | exact Vs.rpt _ _ | exact Vs.valro _ | exact Vs.nilro _ | exact Vs.any _ | refine Vs.agg' ?_ | refine Vs.tup' ?_ | refine Vs.clo' ?_ | refine ⟨?_, ?_⟩)); done)); rotate_left 1; all_goals (try (skip)))) | (((first | apply w_q | apply w_qq); (focus (refine Q_call (.inl ⟨rfl, rfl⟩) (kN) ?_; ((repeat' (first | exact trivial | exact vwR rfl | exact vwRL rfl | exact Vw.val _ | exact Vw.ro _ | exact Vw.any _ | exact Vw.valro _ | exact Vw.own _ _ rfl | exact Vw.ptr _ _ _ rfl | exact Vw.rpt _ _ | exact Vw.nilro _ | exact Vw.rowro _ _ _ _ rfl (by decide) | exact Vw.rowro2 rfl (by decide) (by with_unfolding_all exact rfl) | refine Vw.agg' ?_ | refine Vw.tup' ?_ | refine Vw.clo' ?_ | refine Vw.boxrpt' rfl (by decide) ?_ | exact Nat.le_of_ble_eq_true rfl | refine ⟨?_, ?_⟩ )); done))); (focus exact rfl))) | (((first | apply w_q | apply w_qq); (focus (refine Q_call (.inl ⟨rfl, rfl⟩) (kv) ?_; ((repeat' (first | exact trivial | exact vwR rfl | exact vwRL rfl | exact Vw.val _ | exact Vw.ro _ | exact Vw.any _ | exact Vw.valro _ | exact Vw.own _ _ rfl | exact Vw.ptr _ _ _ rfl | exact Vw.rpt _ _ | exact Vw.nilro _ | exact Vw.rowro _ _ _ _ rfl (by decide) | exact Vw.rowro2 rfl (by decide) (by with_unfolding_all exact rfl) | refine Vw.agg' ?_ | refine Vw.tup' ?_ | refine Vw.clo' ?_ | refine Vw.boxrpt' rfl (by decide) ?_ | exact Nat.le_of_ble_eq_true rfl | refine ⟨?_, ?_⟩ )); done))); (focus exact rfl))))); (try all_goals (try show retA _ _ _ _ _ _ _))
    all_goals first
      | (exfalso; omega)
      | (refine ⟨[_], [], ⟨resV_tmp (by conv => lhs; whnf), trivial⟩, VwOs.mk (by decide) trivial, ?_, rfl⟩; (repeat' (first | exact trivial | exact vwR rfl | exact vwRL rfl | exact Vw.val _ | exact Vw.ro _ | exact Vw.any _ | exact Vw.valro _ | exact Vw.own _ _ rfl | exact Vw.ptr _ _ _ rfl | exact Vw.rpt _ _ | exact Vw.nilro _ | exact Vw.rowro _ _ _ _ rfl (by decide) | exact Vw.rowro2 rfl (by decide) (by with_unfolding_all exact rfl) | refine Vw.agg' ?_ | refine Vw.tup' ?_ | refine Vw.clo' ?_ | refine Vw.boxrpt' rfl (by decide) ?_ | exact Nat.le_of_ble_eq_true rfl | refine ⟨?_, ?_⟩ )); done)
      | (refine ⟨[_], [], ⟨resV_tmp (by conv => lhs; whnf), trivial⟩, VwOs.mk (by decide) trivial, ?_, rfl⟩; exact Vw.bool' (by simp); done)
      | (all_goals trace_state); fail
theorem knob_own : ownKnob Tryd.prog.godebug = none := by kernel_rfl
theorem laid_out : laidOutB Tryd.prog = true := by kernel_rfl
theorem door_met (os : Os) (args : Array Value) : laidMetH Tryd.prog tabL ((World.doorLaid Tryd.prog 19 os).forCall (fun _ _ => 0) ⟨#[], args, []⟩).memory :=
  laidMetH_of_parts3 (fuel := 8) (laidMet_of_run' 8 (by kernel_rfl) (by kernel_rfl)) (by kernel_rfl) (by kernel_rfl)
set_option maxRecDepth 100000 in
theorem SpanFishburn_lifted (os : Os) (started : os.Started) (H : Type) (enc : TypeId × Value → H) :
    ReturnsInHanded {} Tryd.checked os 10 .any (fun w args => (Rows.spanFishburnSpec.pre enc Tryd.prog Tryd.f10 Rows.spanFishburnRow.domain false w args ∧ laidMetH Tryd.prog tabL w) ∧ sizedMet enc Tryd.prog Tryd.f10 (OpenSpec.ofChange Rows.spanFishburnSpec) false w args) (Rows.spanFishburnSpec.post enc Tryd.prog Tryd.f10 false true false false) := by
  refine law_frameT (C := Tryd.checked) (laid := tabL) knob_own started (by kernel_rfl) Tryd.func10
    (ChangeSpec.witness_shaped (enc := enc) (C := Tryd.checked) (os := os) (X := fun w _ => laidMetH Tryd.prog tabL w) false (World.doorLaid Tryd.prog 19 os) #[.agg #[.int .i64 0, .slice none 0 0], .slice none 0 0] 8 rfl (World.shaped_of_RefB (by kernel_rfl) (by kernel_rfl)) (by kernel_rfl) (by kernel_rfl) (by kernel_rfl) (door_met os _))
    laid_out rfl Tryd.underlying4 (by kernel_rfl) rfl ?_ tab_laid ?_
  · intro ds h
    match ds, h with
    | [d0, d1], _ => rfl
  · intro W base args ds p hval hA
    obtain ⟨v0, v1, d0, d1, p0, p1, rfl, rfl, rfl, h0, h1⟩ := trodAll_two hA
    obtain ⟨N0, l0, u0, rfl, r0, a0, b0, c0⟩ := arg_order Tryd.underlying34 (by kernel_rfl) rfl rfl Tryd.underlying3 (by kernel_rfl) Tryd.underlying32 (by kernel_rfl) Tryd.underlying3 (by kernel_rfl) (hval 0 _ _ rfl rfl) h0
    obtain ⟨l1, r1, b1, c1⟩ := arg_pairs Tryd.underlying38 Tryd.underlying76 Tryd.underlying3 (by kernel_rfl) (by kernel_rfl) (hval 1 _ _ rfl rfl) h1
    exact ⟨[_, _], ⟨gm_order r0, gm_pairs r1, trivial⟩, SpanFishburn_ac N0 l0 l1 c0 (by have := c1; unfold big at this; omega)⟩
theorem SpanFishburn_row : Rows.SpanFishburnSaid :=
  OpenClaim.holds_of_wide 10 Tryd.f10 rfl rfl rfl rfl rfl rfl rfl ⟨rfl, rfl, rfl, rfl, rfl⟩ rfl rfl rfl rfl rfl (by kernel_rfl) Tryd.func10 (by kernel_rfl)
    (of_decide_eq_true (by kernel_rfl)) (by unfold Func.isWrapper; first | (rw [if_pos (by decide +kernel)]; kernel_rfl) | (rw [if_neg (by decide +kernel)]; exact ⟨rfl, rfl⟩))
    (fun os started H enc _ => SpanFishburn_lifted os started H enc)
theorem SpanFishburn_holds : Rows.SpanFishburnCardSaid :=
  Claim7.holds_tied_plain_at .later [] [.data, .data] true (true, "17fda6c531ee6f50f4d1dfdffc03f3dfb0c8a781cb14fa3d2f4dfecf0672066e") false
    SpanFishburn_row (fun _ h => by cases h) (by kernel_rfl) (fun _ h => by cases h) spanFishburn_row_tie rfl ⟨rfl, rfl⟩ (by kernel_rfl) rfl
    (fun f fn hf hfn => by
      obtain rfl : f = 10 := Option.some.inj ((show Tryd.prog.funcNamed "hasse/hasselaw.SpanFishburn" = some 10 by kernel_rfl).symm.trans hf) |>.symm
      obtain rfl : fn = Tryd.f10 := (Option.some.inj (Tryd.func10.symm.trans hfn)).symm
      exact ⟨by kernel_rfl, fun j t ht => by
        rw [Tryd.params10] at ht
        have hm : t ∈ [34, 38] := by simpa using Array.mem_of_getElem? ht
        have hall : ([34, 38].all fun u => !Tryd.prog.wantsStandIn u) = true := by kernel_rfl
        exact (show Tryd.prog.wantsStandIn t = false by simpa using List.all_eq_true.1 hall t hm)⟩)
    (by kernel_rfl)
end Go.Proofs.YtdkkalplgfhpdaaDoor
