/- The law OrderChecks: whatever the order that it is handed, it returns true, and the order reads as it did. -/
import Derived.Test.YtgkokahpgikckaaFh
import Derived.Test.YtgkokahpgikckaaEngS
namespace Go.Proofs.Ytgkokahpgikckaa
open Go.ChangeShapes Go.WideShapes Go.ChangeAt Go.RowKit
attribute [local irreducible] QOp aL aC qL
theorem OrderChecks_ac (N : Int) (l : List Int) : AC Try.prog 5 [.agg [.val (.int .i64 N), ints l]] [] (.val (.bool true)) [] := by
  refine AC.mk (n := 11) (fn := Try.f5) Try.func5 (by kernel_rfl) rfl rfl rfl rfl (fun cx => ?_); dsimp only [argv, Nat.reduceAdd]
  (repeat' (first | refine a_seq ?_ | refine a_block ?_ | refine a_skip ?_ | refine a_ret ?_ | refine a_exit ?_ | refine a_region ?_ | refine l_nil ?_ | refine q_nil ?_ | ((first | apply w_q | apply w_qq); (focus (first | exact Q_move (by conv => lhs; whnf) | exact Q_assign (by conv => lhs; whnf) | exact Q_load_ptr rfl rfl rfl KSc.h | exact Q_load_all rfl rfl KAg.h | exact Q_eql rfl rfl | exact Q_ld_nats rfl (by omega) KSc.h | exact Q_ld_ints rfl (by omega) KSc.h | exact Q_ld_ownN rfl rfl (by omega) KSc.h | exact Q_ld_own rfl rfl (by omega) KSc.h | exact Q_ld_rows rfl (by omega) KSc.h | exact Q_ld_pair1N rfl (by omega) KSc.h | exact Q_ld_pair2N rfl (by omega) KSc.h | exact Q_ld_pair1 rfl (by omega) KSc.h | exact Q_ld_pair2 rfl (by omega) KSc.h | exact Q_ld_pairN rfl (by omega) KAg.h | exact Q_ld_pair rfl (by omega) KAg.h | exact Q_ld_ord rfl (by omega) KAg.h | exact Q_ld_ownb rfl rfl (by omega) KSc.h | exact Q_pick_t rfl (by assumption) (by conv => lhs; whnf) | exact Q_pick_f rfl (by assumption) (by conv => lhs; whnf) | exact Q_pick_t rfl rfl (by conv => lhs; whnf) | exact Q_pick_f rfl rfl (by conv => lhs; whnf))); (focus exact rfl)) | refine w_guard_y rfl rfl rfl (by first | assumption | rfl) ?_ | refine w_guard_n rfl rfl rfl (by first | assumption | rfl) ?_ | refine w_qguard_y rfl rfl rfl (by first | assumption | rfl) ?_ | refine w_qguard_n rfl rfl rfl (by first | assumption | rfl) ?_ | ((first | refine w_guard rfl rfl rfl ?_ ?_ | refine w_qguard rfl rfl rfl ?_ ?_) <;> (intro h; (try (have hp := of_decide_eq_true h)); (try (have hp := of_decide_eq_false h)); (try contradiction); (try (exfalso; omega)))) | refine a_draw (by kernel_rfl) (by kernel_rfl) ?_ | refine w_box rfl rfl (by first | (dsimp only [List.cons_append, List.nil_append, List.append_nil, List.set_cons_zero, List.set_cons_succ, List.length_cons, List.length_nil, List.map, AO.sh, AV.sh, AV.shl, Nat.reduceAdd, Nat.zero_add, Nat.add_zero]; done) | exact rfl) (by first | (dsimp only [List.cons_append, List.nil_append, List.append_nil, List.set_cons_zero, List.set_cons_succ, List.length_cons, List.length_nil, List.map, AO.sh, AV.sh, AV.shl, Nat.reduceAdd, Nat.zero_add, Nat.add_zero]; done) | exact rfl) rfl ?_ | refine w_box1 (by conv => lhs; whnf) rfl rfl (by first | (dsimp only [List.cons_append, List.nil_append, List.append_nil, List.set_cons_zero, List.set_cons_succ, List.length_cons, List.length_nil, List.map, AO.sh, AV.sh, AV.shl, Nat.reduceAdd, Nat.zero_add, Nat.add_zero]; done) | exact rfl) (by first | (dsimp only [List.cons_append, List.nil_append, List.append_nil, List.set_cons_zero, List.set_cons_succ, List.length_cons, List.length_nil, List.map, AO.sh, AV.sh, AV.shl, Nat.reduceAdd, Nat.zero_add, Nat.add_zero]; done) | exact rfl) rfl ?_ | (((first | apply w_q | apply w_qq); (focus (refine Q_call (.inl ⟨rfl, rfl⟩) (begun_ac) ?_; (repeat' (first | exact trivial | exact Vw.val _ | exact Vw.ro _ | exact Vw.any _ | exact Vw.valro _ | exact Vw.own _ _ rfl | exact Vw.ptr _ _ _ rfl | exact Vw.rpt _ _ | exact Vw.nilro _ | exact Vw.rowro _ _ _ _ rfl (by decide) | exact Vw.rowro2 rfl (by decide) (by with_unfolding_all exact rfl) | refine Vw.agg' ?_ | refine Vw.tup' ?_ | refine Vw.clo' ?_ | refine ⟨?_, ?_⟩ )))); (focus exact rfl))) | (((first | apply w_q | apply w_qq); (focus (refine Q_call (.inl ⟨rfl, rfl⟩) (Check_ac ?_ ?_) ?_; rotate_left 2; (focus (repeat' (first | exact trivial | exact Vw.val _ | exact Vw.ro _ | exact Vw.any _ | exact Vw.valro _ | exact Vw.own _ _ rfl | exact Vw.ptr _ _ _ rfl | exact Vw.rpt _ _ | exact Vw.nilro _ | exact Vw.rowro _ _ _ _ rfl (by decide) | exact Vw.rowro2 rfl (by decide) (by with_unfolding_all exact rfl) | refine Vw.agg' ?_ | refine Vw.tup' ?_ | refine Vw.clo' ?_ | refine ⟨?_, ?_⟩ ))); all_goals (skip))); (focus exact rfl))) | (((first | apply w_q | apply w_qq); (focus (refine Q_call (.inl ⟨rfl, rfl⟩) (CheckOrder_ac ?_ ?_) ?_; rotate_left 2; (focus (repeat' (first | exact trivial | exact Vw.val _ | exact Vw.ro _ | exact Vw.any _ | exact Vw.valro _ | exact Vw.own _ _ rfl | exact Vw.ptr _ _ _ rfl | exact Vw.rpt _ _ | exact Vw.nilro _ | exact Vw.rowro _ _ _ _ rfl (by decide) | exact Vw.rowro2 rfl (by decide) (by with_unfolding_all exact rfl) | refine Vw.agg' ?_ | refine Vw.tup' ?_ | refine Vw.clo' ?_ | refine ⟨?_, ?_⟩ ))); all_goals (skip))); (focus exact rfl))))); (try all_goals (try show retA _ _ _ _ _ _ _))
  refine ⟨[_], [], ⟨resV_tmp (by conv => lhs; whnf), trivial⟩, VwOs.mk (by decide) trivial, ?_, rfl⟩
  exact Vw.bool' (by simp)

theorem knob_own : ownKnob Try.prog.godebug = none := by kernel_rfl
theorem laid_out : laidOutB Try.prog = true := by kernel_rfl

set_option maxRecDepth 100000 in
theorem OrderChecks_lifted (os : Os) (started : os.Started) (H : Type) (enc : TypeId × Value → H) :
    ReturnsInHanded {} Try.checked os 5 .any (Rows.orderChecksSpec.pre6 enc Try.prog Try.f5 Rows.orderChecksRow.domain false) (Rows.orderChecksSpec.post enc Try.prog Try.f5 false true false false) := by
  refine law_frame (C := Try.checked) knob_own started (by kernel_rfl) Try.func5
    (ChangeSpec.witness6 (enc := enc) (C := Try.checked) false ⟨#[], #[.agg #[.int .i64 0, .slice none 0 0]], []⟩ 8 (by kernel_rfl) (by kernel_rfl) (by kernel_rfl) (by kernel_rfl))
    laid_out rfl Try.underlying4 (by kernel_rfl) rfl ?_ ?_
  · intro ds h
    match ds, h with
    | [d], _ => rfl
  · intro W base args ds p hval hA
    obtain ⟨v0, d0, rfl, rfl, h0⟩ := trodAll_one hA
    obtain ⟨N, l, u, rfl, h1, h2, h3, h4⟩ := arg_order Try.underlying24 (by kernel_rfl) rfl rfl Try.underlying3 (by kernel_rfl) Try.underlying22 (by kernel_rfl) Try.underlying3 (by kernel_rfl) (hval 0 _ _ rfl rfl) h0
    exact ⟨[_], ⟨gm_order h1, trivial⟩, OrderChecks_ac N l⟩

theorem OrderChecks_holds : Rows.OrderChecksSaid :=
  OpenClaim.holds_of_wide 5 Try.f5 rfl rfl rfl rfl rfl rfl rfl ⟨rfl, rfl, rfl, rfl, rfl⟩ rfl rfl rfl rfl rfl (by kernel_rfl) Try.func5 (by kernel_rfl)
    (of_decide_eq_true (by kernel_rfl)) (by unfold Func.isWrapper; first | (rw [if_pos (by decide +kernel)]; kernel_rfl) | (rw [if_neg (by decide +kernel)]; exact ⟨rfl, rfl⟩))
    (fun os started H enc _ => OrderChecks_lifted os started H enc)
end Go.Proofs.Ytgkokahpgikckaa
