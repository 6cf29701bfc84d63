import Derived.Test.YtdbngpkbamhbeaaCo
import Derived.Test.YtdbngpkbamhbeaaCzc
import Derived.Test.YtdbngpkbamhbeaaVo
import Derived.Test.YtdbngpkbamhbeaaIt
import Derived.Test.YtdbngpkbamhbeaaEngR
set_option linter.unusedSimpArgs false
set_option linter.unusedVariables false
set_option linter.unusedSectionVars false
set_option maxRecDepth 20000
namespace Go.Proofs.Ytdbngpkbamhbeaa
open Go.ChangeShapes Go.WideShapes Go.ChangeAt Go.RowKit
attribute [local irreducible] QOp aL aC qL
set_option maxRecDepth 20000 in
set_option maxHeartbeats 4000000 in
theorem QuotientAll_ac (N : Int) (m w : List (List Int)) (hm : FinQ m) (hw : FinQ w) : AC Try.prog 7 [latA N m w] [] (.val (.bool true)) [] := by
  have kv := qbegun_ac
  have k1 := CheckLattice_ac N m w hm.len hw.len hm.row hw.row
  have main : ∃ (e v : Int) (L W : List (List Int)) (c b : Bool), AC Try.prog 34 [latA N m w] [] (.val (.int .i64 e)) [] ∧ AC Try.prog 32 [latA N m w] [] (.tup [rows L, .val (.int .i64 v)]) [] ∧
      AC Try.prog 33 [latA N m w] [] (.tup [.val (.bool c), .val (.int .i64 e)]) [] ∧ (e = 0 → AC Try.prog 35 [latA N m w] [] (.tup [rows W, .val (.bool b)]) []) ∧ L.length ≤ 9223372036854775807 ∧ (∀ r ∈ L, r.length ≤ 9223372036854775807) ∧
      ((e = 0 ∧ b = true ∧ v = 0 ∧ L = W ∧ c = decide ((W.length : Int) = 2)) ∨ (e = 0 ∧ b = false ∧ v = 2 ∧ L = [] ∧ W = [] ∧ c = false) ∨ (e ≠ 0 ∧ v = e ∧ L = [] ∧ c = false)) := by
    by_cases hz : lck N m w = 0
    · obtain ⟨n, M, J, rfl, rfl, rfl, a1, a2, a3, a4, a5⟩ := lck_zero hz
      have hL : La n M J := ⟨a1, a2, a3, a4, lt_of a3 a4 a5⟩
      have k2 := AllQ_ok n M J hL
      have k3 := SimpleQ_ok n M J hL
      have k4 := Congruences_ac n M J hL
      rw [hz] at k1
      have hrl : ∀ r ∈ tn (conL n (ta M) (ta J)), r.length ≤ 9223372036854775807 := by
        intro r hr
        unfold tn at hr
        obtain ⟨c, hc, rfl⟩ := List.mem_map.1 hr
        have h1 := (conL_mem.1 hc).len
        have h2 := hL.n2
        rw [nl_len]
        omega
      have hl := tn_len (conL n (ta M) (ta J))
      by_cases hd : (conL n (ta M) (ta J)).length ≤ 40
      · rw [decide_eq_true hd] at k2 k4
        simp only [cond_true] at k2 k4
        exact ⟨_, _, _, _, _, _, k1, k2, k3, fun _ => k4, by omega, hrl, .inl ⟨rfl, rfl, rfl, rfl, decide_eq_decide.2 (by omega)⟩⟩
      · rw [decide_eq_false hd] at k2 k4
        rw [decide_eq_false (by omega : ¬ (conL n (ta M) (ta J)).length = 2)] at k3
        simp only [cond_false] at k2 k4
        exact ⟨_, _, _, _, _, _, k1, k2, k3, fun _ => k4, by simp, by simp, .inr (.inl ⟨rfl, rfl, rfl, rfl, rfl, rfl⟩)⟩
    · exact ⟨_, _, _, [], _, false, k1, AllQ_err N m w hm hw hz, SimpleQ_err N m w hm hw hz, fun h => absurd h hz, by simp, by simp, .inr (.inr ⟨hz, rfl, rfl, rfl⟩)⟩
  clear k1
  obtain ⟨e, v, L, W, c, b, k1, k2, k3, k4, hl, hrl, hc⟩ := main
  have kL := listsAre_ac L L v v hl hrl
  rw [show lstA L L v v = true by unfold lstA; rcases hc with ⟨_, _, rfl, rfl, _⟩ | ⟨_, _, rfl, rfl, _⟩ | ⟨h, rfl, rfl, _⟩ <;> simp] at kL
  have kT := truthT_ac c c e e
  rw [show (decide (e = e) && (c == (c && decide (e = 0)))) = true by rcases hc with ⟨rfl, _⟩ | ⟨rfl, _⟩ | ⟨h, _, _, rfl⟩ <;> simp] at kT
  rcases hc with ⟨rfl, rfl, rfl, rfl, rfl⟩ | ⟨rfl, rfl, rfl, rfl, rfl, rfl⟩ | ⟨h, rfl, rfl, rfl⟩
  all_goals
    (try have k4 := k4 rfl)
    refine AC.mk (n := 52) (fn := Try.f7) Try.func7 (by kernel_rfl) rfl rfl rfl rfl (fun cx => ?_); dsimp only [argv, Nat.reduceAdd]
    (repeat' (first | refine a_seq ?_ | refine a_block ?_ | refine a_skip ?_ | refine a_ret ?_ | refine a_exit ?_ | refine a_region ?_ | refine l_nil ?_ | (apply w_q; (focus (first | exact Q_move (by conv => lhs; whnf) | exact Q_assign (by conv => lhs; whnf) | exact Q_load_ptr rfl rfl rfl KSc.h | exact Q_load_all rfl rfl KAg.h | exact Q_eql rfl rfl | exact Q_eqlB rfl rfl KBo.h | exact Q_ld_rpa rfl KAg.h rfl rfl (by first | (dsimp only [List.drop_zero, List.drop_succ_cons, List.take_succ_cons, List.take_zero, List.map, ofD]; done) | exact rfl) | exact Q_ld_rv rfl rfl KSc.h | exact Q_ld_rs rfl rfl KSc.h | exact Q_ld_nats rfl (by omega) KSc.h | exact Q_ld_ints rfl (by omega) KSc.h | exact Q_ld_ownN rfl rfl (by omega) KSc.h | exact Q_ld_own rfl rfl (by omega) KSc.h | exact Q_ld_rows rfl (by omega) KSc.h | exact Q_ld_pair1N rfl (by omega) KSc.h | exact Q_ld_pair2N rfl (by omega) KSc.h | exact Q_ld_pair1 rfl (by omega) KSc.h | exact Q_ld_pair2 rfl (by omega) KSc.h | exact Q_ld_pairN rfl (by omega) KAg.h | exact Q_ld_pair rfl (by omega) KAg.h | exact Q_eqlP rfl rfl inferInstance | exact Q_ld_ord rfl (by omega) KAg.h | exact Q_ld_ownb rfl rfl (by omega) KSc.h | exact Q_len_nats rfl KSl.h | exact Q_len_ints rfl KSl.h | exact Q_len_ownN rfl rfl KSl.h | exact Q_len_own' rfl rfl KSl.h | exact Q_len_rows rfl KSl.h | exact Q_len_pairsN rfl KSl.h | exact Q_len_pairs rfl KSl.h | exact Q_len_ords rfl KSl.h | exact Q_len_nil' rfl KSl.h | exact Q_len_ownp rfl rfl KSl.h | exact Q_extract rfl (by conv => lhs; whnf) | exact Q_extract_v rfl (by conv => lhs; whnf) | exact Q_not rfl | exact Q_pick_t rfl (by assumption) (by conv => lhs; whnf) | exact Q_pick_f rfl (by assumption) (by conv => lhs; whnf) | exact Q_pick_t rfl rfl (by conv => lhs; whnf) | exact Q_pick_f rfl rfl (by conv => lhs; whnf))); (focus exact rfl)) | (refine a_cond rfl ?_ ?_ <;> (intro h; (try (have hp := of_decide_eq_true h)); (try (have hp := of_decide_eq_false h)); (try contradiction); (try (exfalso; omega)))) | refine w_guard_u rfl rfl rfl ?_ | refine w_guard_y rfl rfl rfl (by first | assumption | rfl) ?_ | refine w_guard_n rfl rfl rfl (by first | assumption | rfl) ?_ | (refine w_guard rfl rfl rfl ?_ ?_ <;> (intro h; (try (have hp := of_decide_eq_true h)); (try (have hp := of_decide_eq_false h)); (try contradiction); (try (exfalso; omega)))) | refine w_box rfl rfl (by first|(dsimp only[obA,obB,obD,obE,obF,obG,obI,List.map,AO.sh,AV.sh,AV.shl,Nat.reduceAdd];done)|exact rfl) (by first|(dsimp only[obA,obB,obD,obE,obF,obG,obI,List.map,AO.sh,AV.sh,AV.shl,Nat.reduceAdd];done)|exact rfl) rfl ?_ | refine w_box1 (by conv => lhs; whnf) rfl rfl (by first|(dsimp only[obA,obB,obD,obE,obF,obG,obI,List.map,AO.sh,AV.sh,AV.shl,Nat.reduceAdd];done)|exact rfl) (by first|(dsimp only[obA,obB,obD,obE,obF,obG,obI,List.map,AO.sh,AV.sh,AV.shl,Nat.reduceAdd];done)|exact rfl) rfl ?_ | (((first | apply w_q | apply w_qq); (focus (refine Q_call (.inl ⟨rfl, rfl⟩) (kv) ?_; ((repeat' (first | exact trivial | exact vwR rfl | exact vwRL rfl | exact Vw.val _ | exact Vw.ro _ | exact Vw.any _ | exact Vw.valro _ | exact Vw.own _ _ rfl | exact Vw.ptr _ _ _ rfl | exact Vw.rpt _ _ | exact Vw.nilro _ | exact Vw.rowro _ _ _ _ rfl (by decide) | exact Vw.rowro2 rfl (by decide) (by with_unfolding_all exact rfl) | refine Vw.agg' ?_ | refine Vw.tup' ?_ | refine Vw.clo' ?_ | refine Vw.boxrpt' rfl (by decide) ?_ | exact Nat.le_of_ble_eq_true rfl | refine ⟨?_, ?_⟩ )); done))); (focus exact rfl))) | (((first | apply w_q | apply w_qq); (focus (refine Q_call (.inl ⟨rfl, rfl⟩) (k1) ?_; ((repeat' (first | exact trivial | exact vwR rfl | exact vwRL rfl | exact Vw.val _ | exact Vw.ro _ | exact Vw.any _ | exact Vw.valro _ | exact Vw.own _ _ rfl | exact Vw.ptr _ _ _ rfl | exact Vw.rpt _ _ | exact Vw.nilro _ | exact Vw.rowro _ _ _ _ rfl (by decide) | exact Vw.rowro2 rfl (by decide) (by with_unfolding_all exact rfl) | refine Vw.agg' ?_ | refine Vw.tup' ?_ | refine Vw.clo' ?_ | refine Vw.boxrpt' rfl (by decide) ?_ | exact Nat.le_of_ble_eq_true rfl | refine ⟨?_, ?_⟩ )); done))); (focus exact rfl))) | ((refine w_callV (.inl ⟨rfl, rfl⟩) (k2) ?_ (by first | (dsimp only [AV.sh, AV.shl, sh_ints, sh_rows, sh_pairs, sh_ords]; done) | exact rfl) rfl ?_; rotate_left 0; (focus ((repeat' (first | exact trivial | exact Vs.val _ | exact Vs.ro _ | exact Vs.rpt _ _ | exact Vs.valro _ | exact Vs.nilro _ | exact Vs.any _ | refine Vs.agg' ?_ | refine Vs.tup' ?_ | refine Vs.clo' ?_ | refine ⟨?_, ?_⟩)); done)); rotate_left 1; all_goals (try (skip)))) | ((refine w_callV (.inl ⟨rfl, rfl⟩) (k3) ?_ (by first | (dsimp only [AV.sh, AV.shl, sh_ints, sh_rows, sh_pairs, sh_ords]; done) | exact rfl) rfl ?_; rotate_left 0; (focus ((repeat' (first | exact trivial | exact Vs.val _ | exact Vs.ro _ | exact Vs.rpt _ _ | exact Vs.valro _ | exact Vs.nilro _ | exact Vs.any _ | refine Vs.agg' ?_ | refine Vs.tup' ?_ | refine Vs.clo' ?_ | refine ⟨?_, ?_⟩)); done)); rotate_left 1; all_goals (try (skip)))) | ((refine w_callV (.inl ⟨rfl, rfl⟩) (k4) ?_ (by first | (dsimp only [AV.sh, AV.shl, sh_ints, sh_rows, sh_pairs, sh_ords]; done) | exact rfl) rfl ?_; rotate_left 0; (focus ((repeat' (first | exact trivial | exact Vs.val _ | exact Vs.ro _ | exact Vs.rpt _ _ | exact Vs.valro _ | exact Vs.nilro _ | exact Vs.any _ | refine Vs.agg' ?_ | refine Vs.tup' ?_ | refine Vs.clo' ?_ | refine ⟨?_, ?_⟩)); done)); rotate_left 1; all_goals (try (skip)))) | (((first | apply w_q | apply w_qq); (focus (refine Q_call (.inl ⟨rfl, rfl⟩) (kL) ?_; ((repeat' (first | exact trivial | exact vwR rfl | exact vwRL rfl | exact Vw.val _ | exact Vw.ro _ | exact Vw.any _ | exact Vw.valro _ | exact Vw.own _ _ rfl | exact Vw.ptr _ _ _ rfl | exact Vw.rpt _ _ | exact Vw.nilro _ | exact Vw.rowro _ _ _ _ rfl (by decide) | exact Vw.rowro2 rfl (by decide) (by with_unfolding_all exact rfl) | refine Vw.agg' ?_ | refine Vw.tup' ?_ | refine Vw.clo' ?_ | refine Vw.boxrpt' rfl (by decide) ?_ | exact Nat.le_of_ble_eq_true rfl | refine ⟨?_, ?_⟩ )); done))); (focus exact rfl))) | (((first | apply w_q | apply w_qq); (focus (refine Q_call (.inl ⟨rfl, rfl⟩) (kT) ?_; ((repeat' (first | exact trivial | exact vwR rfl | exact vwRL rfl | exact Vw.val _ | exact Vw.ro _ | exact Vw.any _ | exact Vw.valro _ | exact Vw.own _ _ rfl | exact Vw.ptr _ _ _ rfl | exact Vw.rpt _ _ | exact Vw.nilro _ | exact Vw.rowro _ _ _ _ rfl (by decide) | exact Vw.rowro2 rfl (by decide) (by with_unfolding_all exact rfl) | refine Vw.agg' ?_ | refine Vw.tup' ?_ | refine Vw.clo' ?_ | refine Vw.boxrpt' rfl (by decide) ?_ | exact Nat.le_of_ble_eq_true rfl | refine ⟨?_, ?_⟩ )); done))); (focus exact rfl))))); (try all_goals (try show retA _ _ _ _ _ _ _))
    all_goals first
      | (exfalso; omega)
      | (exfalso; simp at *; done)
      | (refine ⟨[_], [], ⟨resV_tmp (by conv => lhs; whnf), trivial⟩, VwOs.mk (by decide) trivial, ?_, rfl⟩; (repeat' (first | exact trivial | exact vwR rfl | exact vwRL rfl | exact Vw.val _ | exact Vw.ro _ | exact Vw.any _ | exact Vw.valro _ | exact Vw.own _ _ rfl | exact Vw.ptr _ _ _ rfl | exact Vw.rpt _ _ | exact Vw.nilro _ | exact Vw.rowro _ _ _ _ rfl (by decide) | exact Vw.rowro2 rfl (by decide) (by with_unfolding_all exact rfl) | refine Vw.agg' ?_ | refine Vw.tup' ?_ | refine Vw.clo' ?_ | refine Vw.boxrpt' rfl (by decide) ?_ | exact Nat.le_of_ble_eq_true rfl | refine ⟨?_, ?_⟩ )); done)
      | (all_goals trace_state); fail
theorem QuotientAll_knob : ownKnob Try.prog.godebug = none := by kernel_rfl
theorem QuotientAll_laid : laidOutB Try.prog = true := by kernel_rfl
set_option maxRecDepth 100000 in
theorem QuotientAll_lifted (os : Os) (started : os.Started) (H : Type) (enc : TypeId × Value → H) :
    ReturnsInHanded {} Try.checked os 7 .any (Rows.quotientAllSpec.pre6 enc Try.prog Try.f7 Rows.quotientAllRow.domain false) (Rows.quotientAllSpec.post enc Try.prog Try.f7 false true false false) := by
  refine law_frame (C := Try.checked) QuotientAll_knob started (by kernel_rfl) Try.func7
    (ChangeSpec.witness6 (enc := enc) (C := Try.checked) false ⟨#[], #[.agg #[.int .i64 0, .slice none 0 0, .slice none 0 0]], []⟩ 8 (by kernel_rfl) (by kernel_rfl) (by kernel_rfl) (by kernel_rfl))
    QuotientAll_laid rfl Try.underlying4 (by kernel_rfl) rfl ?_ ?_
  · intro ds h
    match ds, h with
    | [d0], _ => rfl
  · intro W base args ds p hval hA
    obtain ⟨v0, d0, rfl, rfl, h0⟩ := trodAll_one hA
    obtain ⟨N0, m0, j0, u0, s0, rfl, r0, q0, a0, b0, c0⟩ := arg_lat Try.underlying52 (by kernel_rfl) rfl rfl rfl Try.underlying3 (by kernel_rfl) Try.underlying44 (by kernel_rfl) Try.underlying44 (by kernel_rfl) Try.underlying32 Try.underlying3 (by kernel_rfl) (by kernel_rfl) (hval 0 _ _ rfl rfl) h0
    exact ⟨[_], ⟨gm_lat r0 q0, trivial⟩, QuotientAll_ac N0 m0 j0 (finq_big b0) (finq_big c0)⟩
theorem QuotientAll_holds : Rows.QuotientAllSaid :=
  OpenClaim.holds_of_wide 7 Try.f7 rfl rfl rfl rfl rfl rfl rfl ⟨rfl, rfl, rfl, rfl, rfl⟩ rfl rfl rfl rfl rfl (by kernel_rfl) Try.func7 (by kernel_rfl)
    (of_decide_eq_true (by kernel_rfl)) (by unfold Func.isWrapper; first | (rw [if_pos (by decide +kernel)]; kernel_rfl) | (rw [if_neg (by decide +kernel)]; exact ⟨rfl, rfl⟩))
    (fun os started H enc _ => QuotientAll_lifted os started H enc)
end Go.Proofs.Ytdbngpkbamhbeaa
