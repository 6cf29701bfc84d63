import Derived.Test.YtbgecpjlopdkfaaDoorSrr
import Derived.Test.YtbgecpjlopdkfaaDoorSrn
import Derived.Test.YtbgecpjlopdkfaaDoorFi
import Derived.Test.YtbgecpjlopdkfaaDoorFg
import Derived.Test.YtbgecpjlopdkfaaDoorFhb
import Derived.Test.YtbgecpjlopdkfaaDoorFkb
import Derived.Test.YtbgecpjlopdkfaaDoorEngT
import Derived.Test.YtbgecpjlopdkfaaDoorTabs
set_option linter.unusedSimpArgs false
set_option linter.unusedVariables false
set_option linter.unusedSectionVars false
set_option maxRecDepth 20000
namespace Go.Proofs.YtbgecpjlopdkfaaDoor
open Go.ChangeShapes Go.WideShapes Go.ChangeAt Go.RowKit
attribute [local irreducible] QOp aL aC qL
theorem SeriesZigs_ac (N : Int) (l : List Int) : AC Tryd.prog 3 [.agg [.val (.int .i64 N), ints l]] [] (.val (.bool true)) [] := by
  have kb := srbegun_ac
  by_cases h : chk N l = 0
  · obtain ⟨n, ns, rfl, rfl, hn, hv, hok⟩ := chk_zero h
    have k1 := Zig_ok n ns hn hv hok
    have k2 := ZigOf_ac n ns hn hv
    rw [(zig_eq hok).1, (zig_eq hok).2] at k1
    have hb : (nl (qdR n (zqQ ns))).length ≤ 9223372036854775807 := by
      rw [nl_len]
      unfold qdR
      split
      · show 4 ≤ _; decide
      · show 0 ≤ _; decide
    generalize nl (qdR n (zqQ ns)) = R at *
    generalize qdY n (zqQ ns) = Y at *
    refine AC.mk (n := 37) (fn := Tryd.f3) Tryd.func3 (by kernel_rfl) rfl rfl rfl rfl (fun cx => ?_); dsimp only [argv, Nat.reduceAdd]
    (repeat' (first | refine a_seq ?_ | refine a_ret ?_ | refine a_region ?_ | refine l_nil ?_ | (apply w_q; (focus (first | exact Q_move (by conv => lhs; whnf) | exact Q_assign (by conv => lhs; whnf) | exact Q_load_all rfl rfl KAg.h | exact Q_eql rfl rfl | exact Q_eqlB rfl rfl KBo.h | exact Q_extract rfl (by conv => lhs; whnf) | exact Q_pick_t rfl (by assumption) (by conv => lhs; whnf) | exact Q_pick_f rfl (by assumption) (by conv => lhs; whnf) | exact Q_pick_t rfl rfl (by conv => lhs; whnf))); (focus exact rfl)) | (refine a_cond rfl ?_ ?_ <;> (intro h; (try (have hp := of_decide_eq_true h)); (try (have hp := of_decide_eq_false h)); (try contradiction); (try (exfalso; omega)))) | refine w_guard_y rfl rfl rfl (by first | assumption | rfl) ?_ | refine w_guard_n rfl rfl rfl (by first | assumption | rfl) ?_ | (refine w_guard rfl rfl rfl ?_ ?_ <;> (intro h; (try (have hp := of_decide_eq_true h)); (try (have hp := of_decide_eq_false h)); (try contradiction); (try (exfalso; omega)))) | refine w_box rfl rfl (by first|(dsimp only[obA,obB,obD,obE,obF,obG,obI,List.map,AO.sh,AV.sh,AV.shl,Nat.reduceAdd];done)|exact rfl) (by first|(dsimp only[obA,obB,obD,obE,obF,obG,obI,List.map,AO.sh,AV.sh,AV.shl,Nat.reduceAdd];done)|exact rfl) rfl ?_ | ((refine w_callV (.inl ⟨rfl, rfl⟩) (k1) ?_ (by first | (dsimp only [AV.sh, AV.shl, sh_ints, sh_rows, sh_pairs, sh_ords]; done) | exact rfl) rfl ?_; rotate_left 0; (focus ((repeat' (first | exact trivial | exact Vs.val _ | exact Vs.ro _ | refine Vs.agg' ?_ | refine ⟨?_, ?_⟩)); done)); rotate_left 1; all_goals (try (skip)))) | (((first | apply w_q); (focus (refine Q_call (.inl ⟨rfl, rfl⟩) (CheckOrder_ac ?_ ?_) ?_; rotate_left 2; (focus ((repeat' (first | exact trivial | exact Vw.val _ | exact Vw.ro _ | refine Vw.agg' ?_ | refine ⟨?_, ?_⟩ )); done)); all_goals (skip))); (focus exact rfl))) | ((refine w_callV (.inl ⟨rfl, rfl⟩) (k2) ?_ (by first | (dsimp only [AV.sh, AV.shl, sh_ints, sh_rows, sh_pairs, sh_ords]; done) | exact rfl) rfl ?_; rotate_left 0; (focus ((repeat' (first | exact trivial | exact Vs.val _ | exact Vs.ro _ | refine Vs.agg' ?_ | refine ⟨?_, ?_⟩)); done)); rotate_left 1; all_goals (try (skip)))) | (((first | apply w_q); (focus (refine Q_call (.inl ⟨rfl, rfl⟩) (kb) ?_; ((repeat' (first | exact trivial)); done))); (focus exact rfl))) | (((first | apply w_q); (focus (refine Q_call (.inl ⟨rfl, rfl⟩) (numbersAre_ac R R ?_ ?_ hb) ?_; rotate_left 2; (focus ((repeat' (first | exact trivial | exact Vw.val _ | exact Vw.ro _ | refine ⟨?_, ?_⟩ )); done)); all_goals (skip))); (focus exact rfl))))); (try all_goals (try show retA _ _ _ _ _ _ _))
    all_goals first
      | (exfalso; simp_all; done)
      | (refine ⟨[_], [], ⟨resV_tmp (by conv => lhs; whnf), trivial⟩, VwOs.mk (by decide) trivial, ?_, rfl⟩; exact Vw.bool' (by simp [h]))
      | (all_goals trace_state); fail
  · have k1 := Zig_err N l h
    refine AC.mk (n := 37) (fn := Tryd.f3) Tryd.func3 (by kernel_rfl) rfl rfl rfl rfl (fun cx => ?_); dsimp only [argv, Nat.reduceAdd]
    (repeat' (first | refine a_seq ?_ | refine a_skip ?_ | refine a_ret ?_ | refine a_region ?_ | refine l_nil ?_ | (apply w_q; (focus (first | exact Q_move (by conv => lhs; whnf) | exact Q_assign (by conv => lhs; whnf) | exact Q_load_all rfl rfl KAg.h | exact Q_eql rfl rfl | exact Q_eqlB rfl rfl KBo.h | exact Q_extract rfl (by conv => lhs; whnf) | exact Q_pick_t rfl (by assumption) (by conv => lhs; whnf) | exact Q_pick_f rfl (by assumption) (by conv => lhs; whnf) | exact Q_pick_t rfl rfl (by conv => lhs; whnf))); (focus exact rfl)) | (refine a_cond rfl ?_ ?_ <;> (intro h; (try (have hp := of_decide_eq_true h)); (try (have hp := of_decide_eq_false h)); (try contradiction); (try (exfalso; omega)))) | refine w_guard_y rfl rfl rfl (by first | assumption | rfl) ?_ | refine w_guard_n rfl rfl rfl (by first | assumption | rfl) ?_ | (refine w_guard rfl rfl rfl ?_ ?_ <;> (intro h; (try (have hp := of_decide_eq_true h)); (try (have hp := of_decide_eq_false h)); (try contradiction); (try (exfalso; omega)))) | refine w_box rfl rfl (by first|(dsimp only[obA,obB,obD,obE,obF,obG,obI,List.map,AO.sh,AV.sh,AV.shl,Nat.reduceAdd];done)|exact rfl) (by first|(dsimp only[obA,obB,obD,obE,obF,obG,obI,List.map,AO.sh,AV.sh,AV.shl,Nat.reduceAdd];done)|exact rfl) rfl ?_ | ((refine w_callV (.inl ⟨rfl, rfl⟩) (k1) ?_ (by first | (dsimp only [AV.sh, AV.shl, sh_ints, sh_rows, sh_pairs, sh_ords]; done) | exact rfl) rfl ?_; rotate_left 0; (focus ((repeat' (first | exact trivial | exact Vs.val _ | exact Vs.ro _ | refine Vs.agg' ?_ | refine ⟨?_, ?_⟩)); done)); rotate_left 1; all_goals (try (skip)))) | (((first | apply w_q); (focus (refine Q_call (.inl ⟨rfl, rfl⟩) (CheckOrder_ac ?_ ?_) ?_; rotate_left 2; (focus ((repeat' (first | exact trivial | exact Vw.val _ | exact Vw.ro _ | refine Vw.agg' ?_ | refine ⟨?_, ?_⟩ )); done)); all_goals (skip))); (focus exact rfl))) | (((first | apply w_q); (focus (refine Q_call (.inl ⟨rfl, rfl⟩) (kb) ?_; ((repeat' (first | exact trivial)); done))); (focus exact rfl))) | (((first | apply w_q); (focus (refine Q_call (.inl ⟨rfl, rfl⟩) (numbersAre_ac [] [] ?_ ?_ (by decide)) ?_; rotate_left 2; (focus ((repeat' (first | exact trivial | exact Vw.val _ | exact Vw.nilro _ | refine ⟨?_, ?_⟩ )); done)); all_goals (skip))); (focus exact rfl))))); (try all_goals (try show retA _ _ _ _ _ _ _))
    all_goals first
      | (exfalso; simp_all; done)
      | (refine ⟨[_], [], ⟨resV_tmp (by conv => lhs; whnf), trivial⟩, VwOs.mk (by decide) trivial, ?_, rfl⟩; exact Vw.bool' (by simp))
      | (all_goals trace_state); fail
theorem SeriesZigs_knob : ownKnob Tryd.prog.godebug = none := by kernel_rfl
theorem SeriesZigs_laid : laidOutB Tryd.prog = true := by kernel_rfl
theorem door_met (os : Os) (args : Array Value) : laidMetH Tryd.prog tabL ((World.doorLaid Tryd.prog 19 os).forCall (fun _ _ => 0) ⟨#[], args, []⟩).memory :=
  laidMetH_of_parts3 (fuel := 8) (laidMet_of_run' 8 (by kernel_rfl) (by kernel_rfl)) (by kernel_rfl) (by kernel_rfl)
set_option maxRecDepth 100000 in
theorem SeriesZigs_lifted (os : Os) (started : os.Started) (H : Type) (enc : TypeId × Value → H) :
    ReturnsInHanded {} Tryd.checked os 3 .any (fun w args => (Rows.seriesZigsSpec.pre enc Tryd.prog Tryd.f3 Rows.seriesZigsRow.domain false w args ∧ laidMetH Tryd.prog tabL w) ∧ sizedMet enc Tryd.prog Tryd.f3 (OpenSpec.ofChange Rows.seriesZigsSpec) false w args) (Rows.seriesZigsSpec.post enc Tryd.prog Tryd.f3 false true false false) := by
  refine law_frameT (C := Tryd.checked) (laid := tabL) SeriesZigs_knob started (by kernel_rfl) Tryd.func3
    (ChangeSpec.witness_shaped (enc := enc) (C := Tryd.checked) (os := os) (X := fun w _ => laidMetH Tryd.prog tabL w) false (World.doorLaid Tryd.prog 19 os) #[.agg #[.int .i64 0, .slice none 0 0]] 8 rfl (World.shaped_of_RefB (by kernel_rfl) (by kernel_rfl)) (by kernel_rfl) (by kernel_rfl) (by kernel_rfl) (door_met os _))
    SeriesZigs_laid rfl Tryd.underlying4 (by kernel_rfl) rfl ?_ tab_laid ?_
  · intro ds h
    match ds, h with
    | [d0], _ => rfl
  · intro W base args ds p hval hA
    obtain ⟨v0, d0, rfl, rfl, h0⟩ := trodAll_one hA
    obtain ⟨N0, l0, u0, rfl, r0, a0, b0, c0⟩ := arg_order Tryd.underlying24 (by kernel_rfl) rfl rfl Tryd.underlying3 (by kernel_rfl) Tryd.underlying22 (by kernel_rfl) Tryd.underlying3 (by kernel_rfl) (hval 0 _ _ rfl rfl) h0
    exact ⟨[_], ⟨gm_order r0, trivial⟩, SeriesZigs_ac N0 l0 ⟩
theorem SeriesZigs_row : Rows.SeriesZigsSaid :=
  OpenClaim.holds_of_wide 3 Tryd.f3 rfl rfl rfl rfl rfl rfl rfl ⟨rfl, rfl, rfl, rfl, rfl⟩ rfl rfl rfl rfl rfl (by kernel_rfl) Tryd.func3 (by kernel_rfl)
    (of_decide_eq_true (by kernel_rfl)) (by unfold Func.isWrapper; first | (rw [if_pos (by decide +kernel)]; kernel_rfl) | (rw [if_neg (by decide +kernel)]; exact ⟨rfl, rfl⟩))
    (fun os started H enc _ => SeriesZigs_lifted os started H enc)
theorem SeriesZigs_holds : Rows.SeriesZigsCardSaid :=
  Claim7.holds_tied_plain_at .later [] [.data, .data] true (true, "f51895cc30d3b5502e42c5965200da0814f62ff448adcac35df1d396ea5e06af") false
    SeriesZigs_row (fun _ h => by cases h) (by kernel_rfl) (fun _ h => by cases h) seriesZigs_row_tie rfl ⟨rfl, rfl⟩ (by kernel_rfl) rfl
    (fun f fn hf hfn => by
      obtain rfl : f = 3 := Option.some.inj ((show Tryd.prog.funcNamed "hasse/hasselaw.SeriesZigs" = some 3 by kernel_rfl).symm.trans hf) |>.symm
      obtain rfl : fn = Tryd.f3 := (Option.some.inj (Tryd.func3.symm.trans hfn)).symm
      exact ⟨by kernel_rfl, fun j t ht => by
        rw [Tryd.params3] at ht
        have hm : t ∈ [24] := by simpa using Array.mem_of_getElem? ht
        have hall : ([24].all fun u => !Tryd.prog.wantsStandIn u) = true := by kernel_rfl
        exact (show Tryd.prog.wantsStandIn t = false by simpa using List.all_eq_true.1 hall t hm)⟩)
    (by kernel_rfl)
end Go.Proofs.YtbgecpjlopdkfaaDoor
