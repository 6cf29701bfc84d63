import Derived.Test.YtbgecpjlopdkfaaDoorHfa
import Derived.Test.YtbgecpjlopdkfaaDoorHej
import Derived.Test.YtbgecpjlopdkfaaDoorEngZzx
import Derived.Test.YtbgecpjlopdkfaaDoorEngZzi
import Derived.Test.YtbgecpjlopdkfaaDoorEngT
import Derived.Test.YtbgecpjlopdkfaaDoorTabs
set_option linter.unusedSimpArgs false
set_option linter.unusedVariables false
set_option linter.unusedSectionVars false
set_option maxRecDepth 20000
namespace Go.Proofs.YtbgecpjlopdkfaaDoor
open Go.ChangeShapes Go.WideShapes Go.ChangeAt Go.RowKit
attribute [local irreducible] QOp aL aC qL
set_option maxRecDepth 20000 in
set_option maxHeartbeats 2000000 in
theorem HeytingChecks_ac (k p : Int) (l : List Tr) (hb : 1 + kcnt l ≤ 1048576) : AC Tryd.prog 9 [.agg [.val (.int .i64 k), .val (.int .i64 p), tks l]] [] (.val (.bool true)) [] := by
  have kb := hbegun_ac
  have ec : (Tr.mk k p l).cnt = 1 + kcnt l := by unfold Tr.cnt; rfl
  have k1 := fcheckW_ac k p l (sml_cnt _ (by rw [ec]; omega))
  have k2 := CheckFormula_ac k p l (by omega)
  rw [fcw_fck (by rw [ec]; omega)] at k1
  generalize fck (.mk k p l) = e at *
  unfold ta3 tks at *
  refine AC.mk (n := 11) (fn := Tryd.f9) Tryd.func9 (by kernel_rfl) rfl rfl rfl rfl (fun cx => ?_); dsimp only [argv, Nat.reduceAdd]
  (repeat' (first | refine a_seq ?_ | refine a_region ?_ | refine l_nil ?_ | (apply w_q; (focus (first | exact Q_assign (by conv => lhs; whnf))); (focus exact rfl)) | refine w_box rfl rfl (by first|(dsimp only[obA,obB,obD,obE,obF,obG,obI,List.map,AO.sh,AV.sh,AV.shl,Nat.reduceAdd];done)|exact rfl) (by first|(dsimp only[obA,obB,obD,obE,obF,obG,obI,List.map,AO.sh,AV.sh,AV.shl,Nat.reduceAdd];done)|exact rfl) rfl ?_)); (try all_goals (try show retA _ _ _ _ _ _ _))
  refine w_freezeBC 0 [.val (.int .i64 k), .val (.int .i64 p), .sl 3 (kdc l)] rfl rfl (by simp only [fbv_nil, fbv_cons, fbl_nil, fbl_cons, fbo_nil, fbo_cons, fbo_box, fbo_row, fbo_gone, fb_own, fb_val, fb_ro, fb_rpt, fb_ptr, fb_ept, fb_agg, fb_tup, fb_clo, fb_ints, fb_rows, fb_pairs, fb_ords, Nat.reduceEqDiff, ↓reduceIte, List.set_cons_zero, List.set_cons_succ]; exact rfl) (by simp only [fbv_nil, fbv_cons, fbl_nil, fbl_cons, fbo_nil, fbo_cons, fbo_box, fbo_row, fbo_gone, fb_own, fb_val, fb_ro, fb_rpt, fb_ptr, fb_ept, fb_agg, fb_tup, fb_clo, fb_ints, fb_rows, fb_pairs, fb_ords, Nat.reduceEqDiff, ↓reduceIte, List.set_cons_zero, List.set_cons_succ]; exact rfl) ?_
  (repeat' (first | refine a_holdN (id := 1) (by kernel_rfl) rfl ?_ | refine xh_step (listed := [false, false, false, false, false, false, false, false, false]) (i := 0) (is := []) (by kernel_rfl) ⟨⟨_, rfl, ?_⟩, trivial⟩ | (apply xw_first (listed := [true, false, false, false, false, false, false, false, false]) 1 rfl (by kernel_rfl); (focus (first | exact P_move (by conv => lhs; whnf))); (focus exact rfl)) | refine xh_step (listed := [true, true, false, false, false, false, false, false, false]) (i := 2) (is := [4]) (by kernel_rfl) ⟨⟨_, rfl, ?_⟩, ⟨_, rfl, ?_⟩, trivial⟩ | refine xh_step (listed := [true, true, false, false, true, false, false, false, false]) (i := 2) (is := []) (by kernel_rfl) ⟨⟨_, rfl, ?_⟩, trivial⟩ | refine xh_step (listed := [true, true, true, false, true, false, false, false, false]) (i := 3) (is := []) (by kernel_rfl) ⟨⟨_, rfl, ?_⟩, trivial⟩ | refine xh_step (listed := [true, true, true, true, true, false, false, false, false]) (i := 5) (is := []) (by kernel_rfl) ⟨⟨_, rfl, ?_⟩, trivial⟩ | refine xh_step (listed := [true, true, true, true, true, true, false, false, false]) (i := 6) (is := []) (by kernel_rfl) ⟨⟨_, rfl, ?_⟩, trivial⟩ | refine xh_step (listed := [true, true, true, true, true, true, true, false, false]) (i := 7) (is := []) (by kernel_rfl) ⟨⟨_, rfl, ?_⟩, trivial⟩ | (apply xw_first (listed := [true, true, true, true, true, true, true, true, false]) 8 rfl (by kernel_rfl); (focus (first | exact P_assign (by conv => lhs; whnf))); (focus exact rfl)) | refine xh_done (listed := [true, true, true, true, true, true, true, true, true]) (by kernel_rfl) ?_ | refine xh_step (listed := [true, true, true, false, false, false, false, false, false]) (i := 3) (is := [4]) (by kernel_rfl) ⟨⟨_, rfl, ?_⟩, ⟨_, rfl, ?_⟩, trivial⟩ | refine xh_step (listed := [true, true, true, true, false, false, false, false, false]) (i := 4) (is := []) (by kernel_rfl) ⟨⟨_, rfl, ?_⟩, trivial⟩ | refine a_ret ?_ | refine l_nil ?_ | ((first | apply w_q); (focus (first | exact Q_eql rfl rfl | exact Q_ld_rpa rfl KAg.h rfl rfl (by first | (dsimp only [List.drop_zero, List.drop_succ_cons, List.take_succ_cons, List.take_zero, List.map, ofD]; done) | exact rfl) | exact Q_pick_t rfl rfl (by conv => lhs; whnf))); (focus exact rfl)) | refine w_guard_y rfl rfl rfl (by first | assumption | rfl) ?_ | ((refine w_callV (.inl ⟨rfl, rfl⟩) (kb) ?_ (by first | (dsimp only [AV.sh, AV.shl, sh_ints, sh_rows, sh_pairs, sh_ords]; done) | exact rfl) rfl ?_; rotate_left 0; (focus ((repeat' (first | exact trivial)); done)); rotate_left 1; all_goals (try (skip)))) | ((refine w_callV (.inl ⟨rfl, rfl⟩) (k1) ?_ (by first | (dsimp only [AV.sh, AV.shl, sh_ints, sh_rows, sh_pairs, sh_ords]; done) | exact rfl) rfl ?_; rotate_left 0; (focus ((repeat' (first | exact trivial | exact Vs.val _ | exact Vs.ro _ | refine Vs.agg' ?_ | refine ⟨?_, ?_⟩)); done)); rotate_left 1; all_goals (try (skip)))) | ((refine w_callV (.inl ⟨rfl, rfl⟩) (k2) ?_ (by first | (dsimp only [AV.sh, AV.shl, sh_ints, sh_rows, sh_pairs, sh_ords]; done) | exact rfl) rfl ?_; rotate_left 0; (focus ((repeat' (first | exact trivial | exact Vs.val _ | exact Vs.ro _ | refine Vs.agg' ?_ | refine ⟨?_, ?_⟩)); done)); rotate_left 1; all_goals (try (skip)))))); (try all_goals (try show retA _ _ _ _ _ _ _))
  all_goals first
    | (exfalso; omega)
    | (refine ⟨[_], [], ⟨resV_tmp (by conv => lhs; whnf), trivial⟩, VwOs.mk (by decide) trivial, ?_, rfl⟩; exact Vw.bool' (by simp))
    | (all_goals trace_state); fail
theorem HeytingChecks_knob : ownKnob Tryd.prog.godebug = none := by kernel_rfl
theorem HeytingChecks_laid : laidOutB Tryd.prog = true := by kernel_rfl
theorem door_met (os : Os) (args : Array Value) : laidMetH Tryd.prog tabL ((World.doorLaid Tryd.prog 19 os).forCall (fun _ _ => 0) ⟨#[], args, []⟩).memory :=
  laidMetH_of_parts3 (fuel := 8) (laidMet_of_run' 8 (by kernel_rfl) (by kernel_rfl)) (by kernel_rfl) (by kernel_rfl)
theorem HeytingChecksU_reads (os : Os) {H : Type} (enc : TypeId × Value → H) : DataW.whole enc Tryd.prog ((World.doorLaid Tryd.prog 19 os).forCall (fun _ _ => 0) ⟨#[], #[.agg #[.int .i64 0, .int .i64 0, .slice none 0 0]], []⟩).memory Tryd.f9.params.toList Rows.heytingChecksSpec.vars false (#[.agg #[.int .i64 0, .int .i64 0, .slice none 0 0]] : Array Value).toList 8 = some (([.agg [.lit (.int .i64 0), .lit (.int .i64 0), .nil]] : List (DataW H)), [], []) := by kernel_rfl
set_option maxRecDepth 100000 in
theorem HeytingChecksU_lifted (os : Os) (started : os.Started) (H : Type) (enc : TypeId × Value → H) (F : Stop.Interp) :
    ReturnsInHanded {} Tryd.checked os 9 .any ((Rows.OpenSpec.upto Rows.heytingChecksSpec).preRow enc Tryd.prog Tryd.f9 Rows.heytingChecksUptoRow.domain false tabL) (((Rows.OpenSpec.upto Rows.heytingChecksSpec).at F).post enc Tryd.prog Tryd.f9 false true false false) := by
  have hx := HeytingChecksU_reads os enc
  refine law_frameU (C := Tryd.checked) (laid := tabL) HeytingChecks_knob started (by kernel_rfl) Tryd.func9
    (witness_U (enc := enc) (C := Tryd.checked) (os := os) false (World.doorLaid Tryd.prog 19 os) #[.agg #[.int .i64 0, .int .i64 0, .slice none 0 0]] rfl (World.shaped_of_RefB (by kernel_rfl) (by kernel_rfl)) (by kernel_rfl)
      (OpenSpec.preRow_of_cond 8 hx (by kernel_rfl) (fun k e => by cases e; kernel_rfl) (by kernel_rfl) (door_met os _)))
    HeytingChecks_laid rfl Tryd.underlying4 (by kernel_rfl) rfl ?_ tab_laid ?_
  · intro ds h
    match ds, h with
    | [d0], _ => rfl
  · intro W base args ds gs p hval hk hA
    obtain ⟨v0, d0, rfl, rfl, h0⟩ := trodAll_one hA
    obtain ⟨k0, q0, l0, u0, rfl, r0, a0, b0, z0⟩ := arg_tree Tryd.underlying55 (by kernel_rfl) rfl rfl rfl Tryd.underlying3 Tryd.underlying3 (by kernel_rfl) (by kernel_rfl) Tryd.underlying53 (by kernel_rfl) (hval 0 _ _ rfl rfl) h0
    have y0 := Nat.le_trans z0 (bulk_at hk (i := 0) rfl)
    exact ⟨[_], ⟨gm_tree r0, trivial⟩, HeytingChecks_ac k0 q0 l0 y0 ⟩
theorem HeytingChecksU_row : Rows.HeytingChecksUptoSaid :=
  OpenClaim.holds_of_cond 9 Tryd.f9 rfl rfl rfl rfl rfl rfl rfl ⟨rfl, rfl, rfl, rfl, rfl⟩ rfl rfl rfl rfl rfl (by kernel_rfl) Tryd.func9 (by kernel_rfl)
    (of_decide_eq_true (by kernel_rfl)) (by unfold Func.isWrapper; first | (rw [if_pos (by decide +kernel)]; kernel_rfl) | (rw [if_neg (by decide +kernel)]; exact ⟨rfl, rfl⟩))
    (fun os started H enc _ F => by rw [OpenClaim.pre_eq_preRow]; exact HeytingChecksU_lifted os started H enc F)
theorem HeytingChecksUpto_holds : Rows.HeytingChecksUptoCardSaid :=
  Claim7.holds_tied_plain_at .later [] [.data, .data] true (true, "f51895cc30d3b5502e42c5965200da0814f62ff448adcac35df1d396ea5e06af") false
    HeytingChecksU_row (fun _ h => by cases h) (by kernel_rfl) (fun _ h => by cases h) heytingChecksUpto_row_tie rfl ⟨rfl, rfl⟩ (by kernel_rfl) rfl
    (fun f fn hf hfn => by
      obtain rfl : f = 9 := Option.some.inj ((show Tryd.prog.funcNamed "hasse/hasselaw.HeytingChecks" = some 9 by kernel_rfl).symm.trans hf) |>.symm
      obtain rfl : fn = Tryd.f9 := (Option.some.inj (Tryd.func9.symm.trans hfn)).symm
      exact ⟨by kernel_rfl, fun j t ht => by
        rw [Tryd.params9] at ht
        have hm : t ∈ [55] := by simpa using Array.mem_of_getElem? ht
        have hall : ([55].all fun u => !Tryd.prog.wantsStandIn u) = true := by kernel_rfl
        exact (show Tryd.prog.wantsStandIn t = false by simpa using List.all_eq_true.1 hall t hm)⟩)
    (by kernel_rfl)
end Go.Proofs.YtbgecpjlopdkfaaDoor
