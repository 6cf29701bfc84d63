import Derived.Test.YtbgecpjlopdkfaaDoorHfd
import Derived.Test.YtbgecpjlopdkfaaDoorHfe
import Derived.Test.YtbgecpjlopdkfaaDoorHej
import Derived.Test.YtbgecpjlopdkfaaDoorFp
import Derived.Test.YtbgecpjlopdkfaaDoorEngZzx
import Derived.Test.YtbgecpjlopdkfaaDoorEngZk
import Derived.Test.YtbgecpjlopdkfaaDoorEngT
import Derived.Test.YtbgecpjlopdkfaaDoorTabs
set_option linter.unusedSimpArgs false
set_option linter.unusedVariables false
set_option linter.unusedSectionVars false
set_option maxRecDepth 20000
namespace Go.Proofs.YtbgecpjlopdkfaaDoor
open Go.ChangeShapes Go.WideShapes Go.ChangeAt Go.RowKit
attribute [local irreducible] QOp aL aC qL
set_option maxRecDepth 20000 in
set_option maxHeartbeats 2000000 in
theorem HeytingValues_ac (N : Int) (m w : List (List Int)) (k p : Int) (l : List Tr) (hb : 1 + kcnt l ≤ 1048576) (vars : List Int) (hB : (∀ r ∈ m, (∀ x ∈ r, I64 x) ∧ r.length ≤ big) ∧ m.length ≤ big) (hC : (∀ r ∈ w, (∀ x ∈ r, I64 x) ∧ r.length ≤ big) ∧ w.length ≤ big) (hV : vars.length ≤ big) :
    AC Tryd.prog 11 [latA N m w, .agg [.val (.int .i64 k), .val (.int .i64 p), tks l], ints vars] [] (.val (.bool true)) [] := by
  have hm : m.length ≤ 9223372036854775807 := by have := hB.2; unfold big at this; omega
  have hw : w.length ≤ 9223372036854775807 := by have := hC.2; unfold big at this; omega
  have hmr : ∀ r ∈ m, r.length ≤ 9223372036854775807 := fun r hr => (hB.1 r hr).2
  have hwr : ∀ r ∈ w, r.length ≤ 9223372036854775807 := fun r hr => (hC.1 r hr).2
  have hvl : vars.length ≤ 9223372036854775807 := hV
  clear hB hC hV
  have kb := hbegun_ac
  have ec : (Tr.mk k p l).cnt = 1 + kcnt l := by unfold Tr.cnt; rfl
  have hs : (Tr.mk k p l).sml := sml_cnt _ (by rw [ec]; omega)
  have kC := CheckFormula_ac k p l (by omega)
  have kM := Mapped_ac 3 N vars hvl
  have kH := CheckHeyting_ac N m w hm hw hmr hwr
  have ef := fcw_fmck (t := .mk k p l) (by rw [ec]; omega)
  by_cases h : hck N m w = 0
  · obtain ⟨n, M, J, rfl, rfl, rfl, hL, hd, hD⟩ := hck_zero h
    rw [h] at kH
    by_cases h2 : (if fcw (.mk k p l) ≠ 0 then fcw (.mk k p l) else mpd 3 n vars) = 0
    · have hf : fcw (.mk k p l) = 0 := by
        by_cases e : fcw (.mk k p l) = 0
        · exact e
        · rw [if_pos e] at h2; exact h2
      rw [if_neg (by rw [hf]; decide)] at h2
      rcases mpd_cases n vars with ⟨_, e⟩ | ⟨_, _, e⟩ | ⟨hl3, hbad, _⟩
      · omega
      · omega
      obtain ⟨vs, rfl⟩ : ∃ vs : List Nat, vars = nl vs := ⟨vars.map Int.toNat, by
        unfold nl
        rw [List.map_map]
        conv => lhs; rw [← List.map_id vars]
        refine List.map_congr_left fun x hx => ?_
        have := List.any_eq_false.1 hbad x hx
        unfold badI at this
        rw [decide_eq_true_eq] at this
        show x = ((x.toNat : Nat) : Int)
        omega⟩
      have hvs : vs.length = 3 ∧ ∀ i, i < 3 → vs.getD i 0 < n := by
        rw [nl_len] at hl3
        refine ⟨hl3, fun i hi => ?_⟩
        have := List.any_eq_false.1 hbad ((nl vs).getD i 0) (by
          rw [List.getD_eq_getElem?_getD, List.getElem?_eq_getElem (by rw [nl_len]; omega)]
          exact List.getElem_mem _)
        unfold badI at this
        rw [decide_eq_true_eq, nl_get] at this
        omega
      have hf0 : (Tr.mk k p l).ffm = 0 := by
        have hf := hf
        unfold fcw at hf
        split at hf
        · omega
        · exact hf
      have k1 := HVal_ok hs hL hd hvs hf
      have k2 := ValueOf_ac hL hD hvs (1 + kdep l) k p l (Nat.le_refl _) hf0
      rw [← ef, hf] at kC
      rw [h2] at kM
      generalize fvF n M J vs (1 + kdep l) (.mk k p l) = r at *
      have kg := numberIs_ac r 0 0 r
      clear hf hf0 hvs h2 h hbad hL hD hd
      generalize tn M = MM at *
      generalize tn J = JJ at *
      generalize nl vs = VV at *
      unfold ta3 tks at *
      refine AC.mk (n := 44) (fn := Tryd.f11) Tryd.func11 (by kernel_rfl) rfl rfl rfl rfl (fun cx => ?_); dsimp only [argv, Nat.reduceAdd]
      (repeat' (first | refine a_seq ?_ | refine a_ret ?_ | refine a_region ?_ | refine l_nil ?_ | (apply w_q; (focus (first | exact Q_move (by conv => lhs; whnf) | exact Q_assign (by conv => lhs; whnf) | exact Q_fieldAddr_ptr rfl KFl.h | exact Q_load_ptr rfl rfl rfl KSc.h | exact Q_load_all rfl rfl KAg.h | exact Q_eql rfl rfl | exact Q_extract rfl (by conv => lhs; whnf) | exact Q_pick_t rfl (by assumption) (by conv => lhs; whnf))); (focus exact rfl)) | (refine a_cond rfl ?_ ?_ <;> (intro h; (try (have hp := of_decide_eq_true h)); (try (have hp := of_decide_eq_false h)); (try contradiction); (try (exfalso; omega)))) | refine w_guard_y rfl rfl rfl (by first | assumption | rfl) ?_ | refine w_box rfl rfl (by first|(dsimp only[obA,obB,obD,obE,obF,obG,obI,List.map,AO.sh,AV.sh,AV.shl,Nat.reduceAdd];done)|exact rfl) (by first|(dsimp only[obA,obB,obD,obE,obF,obG,obI,List.map,AO.sh,AV.sh,AV.shl,Nat.reduceAdd];done)|exact rfl) rfl ?_ | ((refine w_callV (.inl ⟨rfl, rfl⟩) (k1) ?_ (by first | (dsimp only [AV.sh, AV.shl, sh_ints, sh_rows, sh_pairs, sh_ords]; done) | exact rfl) rfl ?_; rotate_left 0; (focus ((repeat' (first | exact trivial | exact Vs.val _ | exact Vs.ro _ | refine Vs.agg' ?_ | refine ⟨?_, ?_⟩)); done)); rotate_left 1; all_goals (try (skip)))) | (((first | apply w_q); (focus (refine Q_call (.inl ⟨rfl, rfl⟩) (kH) ?_; ((repeat' (first | exact trivial | exact vwR rfl | exact Vw.ro _ | refine Vw.agg' ?_ | refine ⟨?_, ?_⟩ )); done))); (focus exact rfl))) | (((first | apply w_q); (focus (refine Q_call (.inl ⟨rfl, rfl⟩) (kC) ?_; ((repeat' (first | exact trivial | exact vwRL rfl | refine Vw.agg' ?_ | refine ⟨?_, ?_⟩ )); done))); (focus exact rfl))) | (((first | apply w_q); (focus (refine Q_call (.inl ⟨rfl, rfl⟩) (kM) ?_; ((repeat' (first | exact trivial | exact vwR rfl | exact Vw.ro _ | refine ⟨?_, ?_⟩ )); done))); (focus exact rfl))) | (((first | apply w_q); (focus (refine Q_call (.inl ⟨rfl, rfl⟩) (k2) ?_; ((repeat' (first | exact trivial | exact vwR rfl | exact vwRL rfl | exact Vw.ro _ | refine Vw.agg' ?_ | refine ⟨?_, ?_⟩ )); done))); (focus exact rfl))) | (((first | apply w_q); (focus (refine Q_call (.inl ⟨rfl, rfl⟩) (kb) ?_; ((repeat' (first | exact trivial)); done))); (focus exact rfl))) | (((first | apply w_q); (focus (refine Q_call (.inl ⟨rfl, rfl⟩) (kg) ?_; ((repeat' (first | exact vwRL rfl)); done))); (focus exact rfl))))); (try all_goals (try show retA _ _ _ _ _ _ _))
      all_goals first
        | (exfalso; omega)
        | (exfalso; simp_all; done)
        | (refine ⟨[_], [], ⟨resV_tmp (by conv => lhs; whnf), trivial⟩, VwOs.mk (by decide) trivial, ?_, rfl⟩; exact Vw.bool' (by simp))
        | (all_goals trace_state); fail
    · have k1 := HVal_bad hs hL hd vars hvl h2
      rw [ef] at k1 h2
      clear hL hD hd h ef
      generalize tn M = MM at *
      generalize tn J = JJ at *
      by_cases hf : fmck (.mk k p l) = 0
      · rw [if_neg (by rw [hf]; decide)] at k1 h2
        rw [hf] at kC
        generalize mpd 3 (n : Int) vars = e at *
        have kg := numberIs_ac 0 e e 0
        clear hf
        unfold ta3 tks at *
        refine AC.mk (n := 44) (fn := Tryd.f11) Tryd.func11 (by kernel_rfl) rfl rfl rfl rfl (fun cx => ?_); dsimp only [argv, Nat.reduceAdd]
        (repeat' (first | refine a_seq ?_ | refine a_skip ?_ | refine a_ret ?_ | refine a_region ?_ | refine l_nil ?_ | (apply w_q; (focus (first | exact Q_move (by conv => lhs; whnf) | exact Q_assign (by conv => lhs; whnf) | exact Q_fieldAddr_ptr rfl KFl.h | exact Q_load_ptr rfl rfl rfl KSc.h | exact Q_load_all rfl rfl KAg.h | exact Q_eql rfl rfl | exact Q_extract rfl (by conv => lhs; whnf) | exact Q_pick_t rfl (by assumption) (by conv => lhs; whnf))); (focus exact rfl)) | (refine a_cond rfl ?_ ?_ <;> (intro h; (try (have hp := of_decide_eq_true h)); (try (have hp := of_decide_eq_false h)); (try contradiction); (try (exfalso; omega)))) | refine w_guard_y rfl rfl rfl (by first | assumption | rfl) ?_ | refine w_box rfl rfl (by first|(dsimp only[obA,obB,obD,obE,obF,obG,obI,List.map,AO.sh,AV.sh,AV.shl,Nat.reduceAdd];done)|exact rfl) (by first|(dsimp only[obA,obB,obD,obE,obF,obG,obI,List.map,AO.sh,AV.sh,AV.shl,Nat.reduceAdd];done)|exact rfl) rfl ?_ | ((refine w_callV (.inl ⟨rfl, rfl⟩) (k1) ?_ (by first | (dsimp only [AV.sh, AV.shl, sh_ints, sh_rows, sh_pairs, sh_ords]; done) | exact rfl) rfl ?_; rotate_left 0; (focus ((repeat' (first | exact trivial | exact Vs.val _ | exact Vs.ro _ | refine Vs.agg' ?_ | refine ⟨?_, ?_⟩)); done)); rotate_left 1; all_goals (try (skip)))) | (((first | apply w_q); (focus (refine Q_call (.inl ⟨rfl, rfl⟩) (kH) ?_; ((repeat' (first | exact trivial | exact vwR rfl | exact Vw.ro _ | refine Vw.agg' ?_ | refine ⟨?_, ?_⟩ )); done))); (focus exact rfl))) | (((first | apply w_q); (focus (refine Q_call (.inl ⟨rfl, rfl⟩) (kC) ?_; ((repeat' (first | exact trivial | exact vwRL rfl | refine Vw.agg' ?_ | refine ⟨?_, ?_⟩ )); done))); (focus exact rfl))) | (((first | apply w_q); (focus (refine Q_call (.inl ⟨rfl, rfl⟩) (kM) ?_; ((repeat' (first | exact trivial | exact vwR rfl | exact Vw.ro _ | refine ⟨?_, ?_⟩ )); done))); (focus exact rfl))) | (((first | apply w_q); (focus (refine Q_call (.inl ⟨rfl, rfl⟩) (kb) ?_; ((repeat' (first | exact trivial)); done))); (focus exact rfl))) | (((first | apply w_q); (focus (refine Q_call (.inl ⟨rfl, rfl⟩) (kg) ?_; ((repeat' (first | exact vwRL rfl)); done))); (focus exact rfl))))); (try all_goals (try show retA _ _ _ _ _ _ _))
        all_goals first
          | (exfalso; omega)
          | (exfalso; simp_all; done)
          | (refine ⟨[_], [], ⟨resV_tmp (by conv => lhs; whnf), trivial⟩, VwOs.mk (by decide) trivial, ?_, rfl⟩; exact Vw.bool' (by simp [h2]))
          | (all_goals trace_state); fail
      · rw [if_pos hf] at k1 h2
        generalize fmck (.mk k p l) = e at *
        have kg := numberIs_ac 0 e e 0
        unfold ta3 tks at *
        refine AC.mk (n := 44) (fn := Tryd.f11) Tryd.func11 (by kernel_rfl) rfl rfl rfl rfl (fun cx => ?_); dsimp only [argv, Nat.reduceAdd]
        (repeat' (first | refine a_seq ?_ | refine a_skip ?_ | refine a_ret ?_ | refine a_region ?_ | refine l_nil ?_ | (apply w_q; (focus (first | exact Q_move (by conv => lhs; whnf) | exact Q_assign (by conv => lhs; whnf) | exact Q_load_all rfl rfl KAg.h | exact Q_eql rfl rfl | exact Q_extract rfl (by conv => lhs; whnf) | exact Q_pick_t rfl (by assumption) (by conv => lhs; whnf))); (focus exact rfl)) | (refine a_cond rfl ?_ ?_ <;> (intro h; (try (have hp := of_decide_eq_true h)); (try (have hp := of_decide_eq_false h)); (try contradiction); (try (exfalso; omega)))) | refine w_guard_y rfl rfl rfl (by first | assumption | rfl) ?_ | refine w_box rfl rfl (by first|(dsimp only[obA,obB,obD,obE,obF,obG,obI,List.map,AO.sh,AV.sh,AV.shl,Nat.reduceAdd];done)|exact rfl) (by first|(dsimp only[obA,obB,obD,obE,obF,obG,obI,List.map,AO.sh,AV.sh,AV.shl,Nat.reduceAdd];done)|exact rfl) rfl ?_ | ((refine w_callV (.inl ⟨rfl, rfl⟩) (k1) ?_ (by first | (dsimp only [AV.sh, AV.shl, sh_ints, sh_rows, sh_pairs, sh_ords]; done) | exact rfl) rfl ?_; rotate_left 0; (focus ((repeat' (first | exact trivial | exact Vs.val _ | exact Vs.ro _ | refine Vs.agg' ?_ | refine ⟨?_, ?_⟩)); done)); rotate_left 1; all_goals (try (skip)))) | (((first | apply w_q); (focus (refine Q_call (.inl ⟨rfl, rfl⟩) (kH) ?_; ((repeat' (first | exact trivial | exact vwR rfl | exact Vw.ro _ | refine Vw.agg' ?_ | refine ⟨?_, ?_⟩ )); done))); (focus exact rfl))) | (((first | apply w_q); (focus (refine Q_call (.inl ⟨rfl, rfl⟩) (kC) ?_; ((repeat' (first | exact trivial | exact vwRL rfl | refine Vw.agg' ?_ | refine ⟨?_, ?_⟩ )); done))); (focus exact rfl))) | (((first | apply w_q); (focus (refine Q_call (.inl ⟨rfl, rfl⟩) (kb) ?_; ((repeat' (first | exact trivial)); done))); (focus exact rfl))) | (((first | apply w_q); (focus (refine Q_call (.inl ⟨rfl, rfl⟩) (kg) ?_; ((repeat' (first | exact vwRL rfl)); done))); (focus exact rfl))))); (try all_goals (try show retA _ _ _ _ _ _ _))
        all_goals first
          | (exfalso; omega)
          | (exfalso; simp_all; done)
          | (refine ⟨[_], [], ⟨resV_tmp (by conv => lhs; whnf), trivial⟩, VwOs.mk (by decide) trivial, ?_, rfl⟩; exact Vw.bool' (by simp [h2]))
          | (all_goals trace_state); fail
  · have k1 := HVal_err hs N m w vars hm hw hmr hwr h
    generalize hck N m w = e at *
    have kg := numberIs_ac 0 e e 0
    clear ef
    unfold ta3 tks at *
    refine AC.mk (n := 44) (fn := Tryd.f11) Tryd.func11 (by kernel_rfl) rfl rfl rfl rfl (fun cx => ?_); dsimp only [argv, Nat.reduceAdd]
    (repeat' (first | refine a_seq ?_ | refine a_skip ?_ | refine a_ret ?_ | refine a_region ?_ | refine l_nil ?_ | (apply w_q; (focus (first | exact Q_move (by conv => lhs; whnf) | exact Q_assign (by conv => lhs; whnf) | exact Q_load_all rfl rfl KAg.h | exact Q_eql rfl rfl | exact Q_extract rfl (by conv => lhs; whnf) | exact Q_pick_t rfl rfl (by conv => lhs; whnf))); (focus exact rfl)) | (refine a_cond rfl ?_ ?_ <;> (intro h; (try (have hp := of_decide_eq_true h)); (try (have hp := of_decide_eq_false h)); (try contradiction); (try (exfalso; omega)))) | refine w_guard_y rfl rfl rfl (by first | assumption | rfl) ?_ | refine w_box rfl rfl (by first|(dsimp only[obA,obB,obD,obE,obF,obG,obI,List.map,AO.sh,AV.sh,AV.shl,Nat.reduceAdd];done)|exact rfl) (by first|(dsimp only[obA,obB,obD,obE,obF,obG,obI,List.map,AO.sh,AV.sh,AV.shl,Nat.reduceAdd];done)|exact rfl) rfl ?_ | ((refine w_callV (.inl ⟨rfl, rfl⟩) (k1) ?_ (by first | (dsimp only [AV.sh, AV.shl, sh_ints, sh_rows, sh_pairs, sh_ords]; done) | exact rfl) rfl ?_; rotate_left 0; (focus ((repeat' (first | exact trivial | exact Vs.val _ | exact Vs.ro _ | refine Vs.agg' ?_ | refine ⟨?_, ?_⟩)); done)); rotate_left 1; all_goals (try (skip)))) | (((first | apply w_q); (focus (refine Q_call (.inl ⟨rfl, rfl⟩) (kH) ?_; ((repeat' (first | exact trivial | exact vwR rfl | exact Vw.ro _ | refine Vw.agg' ?_ | refine ⟨?_, ?_⟩ )); done))); (focus exact rfl))) | (((first | apply w_q); (focus (refine Q_call (.inl ⟨rfl, rfl⟩) (kb) ?_; ((repeat' (first | exact trivial)); done))); (focus exact rfl))) | (((first | apply w_q); (focus (refine Q_call (.inl ⟨rfl, rfl⟩) (kg) ?_; ((repeat' (first | exact vwRL rfl)); done))); (focus exact rfl))))); (try all_goals (try show retA _ _ _ _ _ _ _))
    all_goals first
      | (exfalso; omega)
      | (exfalso; simp_all; done)
      | (refine ⟨[_], [], ⟨resV_tmp (by conv => lhs; whnf), trivial⟩, VwOs.mk (by decide) trivial, ?_, rfl⟩; exact Vw.bool' (by simp [h]))
      | (all_goals trace_state); fail
theorem HeytingValues_knob : ownKnob Tryd.prog.godebug = none := by kernel_rfl
theorem HeytingValues_laid : laidOutB Tryd.prog = true := by kernel_rfl
theorem door_met (os : Os) (args : Array Value) : laidMetH Tryd.prog tabL ((World.doorLaid Tryd.prog 19 os).forCall (fun _ _ => 0) ⟨#[], args, []⟩).memory :=
  laidMetH_of_parts3 (fuel := 8) (laidMet_of_run' 8 (by kernel_rfl) (by kernel_rfl)) (by kernel_rfl) (by kernel_rfl)
theorem HeytingValuesU_reads (os : Os) {H : Type} (enc : TypeId × Value → H) : DataW.whole enc Tryd.prog ((World.doorLaid Tryd.prog 19 os).forCall (fun _ _ => 0) ⟨#[], #[.agg #[.int .i64 0, .slice none 0 0, .slice none 0 0], .agg #[.int .i64 0, .int .i64 0, .slice none 0 0], .slice none 0 0], []⟩).memory Tryd.f11.params.toList Rows.heytingValuesSpec.vars false (#[.agg #[.int .i64 0, .slice none 0 0, .slice none 0 0], .agg #[.int .i64 0, .int .i64 0, .slice none 0 0], .slice none 0 0] : Array Value).toList 8 = some (([.agg [.lit (.int .i64 0), .nil, .nil], .agg [.lit (.int .i64 0), .lit (.int .i64 0), .nil], .nil] : List (DataW H)), [], []) := by kernel_rfl
set_option maxRecDepth 100000 in
theorem HeytingValuesU_lifted (os : Os) (started : os.Started) (H : Type) (enc : TypeId × Value → H) (F : Stop.Interp) :
    ReturnsInHanded {} Tryd.checked os 11 .any ((Rows.OpenSpec.upto Rows.heytingValuesSpec).preRow enc Tryd.prog Tryd.f11 Rows.heytingValuesUptoRow.domain false tabL) (((Rows.OpenSpec.upto Rows.heytingValuesSpec).at F).post enc Tryd.prog Tryd.f11 false true false false) := by
  have hx := HeytingValuesU_reads os enc
  refine law_frameU (C := Tryd.checked) (laid := tabL) HeytingValues_knob started (by kernel_rfl) Tryd.func11
    (witness_U (enc := enc) (C := Tryd.checked) (os := os) false (World.doorLaid Tryd.prog 19 os) #[.agg #[.int .i64 0, .slice none 0 0, .slice none 0 0], .agg #[.int .i64 0, .int .i64 0, .slice none 0 0], .slice none 0 0] rfl (World.shaped_of_RefB (by kernel_rfl) (by kernel_rfl)) (by kernel_rfl)
      (OpenSpec.preRow_of_cond 8 hx (by kernel_rfl) (fun k e => by cases e; kernel_rfl) (by kernel_rfl) (door_met os _)))
    HeytingValues_laid rfl Tryd.underlying4 (by kernel_rfl) rfl ?_ tab_laid ?_
  · intro ds h
    match ds, h with
    | [d0, d1, d2], _ => rfl
  · intro W base args ds gs p hval hk hA
    obtain ⟨v0, v1, v2, d0, d1, d2, p0, p1, p2, rfl, rfl, rfl, h0, h1, h2⟩ := trodAll_three hA
    obtain ⟨N0, m0, j0, u0, s0, rfl, r0, q0, a0, b0, c0⟩ := arg_lat Tryd.underlying64 (by kernel_rfl) rfl rfl rfl Tryd.underlying3 (by kernel_rfl) Tryd.underlying62 (by kernel_rfl) Tryd.underlying62 (by kernel_rfl) Tryd.underlying22 Tryd.underlying3 (by kernel_rfl) (by kernel_rfl) (hval 0 _ _ rfl rfl) h0
    obtain ⟨k1, q1, l1, u1, rfl, r1, a1, b1, z1⟩ := arg_tree Tryd.underlying55 (by kernel_rfl) rfl rfl rfl Tryd.underlying3 Tryd.underlying3 (by kernel_rfl) (by kernel_rfl) Tryd.underlying53 (by kernel_rfl) (hval 1 _ _ rfl rfl) h1
    have y1 := Nat.le_trans z1 (bulk_at hk (i := 1) rfl)
    obtain ⟨l2, r2, b2, c2⟩ := arg_ints Tryd.underlying22 Tryd.underlying3 (by kernel_rfl) (hval 2 _ _ rfl rfl) h2
    exact ⟨[_, _, _], ⟨gm_lat r0 q0, gm_tree r1, gm_ints r2, trivial⟩, HeytingValues_ac N0 m0 j0 k1 q1 l1 y1 l2 b0 c0 c2⟩
theorem HeytingValuesU_row : Rows.HeytingValuesUptoSaid :=
  OpenClaim.holds_of_cond 11 Tryd.f11 rfl rfl rfl rfl rfl rfl rfl ⟨rfl, rfl, rfl, rfl, rfl⟩ rfl rfl rfl rfl rfl (by kernel_rfl) Tryd.func11 (by kernel_rfl)
    (of_decide_eq_true (by kernel_rfl)) (by unfold Func.isWrapper; first | (rw [if_pos (by decide +kernel)]; kernel_rfl) | (rw [if_neg (by decide +kernel)]; exact ⟨rfl, rfl⟩))
    (fun os started H enc _ F => by rw [OpenClaim.pre_eq_preRow]; exact HeytingValuesU_lifted os started H enc F)
theorem HeytingValuesUpto_holds : Rows.HeytingValuesUptoCardSaid :=
  Claim7.holds_tied_plain_at .later [] [.data, .data] true (true, "f51895cc30d3b5502e42c5965200da0814f62ff448adcac35df1d396ea5e06af") false
    HeytingValuesU_row (fun _ h => by cases h) (by kernel_rfl) (fun _ h => by cases h) heytingValuesUpto_row_tie rfl ⟨rfl, rfl⟩ (by kernel_rfl) rfl
    (fun f fn hf hfn => by
      obtain rfl : f = 11 := Option.some.inj ((show Tryd.prog.funcNamed "hasse/hasselaw.HeytingValues" = some 11 by kernel_rfl).symm.trans hf) |>.symm
      obtain rfl : fn = Tryd.f11 := (Option.some.inj (Tryd.func11.symm.trans hfn)).symm
      exact ⟨by kernel_rfl, fun j t ht => by
        rw [Tryd.params11] at ht
        have hm : t ∈ [64, 55, 22] := by simpa using Array.mem_of_getElem? ht
        have hall : ([64, 55, 22].all fun u => !Tryd.prog.wantsStandIn u) = true := by kernel_rfl
        exact (show Tryd.prog.wantsStandIn t = false by simpa using List.all_eq_true.1 hall t hm)⟩)
    (by kernel_rfl)
end Go.Proofs.YtbgecpjlopdkfaaDoor
