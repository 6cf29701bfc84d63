import Derived.Test.YtbgecpjlopdkfaaDoorHfj
import Derived.Test.YtbgecpjlopdkfaaDoorHej
import Derived.Test.YtbgecpjlopdkfaaDoorEngR
set_option linter.unusedSimpArgs false
set_option linter.unusedVariables false
set_option linter.unusedSectionVars false
set_option maxRecDepth 20000
namespace Go.Proofs.YtbgecpjlopdkfaaDoor
attribute [local irreducible] QOp aL aC qL
theorem nt_sml {t : Tr} (h : t.sml) : (ntF t).sml := by
  unfold ntF Tr.sml ksml ksml ksml
  refine ⟨by simp, h, ?_, trivial⟩
  unfold Tr.sml ksml
  exact ⟨Nat.zero_le _, trivial⟩
set_option maxRecDepth 20000 in
set_option maxHeartbeats 4000000 in
theorem HeytingGlivenko_ac (N : Int) (m w : List (List Int)) (k p : Int) (l : List Tr) (hs : (Tr.mk k p l).sml) (hB : (∀ r ∈ m, (∀ x ∈ r, I64 x) ∧ r.length ≤ big) ∧ m.length ≤ big) (hC : (∀ r ∈ w, (∀ x ∈ r, I64 x) ∧ r.length ≤ big) ∧ w.length ≤ big) :
    AC Tryd.prog 13 [latA N m w, .agg [.val (.int .i64 k), .val (.int .i64 p), tks l]] [] (.val (.bool true)) [] := by
  have hm : m.length ≤ 9223372036854775807 := by have := hB.2; unfold big at this; omega
  have hw : w.length ≤ 9223372036854775807 := by have := hC.2; unfold big at this; omega
  have hmr : ∀ r ∈ m, r.length ≤ 9223372036854775807 := fun r hr => (hB.1 r hr).2
  have hwr : ∀ r ∈ w, r.length ≤ 9223372036854775807 := fun r hr => (hC.1 r hr).2
  clear hB hC
  have kb := hbegun_ac
  have ed : (Tr.mk k p l).dep = 1 + kdep l := by unfold Tr.dep; rfl
  by_cases h : hck N m w = 0
  · obtain ⟨n, M, J, rfl, rfl, rfl, hL, hd, hD⟩ := hck_zero h
    by_cases h2 : (if fcw (.mk k p l) ≠ 0 then fcw (.mk k p l) else if 16 < n then 2 else 0) = 0
    · have hf : fcw (.mk k p l) = 0 := by
        by_cases e : fcw (.mk k p l) = 0
        · exact e
        · rw [if_pos e] at h2; exact h2
      rw [if_neg (by rw [hf]; decide)] at h2
      have h16 : n ≤ 16 := by
        by_cases e : 16 < n
        · rw [if_pos e] at h2; omega
        · omega
      have hf0 : (Tr.mk k p l).ffm = 0 := by
        have hf := hf
        unfold fcw at hf
        split at hf
        · omega
        · exact hf
      have k1 := HVd_ok hs hL hd h16 hf
      have kP := pairH_ac
      have k2 := HVd_ok hs pairL.1 pairL.2 (by decide) hf
      have kN1 := nots_ac k p l
      have kN2 := nots_ac 5 0 [.mk k p l, .mk 1 0 []]
      have hs2 : (Tr.mk 5 0 [.mk 5 0 [.mk k p l, .mk 1 0 []], .mk 1 0 []]).sml := nt_sml (nt_sml hs)
      have hnf : (Tr.mk 5 0 [.mk 5 0 [.mk k p l, .mk 1 0 []], .mk 1 0 []]).ffm = 0 := nt_ffm (nt_ffm hf0)
      have g1 : valB n M J (1 + kdep l) (.mk k p l) = true → 1 < n → valB 2 M2 J2 (1 + kdep l) (.mk k p l) = true := fun h h1 => gl_two hL hD h1 (by rw [ed]; exact Nat.le_refl _) hf0 h
      have g2 : valB 2 M2 J2 (1 + kdep l) (.mk k p l) = true → valB n M J (1 + kdep [.mk 5 0 [.mk k p l, .mk 1 0 []], .mk 1 0 []]) (.mk 5 0 [.mk 5 0 [.mk k p l, .mk 1 0 []], .mk 1 0 []]) = true := fun h => by
        have e := gl_not hL hD (d := 1 + kdep l) (t := .mk k p l) (by rw [ed]; exact Nat.le_refl _) hf0 h
        have h1 : (Tr.mk 1 0 []).dep = 1 := by unfold Tr.dep kdep; rfl
        have h5 : (Tr.mk 5 0 [.mk k p l, .mk 1 0 []]).dep = 1 + (1 + kdep l) := by
          rw [show (Tr.mk 5 0 [.mk k p l, .mk 1 0 []]).dep = 1 + kdep [.mk k p l, .mk 1 0 []] by unfold Tr.dep; rfl, kdep_two, h1, ed]; omega
        rw [kdep_two, h1, h5, show 1 + max (1 + (1 + kdep l)) (max 1 0) = 1 + kdep l + 2 by omega]
        exact e
      have k3 : AC Tryd.prog 43 [latA n (tn M) (tn J), ta3 5 0 [.mk 5 0 [.mk k p l, .mk 1 0 []], .mk 1 0 []]] [] (.tup [.val (.bool false), .val (.int .i64 2)]) [] ∨ AC Tryd.prog 43 [latA n (tn M) (tn J), ta3 5 0 [.mk 5 0 [.mk k p l, .mk 1 0 []], .mk 1 0 []]] [] (.tup [.val (.bool (valB n M J (1 + kdep [.mk 5 0 [.mk k p l, .mk 1 0 []], .mk 1 0 []]) (.mk 5 0 [.mk 5 0 [.mk k p l, .mk 1 0 []], .mk 1 0 []]))), .val (.int .i64 0)]) [] := by
        by_cases hw : fcw (Tr.mk 5 0 [.mk 5 0 [.mk k p l, .mk 1 0 []], .mk 1 0 []]) = 0
        · exact .inr (HVd_ok hs2 hL hd h16 hw)
        · left
          have e2 : fcw (Tr.mk 5 0 [.mk 5 0 [.mk k p l, .mk 1 0 []], .mk 1 0 []]) = 2 := by
            have hw := hw
            unfold fcw at hw ⊢
            split
            · rfl
            · rename_i hc
              rw [if_neg hc] at hw
              exact absurd hnf hw
          have := HVd_bad hs2 hL hd (by rw [if_pos hw]; exact hw)
          rw [if_pos hw, e2] at this
          exact this
      generalize valB n M J (1 + kdep l) (.mk k p l) = r at *
      have k2 : AC Tryd.prog 43 [latA 2 [[0, 0], [0, 1]] [[0, 1], [1, 1]], ta3 k p l] [] (.tup [.val (.bool (valB 2 M2 J2 (1 + kdep l) (.mk k p l))), .val (.int .i64 0)]) [] := k2
      generalize valB 2 M2 J2 (1 + kdep l) (.mk k p l) = r2 at *
      generalize valB n M J (1 + kdep [.mk 5 0 [.mk k p l, .mk 1 0 []], .mk 1 0 []]) (.mk 5 0 [.mk 5 0 [.mk k p l, .mk 1 0 []], .mk 1 0 []]) = r3 at *
      clear hf hf0 h2 h hd hnf hs2 hs
      clear hL hD
      generalize tn M = MM at *
      generalize tn J = JJ at *
      unfold ta3 tks at *
      have hcs : (r = true ∧ 1 < n ∧ r2 = true ∧ r3 = true) ∨ (r = true ∧ n ≤ 1 ∧ ((r2 = true ∧ r3 = true) ∨ r2 = false)) ∨ (r = false ∧ ((r2 = true ∧ r3 = true) ∨ r2 = false)) := by
        cases r
        · right; right
          refine ⟨rfl, ?_⟩
          cases r2
          · exact .inr rfl
          · exact .inl ⟨rfl, g2 rfl⟩
        · by_cases h1 : 1 < n
          · left
            exact ⟨rfl, h1, g1 rfl h1, g2 (g1 rfl h1)⟩
          · right; left
            refine ⟨rfl, by omega, ?_⟩
            cases r2
            · exact .inr rfl
            · exact .inl ⟨rfl, g2 rfl⟩
      clear g1 g2
      rcases k3 with k3 | k3 <;> rcases hcs with ⟨rfl, h1, rfl, rfl⟩ | ⟨rfl, h1, ⟨rfl, rfl⟩ | rfl⟩ | ⟨rfl, ⟨rfl, rfl⟩ | rfl⟩
      all_goals
        refine AC.mk (n := 60) (fn := Tryd.f13) Tryd.func13 (by kernel_rfl) rfl rfl rfl rfl (fun cx => ?_); dsimp only [argv, Nat.reduceAdd]
        (repeat' (first | refine a_seq ?_ | refine a_region ?_ | refine l_nil ?_ | (apply w_q; (focus (first | exact Q_assign (by conv => lhs; whnf))); (focus exact rfl)) | refine w_box rfl rfl (by first|(dsimp only[obA,obB,obD,obE,obF,obG,obI,List.map,AO.sh,AV.sh,AV.shl,Nat.reduceAdd];done)|exact rfl) (by first|(dsimp only[obA,obB,obD,obE,obF,obG,obI,List.map,AO.sh,AV.sh,AV.shl,Nat.reduceAdd];done)|exact rfl) rfl ?_)); (try all_goals (try show retA _ _ _ _ _ _ _))
        refine w_freezeB 0 [.val (.int .i64 n), .sl 1 (rowc MM), .sl 1 (rowc JJ)] rfl rfl (by simp only [fbv_nil, fbv_cons, fbl_nil, fbl_cons, fbo_nil, fbo_cons, fbo_box, fbo_row, fbo_gone, fb_own, fb_val, fb_ro, fb_rpt, fb_ptr, fb_ept, fb_agg, fb_tup, fb_clo, fb_ints, fb_rows, fb_pairs, fb_ords, Nat.reduceEqDiff, ↓reduceIte, List.set_cons_zero, List.set_cons_succ]; exact rfl) (by simp only [fbv_nil, fbv_cons, fbl_nil, fbl_cons, fbo_nil, fbo_cons, fbo_box, fbo_row, fbo_gone, fb_own, fb_val, fb_ro, fb_rpt, fb_ptr, fb_ept, fb_agg, fb_tup, fb_clo, fb_ints, fb_rows, fb_pairs, fb_ords, Nat.reduceEqDiff, ↓reduceIte, List.set_cons_zero, List.set_cons_succ]; exact rfl) ?_
        refine w_freezeB 1 [.val (.int .i64 k), .val (.int .i64 p), .sl 3 (kdc l)] rfl rfl (by simp only [fbv_nil, fbv_cons, fbl_nil, fbl_cons, fbo_nil, fbo_cons, fbo_box, fbo_row, fbo_gone, fb_own, fb_val, fb_ro, fb_rpt, fb_ptr, fb_ept, fb_agg, fb_tup, fb_clo, fb_ints, fb_rows, fb_pairs, fb_ords, Nat.reduceEqDiff, ↓reduceIte, List.set_cons_zero, List.set_cons_succ]; exact rfl) (by simp only [fbv_nil, fbv_cons, fbl_nil, fbl_cons, fbo_nil, fbo_cons, fbo_box, fbo_row, fbo_gone, fb_own, fb_val, fb_ro, fb_rpt, fb_ptr, fb_ept, fb_agg, fb_tup, fb_clo, fb_ints, fb_rows, fb_pairs, fb_ords, Nat.reduceEqDiff, ↓reduceIte, List.set_cons_zero, List.set_cons_succ]; exact rfl) ?_
        (repeat' (first | refine a_seq ?_ | refine a_skip ?_ | refine a_region ?_ | refine l_nil ?_ | (apply w_q; (focus (first | exact Q_move (by conv => lhs; whnf) | exact Q_assign (by conv => lhs; whnf) | exact Q_neq rfl rfl | exact Q_ld_rpa rfl KAg.h rfl rfl (by first | (dsimp only [List.drop_zero, List.drop_succ_cons, List.take_succ_cons, List.take_zero, List.map, ofD]; done) | exact rfl) | exact Q_extract rfl (by conv => lhs; whnf) | exact Q_not rfl)); (focus exact rfl)) | (refine a_cond rfl ?_ ?_ <;> (intro h; (try (have hp := of_decide_eq_true h)); (try (have hp := of_decide_eq_false h)); (try contradiction); (try (exfalso; omega)))) | (((first | apply w_q); (focus (refine Q_call (.inl ⟨rfl, rfl⟩) (kb) ?_; ((repeat' (first | exact trivial)); done))); (focus exact rfl))) | ((refine w_callV (.inl ⟨rfl, rfl⟩) (k1) ?_ (by first | (dsimp only [AV.sh, AV.shl, sh_ints, sh_rows, sh_pairs, sh_ords]; done) | exact rfl) rfl ?_; rotate_left 0; (focus ((repeat' (first | exact trivial | exact Vs.val _ | exact Vs.ro _ | refine Vs.agg' ?_ | refine ⟨?_, ?_⟩)); done)); rotate_left 1; all_goals (try (skip)))))); (try all_goals (try show retA _ _ _ _ _ _ _))
      all_goals first
        | (exfalso; omega)
        | (exfalso; simp_all; done)
        | skip
      all_goals
        (repeat' (first | (refine a_holdRN (id := 6) (by kernel_rfl) rfl ?_; apply rw_first 1 rfl (by kernel_rfl); (focus (first | exact R_ld_rpa rfl KAg.h rfl (by first | (dsimp only [List.map, ofD]; done) | exact rfl))); (focus exact rfl); refine rw_frame (fun _ _ => ?_)) | refine xh_step (listed := [false, true, false, false, false, false, false, false]) (i := 0) (is := []) (by kernel_rfl) ⟨⟨_, rfl, ?_⟩, trivial⟩ | refine xh_step (listed := [true, true, false, false, false, false, false, false]) (i := 2) (is := []) (by kernel_rfl) ⟨⟨_, rfl, ?_⟩, trivial⟩ | (apply xw_first (listed := [true, true, true, false, false, false, false, false]) 3 rfl (by kernel_rfl); (focus (first | exact P_move (by conv => lhs; whnf))); (focus exact rfl)) | (apply xw_first (listed := [true, true, true, true, false, false, false, false]) 4 rfl (by kernel_rfl); (focus (first | exact P_extract rfl (by conv => lhs; whnf))); (focus exact rfl)) | (apply xw_first (listed := [true, true, true, true, true, false, false, false]) 5 rfl (by kernel_rfl); (focus (first | exact P_extract rfl (by conv => lhs; whnf))); (focus exact rfl)) | (apply xw_first (listed := [true, true, true, true, true, true, false, false]) 6 rfl (by kernel_rfl); (focus (first | exact P_assign (by conv => lhs; whnf))); (focus exact rfl)) | (apply xw_first (listed := [true, true, true, true, true, true, true, false]) 7 rfl (by kernel_rfl); (focus (first | exact P_assign (by conv => lhs; whnf))); (focus exact rfl)) | refine xh_done (listed := [true, true, true, true, true, true, true, true]) (by kernel_rfl) ?_ | (refine a_holdRN (id := 9) (by kernel_rfl) rfl ?_; apply rw_first 0 rfl (by kernel_rfl); (focus (first | exact R_ld_rpa rfl KAg.h rfl (by first | (dsimp only [List.map, ofD]; done) | exact rfl))); (focus exact rfl); apply rw_first 1 rfl (by kernel_rfl); (focus (first | exact R_ld_rpa rfl KAg.h rfl (by first | (dsimp only [List.map, ofD]; done) | exact rfl))); (focus exact rfl); refine rw_frame (fun _ _ => ?_)) | refine xh_step (listed := [true, true, false, false, false, false, false, false, false, false]) (i := 2) (is := []) (by kernel_rfl) ⟨⟨_, rfl, ?_⟩, trivial⟩ | refine xh_step (listed := [true, true, true, false, false, false, false, false, false, false]) (i := 3) (is := []) (by kernel_rfl) ⟨⟨_, rfl, ?_⟩, trivial⟩ | refine xh_step (listed := [true, true, true, true, false, false, false, false, false, false]) (i := 4) (is := []) (by kernel_rfl) ⟨⟨_, rfl, ?_⟩, trivial⟩ | (apply xw_first (listed := [true, true, true, true, true, false, false, false, false, false]) 5 rfl (by kernel_rfl); (focus (first | exact P_move (by conv => lhs; whnf))); (focus exact rfl)) | (apply xw_first (listed := [true, true, true, true, true, true, false, false, false, false]) 6 rfl (by kernel_rfl); (focus (first | exact P_extract rfl (by conv => lhs; whnf))); (focus exact rfl)) | (apply xw_first (listed := [true, true, true, true, true, true, true, false, false, false]) 7 rfl (by kernel_rfl); (focus (first | exact P_extract rfl (by conv => lhs; whnf))); (focus exact rfl)) | (apply xw_first (listed := [true, true, true, true, true, true, true, true, false, false]) 8 rfl (by kernel_rfl); (focus (first | exact P_assign (by conv => lhs; whnf))); (focus exact rfl)) | (apply xw_first (listed := [true, true, true, true, true, true, true, true, true, false]) 9 rfl (by kernel_rfl); (focus (first | exact P_assign (by conv => lhs; whnf))); (focus exact rfl)) | refine xh_done (listed := [true, true, true, true, true, true, true, true, true, true]) (by kernel_rfl) ?_ | refine a_seq ?_ | refine a_skip ?_ | refine a_ret ?_ | refine a_region ?_ | refine l_nil ?_ | ((first | apply w_q); (focus (first | exact Q_move (by conv => lhs; whnf) | exact Q_assign (by conv => lhs; whnf) | exact Q_fieldAddr_rpt rfl KFl.h | exact Q_gtr rfl rfl | exact Q_eql rfl rfl | exact Q_neq rfl rfl | exact Q_ld_rv rfl rfl KSc.h | exact Q_not rfl | exact Q_pick_t rfl (by assumption) (by conv => lhs; whnf) | exact Q_pick_f rfl (by assumption) (by conv => lhs; whnf) | exact Q_pick_t rfl rfl (by conv => lhs; whnf))); (focus exact rfl)) | (refine a_cond rfl ?_ ?_ <;> (intro h; (try (have hp := of_decide_eq_true h)); (try (have hp := of_decide_eq_false h)); (try contradiction); (try (exfalso; omega)))) | refine w_guard_u rfl rfl rfl ?_ | refine w_guard_y rfl rfl rfl (by first | assumption | rfl) ?_ | refine w_guard_n rfl rfl rfl (by first | assumption | rfl) ?_ | ((first | refine w_guard rfl rfl rfl ?_ ?_) <;> (intro h; (try (have hp := of_decide_eq_true h)); (try (have hp := of_decide_eq_false h)); (try contradiction); (try (exfalso; omega)))) | ((refine w_callV (.inl ⟨rfl, rfl⟩) (kP) ?_ (by first | (dsimp only [AV.sh, AV.shl, sh_ints, sh_rows, sh_pairs, sh_ords]; done) | exact rfl) rfl ?_; rotate_left 0; (focus ((repeat' (first | exact trivial)); done)); rotate_left 1; all_goals (try (skip)))) | ((refine w_callV (.inl ⟨rfl, rfl⟩) (k2) ?_ (by first | (dsimp only [AV.sh, AV.shl, sh_ints, sh_rows, sh_pairs, sh_ords]; done) | exact rfl) rfl ?_; rotate_left 0; (focus ((repeat' (first | exact trivial | exact Vs.val _ | exact Vs.ro _ | refine Vs.agg' ?_ | refine ⟨?_, ?_⟩)); done)); rotate_left 1; all_goals (try (skip)))) | ((refine w_callV (.inl ⟨rfl, rfl⟩) (kN1) ?_ (by first | (dsimp only [AV.sh, AV.shl, sh_ints, sh_rows, sh_pairs, sh_ords]; done) | exact rfl) rfl ?_; rotate_left 0; (focus ((repeat' (first | exact trivial | exact Vs.val _ | exact Vs.ro _ | refine Vs.agg' ?_ | refine ⟨?_, ?_⟩)); done)); rotate_left 1; all_goals (try (skip)))) | ((refine w_callV (.inl ⟨rfl, rfl⟩) (kN2) ?_ (by first | (dsimp only [AV.sh, AV.shl, sh_ints, sh_rows, sh_pairs, sh_ords]; done) | exact rfl) rfl ?_; rotate_left 0; (focus ((repeat' (first | exact trivial | exact Vs.val _ | exact Vs.ro _ | refine Vs.agg' ?_ | refine ⟨?_, ?_⟩)); done)); rotate_left 1; all_goals (try (skip)))) | ((refine w_callV (.inl ⟨rfl, rfl⟩) (k3) ?_ (by first | (dsimp only [AV.sh, AV.shl, sh_ints, sh_rows, sh_pairs, sh_ords]; done) | exact rfl) rfl ?_; rotate_left 0; (focus ((repeat' (first | exact trivial | exact Vs.val _ | exact Vs.ro _ | refine Vs.agg' ?_ | refine ⟨?_, ?_⟩)); done)); rotate_left 1; all_goals (try (skip)))))); (try all_goals (try show retA _ _ _ _ _ _ _))
      all_goals first
        | (exfalso; omega)
        | (exfalso; simp_all; done)
        | (refine ⟨[_], [], ⟨resV_tmp (by conv => lhs; whnf), trivial⟩, VwOs.mk (by decide) trivial, ?_, rfl⟩; exact Vw.bool' (by simp))
        | (refine ⟨[_], [], ⟨resV_tmp (by conv => lhs; whnf), trivial⟩, VwOs.mk (by decide) trivial, ?_, rfl⟩; exact Vw.bool' (by simp_all))
        | (all_goals trace_state); fail
    · have k1 := HVd_bad hs hL hd h2
      generalize (if fcw (.mk k p l) ≠ 0 then fcw (.mk k p l) else if 16 < n then 2 else 0) = e at *
      clear hL hD hd h
      generalize tn M = MM at *
      generalize tn J = JJ at *
      unfold ta3 tks at *
      refine AC.mk (n := 60) (fn := Tryd.f13) Tryd.func13 (by kernel_rfl) rfl rfl rfl rfl (fun cx => ?_); dsimp only [argv, Nat.reduceAdd]
      (repeat' (first | refine a_seq ?_ | refine a_skip ?_ | refine a_ret ?_ | refine a_region ?_ | refine l_nil ?_ | (apply w_q; (focus (first | exact Q_move (by conv => lhs; whnf) | exact Q_assign (by conv => lhs; whnf) | exact Q_load_all rfl rfl KAg.h | exact Q_neq rfl rfl | exact Q_extract rfl (by conv => lhs; whnf) | exact Q_not rfl)); (focus exact rfl)) | (refine a_cond rfl ?_ ?_ <;> (intro h; (try (have hp := of_decide_eq_true h)); (try (have hp := of_decide_eq_false h)); (try contradiction); (try (exfalso; omega)))) | refine w_box rfl rfl (by first|(dsimp only[obA,obB,obD,obE,obF,obG,obI,List.map,AO.sh,AV.sh,AV.shl,Nat.reduceAdd];done)|exact rfl) (by first|(dsimp only[obA,obB,obD,obE,obF,obG,obI,List.map,AO.sh,AV.sh,AV.shl,Nat.reduceAdd];done)|exact rfl) rfl ?_ | (((first | apply w_q); (focus (refine Q_call (.inl ⟨rfl, rfl⟩) (kb) ?_; ((repeat' (first | exact trivial)); done))); (focus exact rfl))) | ((refine w_callV (.inl ⟨rfl, rfl⟩) (k1) ?_ (by first | (dsimp only [AV.sh, AV.shl, sh_ints, sh_rows, sh_pairs, sh_ords]; done) | exact rfl) rfl ?_; rotate_left 0; (focus ((repeat' (first | exact trivial | exact Vs.val _ | exact Vs.ro _ | refine Vs.agg' ?_ | refine ⟨?_, ?_⟩)); done)); rotate_left 1; all_goals (try (skip)))))); (try all_goals (try show retA _ _ _ _ _ _ _))
      all_goals first
        | (exfalso; omega)
        | (exfalso; simp_all; done)
        | (refine ⟨[_], [], ⟨resV_tmp (by conv => lhs; whnf), trivial⟩, VwOs.mk (by decide) trivial, ?_, rfl⟩; (repeat' (first | exact vwR rfl)); done)
        | (all_goals trace_state); fail
  · have k1 := HVd_err hs N m w hm hw hmr hwr h
    generalize hck N m w = e at *
    unfold ta3 tks at *
    refine AC.mk (n := 60) (fn := Tryd.f13) Tryd.func13 (by kernel_rfl) rfl rfl rfl rfl (fun cx => ?_); dsimp only [argv, Nat.reduceAdd]
    (repeat' (first | refine a_seq ?_ | refine a_skip ?_ | refine a_ret ?_ | refine a_region ?_ | refine l_nil ?_ | (apply w_q; (focus (first | exact Q_move (by conv => lhs; whnf) | exact Q_assign (by conv => lhs; whnf) | exact Q_load_all rfl rfl KAg.h | exact Q_neq rfl rfl | exact Q_extract rfl (by conv => lhs; whnf) | exact Q_not rfl)); (focus exact rfl)) | (refine a_cond rfl ?_ ?_ <;> (intro h; (try (have hp := of_decide_eq_true h)); (try (have hp := of_decide_eq_false h)); (try contradiction); (try (exfalso; omega)))) | refine w_box rfl rfl (by first|(dsimp only[obA,obB,obD,obE,obF,obG,obI,List.map,AO.sh,AV.sh,AV.shl,Nat.reduceAdd];done)|exact rfl) (by first|(dsimp only[obA,obB,obD,obE,obF,obG,obI,List.map,AO.sh,AV.sh,AV.shl,Nat.reduceAdd];done)|exact rfl) rfl ?_ | (((first | apply w_q); (focus (refine Q_call (.inl ⟨rfl, rfl⟩) (kb) ?_; ((repeat' (first | exact trivial)); done))); (focus exact rfl))) | ((refine w_callV (.inl ⟨rfl, rfl⟩) (k1) ?_ (by first | (dsimp only [AV.sh, AV.shl, sh_ints, sh_rows, sh_pairs, sh_ords]; done) | exact rfl) rfl ?_; rotate_left 0; (focus ((repeat' (first | exact trivial | exact Vs.val _ | exact Vs.ro _ | refine Vs.agg' ?_ | refine ⟨?_, ?_⟩)); done)); rotate_left 1; all_goals (try (skip)))))); (try all_goals (try show retA _ _ _ _ _ _ _))
    all_goals first
      | (exfalso; omega)
      | (exfalso; simp_all; done)
      | (refine ⟨[_], [], ⟨resV_tmp (by conv => lhs; whnf), trivial⟩, VwOs.mk (by decide) trivial, ?_, rfl⟩; (repeat' (first | exact vwR rfl)); done)
      | (all_goals trace_state); fail
end Go.Proofs.YtbgecpjlopdkfaaDoor
