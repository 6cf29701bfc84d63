import Derived.Test.YtgojkabjgagjcaaDoorHej
import Derived.Test.YtgojkabjgagjcaaDoorHek
import Derived.Test.YtgojkabjgagjcaaDoorKa
import Derived.Test.YtgojkabjgagjcaaDoorEngZn
import Derived.Test.YtgojkabjgagjcaaDoorFq
set_option linter.unusedSimpArgs false
set_option linter.unusedVariables false
set_option linter.unusedSectionVars false
set_option maxRecDepth 20000
namespace Go.Proofs.YtgojkabjgagjcaaDoor
open Go.ChangeShapes Go.WideShapes Go.ChangeAt Go.RowKit
attribute [local irreducible] QOp aL aC qL
attribute [local irreducible] FOp POp hL xH
theorem PlaceY_ac (l : List Int) (x : Int) (hl : l.length ≤ 9223372036854775807) : AC Tryd.prog 36 [ints l, .val (.int .i64 x)] [] (.val (.int .i64 (idx (fun y => decide (y = x)) l))) [] := by
  refine AC.mk (n := 19) (fn := Tryd.f36) Tryd.func36 (by kernel_rfl) rfl rfl rfl rfl (fun cx => ?_); dsimp only [argv, Nat.reduceAdd]
  (repeat' (first | refine a_seq ?_ | refine a_block ?_ | refine a_region ?_ | refine l_nil ?_ | (apply w_q; (focus (first | exact Q_assign (by conv => lhs; whnf))); (focus exact rfl)))); (try all_goals (try show retA _ _ _ _ _ _ _))
  (refine w_loop (X := Nat) [0, 1] (by simp only [keepv, getv_cons, Nat.reduceEqDiff, ↓reduceIte]; exact rfl) (fun k => [(5, .val (.int .i64 (k : Int)))]) (fun _ => []) (fun k => k ≤ l.length ∧ ∀ j, j < k → (fun i => ¬ l.getD i 0 = x) j) (fun k => l.length - k) (0) ([]) ?_ ?_ rfl ?_ <;> (try dsimp only [List.cons_append, List.nil_append]); (focus exact ⟨Nat.zero_le _, fun j hj => absurd hj (Nat.not_lt_zero _)⟩); (focus (refine St.le_mk rfl (VwOs.mk (by decide) ?_) ?_ <;> (repeat' (first | exact trivial | exact vwR rfl | exact Vw.ro _ | refine ⟨?_, ?_⟩ )))); rintro k ⟨hk, hall⟩; try dsimp only at *)
  have hs1 : k < l.length → l.getD k 0 = x → idx (fun y => decide (y = x)) l = k := fun h1 h2 => idx_some h1 (fun i h3 h4 => decide_eq_false (by rw [← getD_of h3 0]; exact hall i h4)) (decide_eq_true (by rw [← getD_of h1 0]; exact h2))
  have hs2 : k = l.length → idx (fun y => decide (y = x)) l = -1 := fun h1 => idx_none fun i h2 => decide_eq_false (by rw [← getD_of h2 0]; exact hall i (by omega))
  (repeat' (first | refine a_seq ?_ | refine a_block ?_ | refine a_skip ?_ | refine a_ret ?_ | refine a_exit ?_ | refine a_region ?_ | refine l_nil ?_ | (apply w_q; (focus (first | exact Q_move (by conv => lhs; whnf) | exact Q_assign (by conv => lhs; whnf) | exact Q_lss rfl rfl | exact Q_eql rfl rfl | exact Q_add rfl rfl (by omega) | exact Q_ix_ints rfl rfl rfl KSl.h (by omega) | exact Q_ld_ints rfl (by omega) KSc.h | exact Q_len_ints rfl KSl.h)); (focus exact rfl)) | (refine a_cond rfl ?_ ?_ <;> (intro h; (try (have hp := of_decide_eq_true h)); (try (have hp := of_decide_eq_false h)); (try contradiction); (try (exfalso; omega)))))); (try all_goals (try show retA _ _ _ _ _ _ _))
  all_goals first
    | (exfalso; omega)
    | ((refine ⟨k + 1, [], ?_, ?_, ?_, rfl⟩ <;> (try dsimp only); (focus (refine ⟨by omega, fun j hj => ?_⟩; by_cases hq : j = k; (focus (subst hq; assumption)); (focus exact hall j (by omega)))); (focus omega); (focus (refine St.le_mk rfl (VwOs.mk (by decide) ?_) ?_ <;> (repeat' (first | exact trivial | exact vwR rfl | exact Vw.ro _ | refine ⟨?_, ?_⟩ ))))); done)
    | (rw [hs1 (by omega) (by assumption)]; refine ⟨[_], [], ⟨resV_tmp (by conv => lhs; whnf), trivial⟩, VwOs.mk (by decide) trivial, ?_, rfl⟩; (repeat' (first | exact vwR rfl)); done)
    | (rw [hs2 (by omega)]; refine ⟨[_], [], ⟨resV_tmp (by conv => lhs; whnf), trivial⟩, VwOs.mk (by decide) trivial, ?_, rfl⟩; (repeat' (first | exact vwR rfl)); done)
    | (all_goals trace_state); fail
theorem placeY_in {L : List Nat} {x : Nat} (h : x ∈ L) : 0 ≤ idx (fun y => decide (y = (x : Int))) (nl L) := by
  cases hq : (nl L).any (fun y => decide (y = (x : Int)))
  · rw [List.any_eq_false] at hq
    have := hq (x : Int) (by unfold nl; exact List.mem_map.2 ⟨x, h, rfl⟩)
    simp at this
  · have := idx_any (fun y => decide (y = (x : Int))) (nl L)
    rw [hq] at this
    exact of_decide_eq_true this
set_option maxRecDepth 20000 in
set_option maxHeartbeats 4000000 in
theorem HeytingCloses_ac (N : Int) (m w : List (List Int)) (hb : (∀ r ∈ m, (∀ x ∈ r, I64 x) ∧ r.length ≤ big) ∧ m.length ≤ big) (hc : (∀ r ∈ w, (∀ x ∈ r, I64 x) ∧ r.length ≤ big) ∧ w.length ≤ big) : AC Tryd.prog 9 [latA N m w] [] (.val (.bool true)) [] := by
  have hm : m.length ≤ 9223372036854775807 := by have := hb.2; unfold big at this; omega
  have hw : w.length ≤ 9223372036854775807 := by have := hc.2; unfold big at this; omega
  have hmr : ∀ r ∈ m, r.length ≤ 9223372036854775807 := fun r hr => by have := (hb.1 r hr).2; unfold big at this; omega
  have hwr : ∀ r ∈ w, r.length ≤ 9223372036854775807 := fun r hr => by have := (hc.1 r hr).2; unfold big at this; omega
  have kb := hbegun_ac
  have kC := CheckHeyting_ac N m w hm hw hmr hwr
  by_cases h : hck N m w = 0
  · obtain ⟨n, M, J, rfl, rfl, rfl, hL, hd, hD⟩ := hck_zero h
    have kR := HReg_ok n M J hL hd
    have kB := HBoo_ok n M J hL hd
    rw [oneB_is hL hD] at kB
    have kO := fun x hx => Oth_ok n M J x hL hx
    have kI := fun x y (hx : x < n) (hy : y < n) => HImp_ok hL hd hx hy
    have hl := rgT_len n M J n
    have hn2 := hL.n2
    have hM := hL.sM
    have hR1 : ∀ i, i < (rgT n M J n).length → (rgT n M J n).getD i 0 ∈ rgT n M J n := fun i hi => by rw [getD_of hi]; exact List.getElem_mem hi
    have hR0 : ∀ x, x ∈ rgT n M J n → x < n := fun x hx => ((rgT_mem hL hD).1 hx).1
    have hP1 : ∀ x y, x ∈ rgT n M J n → y ∈ rgT n M J n → 0 ≤ idx (fun z => decide (z = (ta M x y : Int))) (nl (rgT n M J n)) := fun x y hx hy => placeY_in (rg_meet hL hD hx hy)
    have hP2 : ∀ x y, x ∈ rgT n M J n → y ∈ rgT n M J n → 0 ≤ idx (fun z => decide (z = (impV n M J x y : Int))) (nl (rgT n M J n)) := fun x y hx hy => placeY_in (rg_imp hL hD hx hy)
    have hE := oneB_succ n M J
    have hE0 : oneB n M J 0 = true := rfl
    have hol : ∀ x, (othN n M J x).length ≤ n := fun x => othT_len M J x (endE (ta M) n) (endE (ta J) n) n
    have kP := fun x => PlaceY_ac (nl (rgT n M J n)) x (by rw [nl_len]; omega)
    clear hd hD h
    generalize rgT n M J n = R at *
    generalize hEE : oneB n M J = E at *
    refine AC.mk (n := 134) (fn := Tryd.f9) Tryd.func9 (by kernel_rfl) rfl rfl rfl rfl (fun cx => ?_); dsimp only [argv, Nat.reduceAdd]
    (repeat' (first | refine a_seq ?_ | refine a_block ?_ | refine a_skip ?_ | refine a_region ?_ | refine l_nil ?_ | (apply w_q; (focus (first | exact Q_move (by conv => lhs; whnf) | exact Q_assign (by conv => lhs; whnf) | exact Q_load_all rfl rfl KAg.h | exact Q_neq rfl rfl | exact Q_extract rfl (by conv => lhs; whnf) | exact Q_not rfl)); (focus exact rfl)) | (refine a_cond rfl ?_ ?_ <;> (intro h; (try (have hp := of_decide_eq_true h)); (try (have hp := of_decide_eq_false h)); (try contradiction); (try (exfalso; omega)))) | refine w_box rfl rfl (by first|(dsimp only[obA,obB,obD,obE,obF,obG,obI,List.map,AO.sh,AV.sh,AV.shl,Nat.reduceAdd];done)|exact rfl) (by first|(dsimp only[obA,obB,obD,obE,obF,obG,obI,List.map,AO.sh,AV.sh,AV.shl,Nat.reduceAdd];done)|exact rfl) rfl ?_ | ((refine w_callR (res := .tup [.own 0, .val (.int .i64 0)]) (news := [.row 3 1 (intc (nl R))]) (.inl ⟨rfl, rfl⟩) (kR) ?_ ?_ ?_ rfl (by repeat' (first | exact trivial | exact flat_ints _ _ | refine ⟨?_, ?_⟩)) (by first|(dsimp only[obA,obB,obD,obE,obF,obG,obI,List.map,AO.sh,AV.sh,AV.shl,Nat.reduceAdd];done)|exact rfl) (by first|(dsimp only[obA,obB,obD,obE,obF,obG,obI,List.map,AO.sh,AV.sh,AV.shl,Nat.reduceAdd];done)|exact rfl) rfl ?_; rotate_left 0; (focus exact rfl); (focus exact rfl); (focus ((repeat' (first | exact trivial | exact vwR rfl | exact Vw.ro _ | refine Vw.agg' ?_ | refine ⟨?_, ?_⟩ )); done)); rotate_left 1; all_goals (try (skip)))) | ((refine w_callV (.inl ⟨rfl, rfl⟩) (kB) ?_ (by first | (dsimp only [AV.sh, AV.shl, sh_ints, sh_rows, sh_pairs, sh_ords]; done) | exact rfl) rfl ?_; rotate_left 0; (focus ((repeat' (first | exact trivial | exact Vs.val _ | exact Vs.ro _ | refine Vs.agg' ?_ | refine ⟨?_, ?_⟩)); done)); rotate_left 1; all_goals (try (skip)))) | (((first | apply w_q); (focus (refine Q_call (.inl ⟨rfl, rfl⟩) (kb) ?_; ((repeat' (first | exact trivial)); done))); (focus exact rfl))))); (try all_goals (try show retA _ _ _ _ _ _ _))
    all_goals first
      | (exfalso; omega)
      | skip
    refine w_freezeAC 1 rfl (by simp only [frv_nil, frv_cons, frl_nil, frl_cons, fro_nil, fro_cons, fro_box, fro_row, fro_gone, fr_own, fr_val, fr_ro, fr_rpt, fr_ptr, fr_ept, fr_agg, fr_tup, fr_clo, fr_ints, fr_rows, fr_pairs, fr_ords, Nat.reduceEqDiff, ↓reduceIte, List.set_cons_zero, List.set_cons_succ]; exact rfl) (by simp only [frv_nil, frv_cons, frl_nil, frl_cons, fro_nil, fro_cons, fro_box, fro_row, fro_gone, fr_own, fr_val, fr_ro, fr_rpt, fr_ptr, fr_ept, fr_agg, fr_tup, fr_clo, fr_ints, fr_rows, fr_pairs, fr_ords, Nat.reduceEqDiff, ↓reduceIte, List.set_cons_zero, List.set_cons_succ]; exact rfl) ?_
    refine w_freezeBC 0 [.val (.int .i64 n), .sl 1 (rowc (tn M)), .sl 1 (rowc (tn J))] rfl rfl (by simp only [fbv_nil, fbv_cons, fbl_nil, fbl_cons, fbo_nil, fbo_cons, fbo_box, fbo_row, fbo_gone, fb_own, fb_val, fb_ro, fb_rpt, fb_ptr, fb_ept, fb_agg, fb_tup, fb_clo, fb_ints, fb_rows, fb_pairs, fb_ords, Nat.reduceEqDiff, ↓reduceIte, List.set_cons_zero, List.set_cons_succ]; exact rfl) (by simp only [fbv_nil, fbv_cons, fbl_nil, fbl_cons, fbo_nil, fbo_cons, fbo_box, fbo_row, fbo_gone, fb_own, fb_val, fb_ro, fb_rpt, fb_ptr, fb_ept, fb_agg, fb_tup, fb_clo, fb_ints, fb_rows, fb_pairs, fb_ords, Nat.reduceEqDiff, ↓reduceIte, List.set_cons_zero, List.set_cons_succ]; exact rfl) ?_
    refine w_loop (X := Nat) [1, 3, 5, 6] (by simp only [keepv, getv_cons, Nat.reduceEqDiff, ↓reduceIte]; exact rfl) (fun i => [(7, .val (.int .i64 (i : Nat)))]) (fun _ => [.gone, .gone]) (fun i => i ≤ R.length) (fun i => R.length - i) (0) ([0, 1]) ?_ ?_ rfl ?_ <;> (try dsimp only [List.cons_append, List.nil_append])
    · exact Nat.zero_le _
    · (refine St.le_mk rfl (VwOs.mk (by decide) ?_) ?_ <;> (repeat' (first | exact trivial | exact vwR rfl | exact VwO.gone _ | refine ⟨⟨_, rfl, ?_⟩, ?_⟩ | refine ⟨?_, ?_⟩ )))
    rintro i hi
    by_cases hil : i < R.length
    · have hx := hR0 _ (hR1 i hil)
      (repeat' (first | refine a_seq ?_ | refine a_block ?_ | refine a_skip ?_ | refine a_region ?_ | refine l_nil ?_ | refine q_nil ?_ | ((first | apply w_q | apply w_qq); (focus (first | exact Q_move (by conv => lhs; whnf) | exact Q_assign (by conv => lhs; whnf) | exact Q_fieldAddr_rpt rfl KFl.h | exact Q_lss rfl rfl | exact Q_geq rfl rfl | exact Q_add rfl rfl (by omega) | exact Q_ix_nats rfl rfl rfl KSl.h (by omega) | exact Q_ld_rv rfl rfl KSc.h | exact Q_ld_nats rfl (by omega) KSc.h | exact Q_len_nats rfl KSl.h | exact Q_pick_f rfl (by assumption) (by conv => lhs; whnf))); (focus exact rfl)) | (refine a_cond rfl ?_ ?_ <;> (intro h; (try (have hp := of_decide_eq_true h)); (try (have hp := of_decide_eq_false h)); (try contradiction); (try (exfalso; omega)))) | refine w_qguard_y rfl rfl rfl (by first | assumption | rfl) ?_ | refine a_draw (by kernel_rfl) (by kernel_rfl) ?_)); (try all_goals (try show retA _ _ _ _ _ _ _))
      all_goals first
        | (exfalso; omega)
        | (exfalso; simp at *; omega)
        | (refine ⟨i + 1, [0, 1], ?_, ?_, ?_, rfl⟩ <;> (try dsimp only)
           · omega
           · omega
           · (refine St.le_mk rfl (VwOs.mk (by decide) ?_) ?_ <;> (repeat' (first | exact trivial | exact vwR rfl | exact VwO.gone _ | refine ⟨⟨_, rfl, ?_⟩, ?_⟩ | refine ⟨?_, ?_⟩ ))))
        | (all_goals trace_state); fail
    obtain rfl : i = R.length := by omega
    (repeat' (first | refine a_seq ?_ | refine a_block ?_ | refine a_exit ?_ | refine a_region ?_ | refine l_nil ?_ | (apply w_q; (focus (first | exact Q_move (by conv => lhs; whnf) | exact Q_assign (by conv => lhs; whnf) | exact Q_lss rfl rfl | exact Q_len_nats rfl KSl.h)); (focus exact rfl)) | (refine a_cond rfl ?_ ?_ <;> (intro h; (try (have hp := of_decide_eq_true h)); (try (have hp := of_decide_eq_false h)); (try contradiction); (try (exfalso; omega)))))); (try all_goals (try show retA _ _ _ _ _ _ _))
    all_goals first
      | (exfalso; omega)
      | skip
    refine w_loop (X := Nat) [1, 3, 5, 6] (by simp only [keepv, getv_cons, Nat.reduceEqDiff, ↓reduceIte]; exact rfl) (fun i => [(8, .val (.int .i64 (i : Nat)))]) (fun _ => [.gone, .gone]) (fun i => i ≤ R.length) (fun i => R.length - i) (0) ([0, 1]) ?_ ?_ rfl ?_ <;> (try dsimp only [List.cons_append, List.nil_append])
    · exact Nat.zero_le _
    · (refine St.le_mk rfl (VwOs.mk (by decide) ?_) ?_ <;> (repeat' (first | exact trivial | exact vwR rfl | exact VwO.gone _ | refine ⟨⟨_, rfl, ?_⟩, ?_⟩ | refine ⟨?_, ?_⟩ )))
    rintro i hi
    by_cases hil : i < R.length
    · (repeat' (first | refine a_seq ?_ | refine a_block ?_ | refine a_skip ?_ | refine a_region ?_ | refine l_nil ?_ | (apply w_q; (focus (first | exact Q_move (by conv => lhs; whnf) | exact Q_assign (by conv => lhs; whnf) | exact Q_lss rfl rfl | exact Q_len_nats rfl KSl.h)); (focus exact rfl)) | (refine a_cond rfl ?_ ?_ <;> (intro h; (try (have hp := of_decide_eq_true h)); (try (have hp := of_decide_eq_false h)); (try contradiction); (try (exfalso; omega)))))); (try all_goals (try show retA _ _ _ _ _ _ _))
      all_goals first
        | (exfalso; omega)
        | skip
      refine w_loop (X := Nat) [1, 3, 5, 6, 8] (by simp only [keepv, getv_cons, Nat.reduceEqDiff, ↓reduceIte]; exact rfl) (fun j => [(9, .val (.int .i64 (j : Nat)))]) (fun _ => [.gone, .gone]) (fun j => j ≤ R.length) (fun j => R.length - j) (0) ([0, 1]) ?_ ?_ rfl ?_ <;> (try dsimp only [List.cons_append, List.nil_append])
      · exact Nat.zero_le _
      · (refine St.le_mk rfl (VwOs.mk (by decide) ?_) ?_ <;> (repeat' (first | exact trivial | exact vwR rfl | exact VwO.gone _ | refine ⟨⟨_, rfl, ?_⟩, ?_⟩ | refine ⟨?_, ?_⟩ )))
      rintro j hj
      by_cases hjl : j < R.length
      · have mx := hR1 i hil
        have my := hR1 j hjl
        have hx := hR0 _ mx
        have hy := hR0 _ my
        have k1 := kI _ _ hx hy
        have kp1 := kP (ta M (R.getD i 0) (R.getD j 0) : Nat)
        have kp2 := kP (impV n M J (R.getD i 0) (R.getD j 0) : Nat)
        have hp1 := hP1 _ _ mx my
        have hp2 := hP2 _ _ mx my
        generalize impV n M J (R.getD i 0) (R.getD j 0) = z at *
        generalize idx (fun y => decide (y = (ta M (R.getD i 0) (R.getD j 0) : Int))) (nl R) = u1 at *
        generalize idx (fun y => decide (y = (z : Int))) (nl R) = u2 at *
        (repeat' (first | refine a_seq ?_ | refine a_block ?_ | refine a_skip ?_ | refine a_region ?_ | refine l_nil ?_ | (apply w_q; (focus (first | exact Q_move (by conv => lhs; whnf) | exact Q_lss rfl rfl | exact Q_len_nats rfl KSl.h)); (focus exact rfl)) | (refine a_cond rfl ?_ ?_ <;> (intro h; (try (have hp := of_decide_eq_true h)); (try (have hp := of_decide_eq_false h)); (try contradiction); (try (exfalso; omega)))))); (try all_goals (try show retA _ _ _ _ _ _ _))
        all_goals first
          | (exfalso; omega)
          | skip
        (repeat' (first | ((refine a_growQ (id := 18) (g := 1) 14 (by kernel_rfl) (by kernel_rfl) ?_; (apply zw_q 0 rfl (by kernel_rfl); (focus (first | exact Q_ld_rpa rfl KAg.h rfl rfl (by first | (dsimp only [List.drop_zero, List.drop_succ_cons, List.take_succ_cons, List.take_zero, List.map, ofD]; done) | exact rfl))); (focus exact rfl); (apply zw_p 1 rfl (by kernel_rfl); (focus (first | exact P_move (by conv => lhs; whnf))); (focus exact rfl); (apply zw_p 2 rfl (by kernel_rfl); (focus (first | exact P_move (by conv => lhs; whnf))); (focus exact rfl); (apply zw_q 3 rfl (by kernel_rfl); (focus (first | exact Q_ix_nats rfl rfl rfl KSl.h (by omega))); (focus exact rfl); (apply zw_q 4 rfl (by kernel_rfl); (focus (first | exact Q_ld_nats rfl (by omega) KSc.h)); (focus exact rfl); (apply zw_p 5 rfl (by kernel_rfl); (focus (first | exact P_move (by conv => lhs; whnf))); (focus exact rfl); (apply zw_p 6 rfl (by kernel_rfl); (focus (first | exact P_move (by conv => lhs; whnf))); (focus exact rfl); (apply zw_q 7 rfl (by kernel_rfl); (focus (first | exact Q_ix_nats rfl rfl rfl KSl.h (by omega))); (focus exact rfl); (apply zw_q 8 rfl (by kernel_rfl); (focus (first | exact Q_ld_nats rfl (by omega) KSc.h)); (focus exact rfl); (refine z_step (i := 9) (is := []) (by kernel_rfl) ?_; (first | (refine zw_callV rfl rfl (.inl ⟨rfl, rfl⟩) (k1) ?_ (by first | (dsimp only [AV.sh, AV.shl, sh_ints, sh_rows, sh_pairs, sh_ords]; done) | exact rfl) rfl ?_ ?_; (focus ((repeat' (first | exact trivial | exact Vs.val _ | exact Vs.ro _ | refine Vs.agg' ?_ | refine ⟨?_, ?_⟩)); done)))); rotate_left 1; (focus exact zw_nil); (apply zw_p 10 rfl (by kernel_rfl); (focus (first | exact P_move (by conv => lhs; whnf))); (focus exact rfl); (apply zw_p 11 rfl (by kernel_rfl); (focus (first | exact P_extract rfl (by conv => lhs; whnf))); (focus exact rfl); (apply zw_p 12 rfl (by kernel_rfl); (focus (first | exact P_extract rfl (by conv => lhs; whnf))); (focus exact rfl); (apply zw_p 13 rfl (by kernel_rfl); (focus (first | exact P_assign (by conv => lhs; whnf))); (focus exact rfl); (refine z_done (by kernel_rfl) ?_; (first | (show aL _ _ _ _ (_ :: _) _)); (first | (apply w_q; (focus (first | exact Q_assign (by conv => lhs; whnf))); (focus exact rfl))); refine l_nil ?_))))))))))))))))) | (first | refine a_seq ?_ | ((first | apply w_qq); (focus (first | exact Q_move (by conv => lhs; whnf) | exact Q_fieldAddr_rpt rfl KFl.h | exact Q_neq rfl rfl | exact Q_ix_nats rfl rfl rfl KSl.h (by omega) | exact Q_ld_rs rfl rfl KSc.h | exact Q_ld_nats rfl (by omega) KSc.h)); (focus exact rfl)) | refine w_qguard_y rfl rfl rfl (by first | assumption | rfl) ?_ | refine a_draw (by kernel_rfl) (by kernel_rfl) ?_))); (try all_goals (try show retA _ _ _ _ _ _ _))
        have hM3 := hM.lt _ _ hx hy
        
        (repeat' (first | ((first | apply w_q | apply w_qq); (focus (first | exact Q_ix_tn (by assumption) rfl rfl rfl KSl.h (by first | omega | exact Sq.lt (by assumption) _ _ (by omega) (by omega) | exact Mp.lt (by assumption) _ (by omega) | exact Sq.lt (by assumption) _ _ (by first | omega | exact Mp.lt (by assumption) _ (by omega)) (by first | omega | exact Mp.lt (by assumption) _ (by omega)) | exact Mp.lt (by assumption) _ (by first | exact Sq.lt (by assumption) _ _ (by omega) (by omega) | exact Mp.lt (by assumption) _ (by first | omega | exact Mp.lt (by assumption) _ (by omega)))) | exact Q_ld_tn (by assumption) rfl (by first | omega | exact Sq.lt (by assumption) _ _ (by omega) (by omega) | exact Mp.lt (by assumption) _ (by omega) | exact Sq.lt (by assumption) _ _ (by first | omega | exact Mp.lt (by assumption) _ (by omega)) (by first | omega | exact Mp.lt (by assumption) _ (by omega)) | exact Mp.lt (by assumption) _ (by first | exact Sq.lt (by assumption) _ _ (by omega) (by omega) | exact Mp.lt (by assumption) _ (by first | omega | exact Mp.lt (by assumption) _ (by omega)))) KSc.h | exact Q_ix_tr (by assumption) rfl rfl rfl KSl.h (by first | omega | exact Sq.lt (by assumption) _ _ (by omega) (by omega) | exact Mp.lt (by assumption) _ (by omega) | exact Sq.lt (by assumption) _ _ (by first | omega | exact Mp.lt (by assumption) _ (by omega)) (by first | omega | exact Mp.lt (by assumption) _ (by omega)) | exact Mp.lt (by assumption) _ (by first | exact Sq.lt (by assumption) _ _ (by omega) (by omega) | exact Mp.lt (by assumption) _ (by first | omega | exact Mp.lt (by assumption) _ (by omega)))) (by first | omega | exact Sq.lt (by assumption) _ _ (by omega) (by omega) | exact Mp.lt (by assumption) _ (by omega) | exact Sq.lt (by assumption) _ _ (by first | omega | exact Mp.lt (by assumption) _ (by omega)) (by first | omega | exact Mp.lt (by assumption) _ (by omega)) | exact Mp.lt (by assumption) _ (by first | exact Sq.lt (by assumption) _ _ (by omega) (by omega) | exact Mp.lt (by assumption) _ (by first | omega | exact Mp.lt (by assumption) _ (by omega)))) | exact Q_ld_ta (by assumption) rfl (by first | omega | exact Sq.lt (by assumption) _ _ (by omega) (by omega) | exact Mp.lt (by assumption) _ (by omega) | exact Sq.lt (by assumption) _ _ (by first | omega | exact Mp.lt (by assumption) _ (by omega)) (by first | omega | exact Mp.lt (by assumption) _ (by omega)) | exact Mp.lt (by assumption) _ (by first | exact Sq.lt (by assumption) _ _ (by omega) (by omega) | exact Mp.lt (by assumption) _ (by first | omega | exact Mp.lt (by assumption) _ (by omega)))) (by first | omega | exact Sq.lt (by assumption) _ _ (by omega) (by omega) | exact Mp.lt (by assumption) _ (by omega) | exact Sq.lt (by assumption) _ _ (by first | omega | exact Mp.lt (by assumption) _ (by omega)) (by first | omega | exact Mp.lt (by assumption) _ (by omega)) | exact Mp.lt (by assumption) _ (by first | exact Sq.lt (by assumption) _ _ (by omega) (by omega) | exact Mp.lt (by assumption) _ (by first | omega | exact Mp.lt (by assumption) _ (by omega)))) KSc.h)); (focus exact rfl)) | (first | refine a_skip ?_ | refine a_region ?_ | refine l_nil ?_ | refine q_nil ?_ | ((first | apply w_q | apply w_qq); (focus (first | exact Q_move (by conv => lhs; whnf) | exact Q_assign (by conv => lhs; whnf) | exact Q_lss rfl rfl | exact Q_add rfl rfl (by omega) | exact Q_ix_nats rfl rfl rfl KSl.h (by omega) | exact Q_ld_nats rfl (by omega) KSc.h | exact Q_pick_f rfl (by assumption) (by conv => lhs; whnf))); (focus exact rfl)) | (refine a_cond rfl ?_ ?_ <;> (intro h; (try (have hp := of_decide_eq_true h)); (try (have hp := of_decide_eq_false h)); (try contradiction); (try (exfalso; omega)))) | refine w_qguard_y rfl rfl rfl (by first | assumption | rfl) ?_ | ((first | refine w_qguard rfl rfl rfl ?_ ?_) <;> (intro h; (try (have hp := of_decide_eq_true h)); (try (have hp := of_decide_eq_false h)); (try contradiction); (try (exfalso; omega)))) | (((first | apply w_qq); (focus (refine Q_call (.inl ⟨rfl, rfl⟩) (kp1) ?_; ((repeat' (first | exact trivial | exact vwRL rfl | exact Vw.ro _ | refine ⟨?_, ?_⟩ )); done))); (focus exact rfl))) | (((first | apply w_qq); (focus (refine Q_call (.inl ⟨rfl, rfl⟩) (kp2) ?_; ((repeat' (first | exact vwRL rfl | exact Vw.ro _ | refine ⟨?_, ?_⟩ )); done))); (focus exact rfl)))))); (try all_goals (try show retA _ _ _ _ _ _ _))
        
        all_goals first
          | (exfalso; omega)
          | (exfalso; simp at *; omega)
          | (refine ⟨j + 1, [0, 1], ?_, ?_, ?_, rfl⟩ <;> (try dsimp only)
             · omega
             · omega
             · (refine St.le_mk rfl (VwOs.mk (by decide) ?_) ?_ <;> (repeat' (first | exact trivial | exact vwR rfl | exact VwO.gone _ | refine ⟨⟨_, rfl, ?_⟩, ?_⟩ | refine ⟨?_, ?_⟩ ))))
          | (all_goals trace_state); fail
      obtain rfl : j = R.length := by omega
      (repeat' (first | refine a_seq ?_ | refine a_exit ?_ | refine a_region ?_ | refine l_nil ?_ | (apply w_q; (focus (first | exact Q_move (by conv => lhs; whnf) | exact Q_assign (by conv => lhs; whnf) | exact Q_lss rfl rfl | exact Q_add rfl rfl (by omega) | exact Q_len_nats rfl KSl.h)); (focus exact rfl)) | (refine a_cond rfl ?_ ?_ <;> (intro h; (try (have hp := of_decide_eq_true h)); (try (have hp := of_decide_eq_false h)); (try contradiction); (try (exfalso; omega)))))); (try all_goals (try show retA _ _ _ _ _ _ _))
      all_goals first
        | (exfalso; omega)
        | (refine ⟨i + 1, [0, 1], ?_, ?_, ?_, rfl⟩ <;> (try dsimp only)
           · omega
           · omega
           · (refine St.le_mk rfl (VwOs.mk (by decide) ?_) ?_ <;> (repeat' (first | exact trivial | exact vwR rfl | exact VwO.gone _ | refine ⟨⟨_, rfl, ?_⟩, ?_⟩ | refine ⟨?_, ?_⟩ ))))
        | (all_goals trace_state); fail
    obtain rfl : i = R.length := by omega
    (repeat' (first | refine a_seq ?_ | refine a_block ?_ | refine a_exit ?_ | refine a_region ?_ | refine l_nil ?_ | (apply w_q; (focus (first | exact Q_move (by conv => lhs; whnf) | exact Q_assign (by conv => lhs; whnf) | exact Q_lss rfl rfl | exact Q_len_nats rfl KSl.h)); (focus exact rfl)) | (refine a_cond rfl ?_ ?_ <;> (intro h; (try (have hp := of_decide_eq_true h)); (try (have hp := of_decide_eq_false h)); (try contradiction); (try (exfalso; omega)))))); (try all_goals (try show retA _ _ _ _ _ _ _))
    all_goals first
      | (exfalso; omega)
      | skip
    refine w_loop (X := Nat) [1, 5, 6] (by simp only [keepv, getv_cons, Nat.reduceEqDiff, ↓reduceIte]; exact rfl) (fun k => [(12, .val (.bool (E k))), (13, .val (.int .i64 (k : Nat)))]) (fun _ => [.gone, .gone]) (fun k => k ≤ n) (fun k => n - k) (0) ([0, 1]) ?_ ?_ rfl ?_ <;> (try dsimp only [List.cons_append, List.nil_append])
    · exact Nat.zero_le _
    · rw [hE0]
      (refine St.le_mk rfl (VwOs.mk (by decide) ?_) ?_ <;> (repeat' (first | exact trivial | exact vwR rfl | exact VwO.gone _ | refine ⟨⟨_, rfl, ?_⟩, ?_⟩ | refine ⟨?_, ?_⟩ )))
    rintro k hk
    by_cases hkn : k < n
    · have k1 := kO k hkn
      have hs := hE k
      have hol := hol k
      have hnl := nl_len (othN n M J k)
      generalize othN n M J k = O at *
      have hb2 : decide (O.length = 1) = decide ((O.length : Int) = 1) := decide_eq_decide.2 (by omega)
      rw [hb2] at hs
      cases hq : E k
      all_goals
        rw [hq] at hs
        simp only [Bool.false_and, Bool.true_and] at hs
        (repeat' (first | refine a_seq ?_ | refine a_block ?_ | refine a_skip ?_ | refine a_region ?_ | refine l_nil ?_ | (apply w_q; (focus (first | exact Q_move (by conv => lhs; whnf) | exact Q_assign (by conv => lhs; whnf) | exact Q_fieldAddr_rpt rfl KFl.h | exact Q_lss rfl rfl | exact Q_eql rfl rfl | exact Q_add rfl rfl (by omega) | exact Q_ld_rpa rfl KAg.h rfl rfl (by first | (dsimp only [List.drop_zero, List.drop_succ_cons, List.take_succ_cons, List.take_zero, List.map, ofD]; done) | exact rfl) | exact Q_ld_rv rfl rfl KSc.h | exact Q_len_nats rfl KSl.h | exact Q_extract rfl (by conv => lhs; whnf) | exact Q_pick_f rfl (by assumption) (by conv => lhs; whnf) | exact Q_pick_t rfl rfl (by conv => lhs; whnf))); (focus exact rfl)) | (refine a_cond rfl ?_ ?_ <;> (intro h; (try (have hp := of_decide_eq_true h)); (try (have hp := of_decide_eq_false h)); (try contradiction); (try (exfalso; omega)))) | refine w_guard_y rfl rfl rfl (by first | assumption | rfl) ?_ | refine w_guard_n rfl rfl rfl (by first | assumption | rfl) ?_ | ((refine w_callV (.inl ⟨rfl, rfl⟩) (k1) ?_ (by first | (dsimp only [AV.sh, AV.shl, sh_ints, sh_rows, sh_pairs, sh_ords]; done) | exact rfl) rfl ?_; rotate_left 0; (focus ((repeat' (first | exact trivial | exact Vs.val _ | exact Vs.ro _ | refine Vs.agg' ?_ | refine ⟨?_, ?_⟩)); done)); rotate_left 1; all_goals (try (skip)))))); (try all_goals (try show retA _ _ _ _ _ _ _))
        all_goals first
          | (exfalso; omega)
          | (exfalso; simp at *; omega)
          | (refine ⟨k + 1, [0, 1], ?_, ?_, ?_, rfl⟩ <;> (try dsimp only)
             · omega
             · omega
             · rw [hs]; (refine St.le_mk rfl (VwOs.mk (by decide) ?_) ?_ <;> (repeat' (first | exact trivial | exact vwR rfl | exact VwO.gone _ | refine ⟨⟨_, rfl, ?_⟩, ?_⟩ | refine ⟨?_, ?_⟩ ))))
          | (all_goals trace_state); fail
    obtain rfl : k = n := by omega
    (repeat' (first | refine a_seq ?_ | refine a_ret ?_ | refine a_exit ?_ | refine a_region ?_ | refine l_nil ?_ | (apply w_q; (focus (first | exact Q_move (by conv => lhs; whnf) | exact Q_assign (by conv => lhs; whnf) | exact Q_fieldAddr_rpt rfl KFl.h | exact Q_lss rfl rfl | exact Q_eql rfl rfl | exact Q_eqlB rfl rfl KBo.h | exact Q_ld_rv rfl rfl KSc.h | exact Q_pick_t rfl rfl (by conv => lhs; whnf))); (focus exact rfl)) | (refine a_cond rfl ?_ ?_ <;> (intro h; (try (have hp := of_decide_eq_true h)); (try (have hp := of_decide_eq_false h)); (try contradiction); (try (exfalso; omega)))) | refine w_guard_y rfl rfl rfl (by first | assumption | rfl) ?_)); (try all_goals (try show retA _ _ _ _ _ _ _))
    all_goals first
      | (exfalso; omega)
      | (refine ⟨[_], [], ⟨resV_tmp (by conv => lhs; whnf), trivial⟩, VwOs.mk (by decide) trivial, ?_, rfl⟩; (first | exact Vw.bool' (by simp)); done)
      | (all_goals trace_state); fail
  · have kR := HReg_err N m w hm hw hmr hwr h
    have kB := HBoo_err N m w hm hw hmr hwr h
    generalize hck N m w = e at *
    refine AC.mk (n := 134) (fn := Tryd.f9) Tryd.func9 (by kernel_rfl) rfl rfl rfl rfl (fun cx => ?_); dsimp only [argv, Nat.reduceAdd]
    (repeat' (first | refine a_seq ?_ | refine a_skip ?_ | refine a_ret ?_ | refine a_region ?_ | refine l_nil ?_ | (apply w_q; (focus (first | exact Q_move (by conv => lhs; whnf) | exact Q_assign (by conv => lhs; whnf) | exact Q_load_all rfl rfl KAg.h | exact Q_eql rfl rfl | exact Q_neq rfl rfl | exact Q_extract rfl (by conv => lhs; whnf) | exact Q_not rfl)); (focus exact rfl)) | (refine a_cond rfl ?_ ?_ <;> (intro h; (try (have hp := of_decide_eq_true h)); (try (have hp := of_decide_eq_false h)); (try contradiction); (try (exfalso; omega)))) | refine w_box rfl rfl (by first|(dsimp only[obA,obB,obD,obE,obF,obG,obI,List.map,AO.sh,AV.sh,AV.shl,Nat.reduceAdd];done)|exact rfl) (by first|(dsimp only[obA,obB,obD,obE,obF,obG,obI,List.map,AO.sh,AV.sh,AV.shl,Nat.reduceAdd];done)|exact rfl) rfl ?_ | ((refine w_callV (.inl ⟨rfl, rfl⟩) (kR) ?_ (by first | (dsimp only [AV.sh, AV.shl, sh_ints, sh_rows, sh_pairs, sh_ords]; done) | exact rfl) rfl ?_; rotate_left 0; (focus ((repeat' (first | exact trivial | exact Vs.val _ | exact Vs.ro _ | refine Vs.agg' ?_ | refine ⟨?_, ?_⟩)); done)); rotate_left 1; all_goals (try (skip)))) | ((refine w_callV (.inl ⟨rfl, rfl⟩) (kB) ?_ (by first | (dsimp only [AV.sh, AV.shl, sh_ints, sh_rows, sh_pairs, sh_ords]; done) | exact rfl) rfl ?_; rotate_left 0; (focus ((repeat' (first | exact trivial | exact Vs.val _ | exact Vs.ro _ | refine Vs.agg' ?_ | refine ⟨?_, ?_⟩)); done)); rotate_left 1; all_goals (try (skip)))) | (((first | apply w_q); (focus (refine Q_call (.inl ⟨rfl, rfl⟩) (kb) ?_; ((repeat' (first | exact trivial)); done))); (focus exact rfl))))); (try all_goals (try show retA _ _ _ _ _ _ _))
    all_goals first
      | (exfalso; omega)
      | (exfalso; simp at *; omega)
      | (refine ⟨[_], [], ⟨resV_tmp (by conv => lhs; whnf), trivial⟩, VwOs.mk (by decide) trivial, ?_, rfl⟩; (first | exact Vw.bool' (by simp)); done)
      | (all_goals trace_state); fail
theorem HeytingCloses_knob : ownKnob Tryd.prog.godebug = none := by kernel_rfl
theorem HeytingCloses_laid : laidOutB Tryd.prog = true := by kernel_rfl
theorem door_met (os : Os) (args : Array Value) : laidMetH Tryd.prog tabL ((World.doorLaid Tryd.prog 24 os).forCall (fun _ _ => 0) ⟨#[], args, []⟩).memory :=
  laidMetH_of_parts3 (fuel := 8) (laidMet_of_run' 8 (by kernel_rfl) (by kernel_rfl)) (by kernel_rfl) (by kernel_rfl)
set_option maxRecDepth 100000 in
theorem HeytingCloses_lifted (os : Os) (started : os.Started) (H : Type) (enc : TypeId × Value → H) :
    ReturnsInHanded {} Tryd.checked os 9 .any (fun w args => (Rows.heytingClosesSpec.pre enc Tryd.prog Tryd.f9 Rows.heytingClosesRow.domain false w args ∧ laidMetH Tryd.prog tabL w) ∧ sizedMet enc Tryd.prog Tryd.f9 (OpenSpec.ofChange Rows.heytingClosesSpec) false w args) (Rows.heytingClosesSpec.post enc Tryd.prog Tryd.f9 false true false false) := by
  refine law_frameT (C := Tryd.checked) (laid := tabL) HeytingCloses_knob started (by kernel_rfl) Tryd.func9
    (ChangeSpec.witness_shaped (enc := enc) (C := Tryd.checked) (os := os) (X := fun w _ => laidMetH Tryd.prog tabL w) false (World.doorLaid Tryd.prog 24 os) #[.agg #[.int .i64 0, .slice none 0 0, .slice none 0 0]] 8 rfl (World.shaped_of_RefB (by kernel_rfl) (by kernel_rfl)) (by kernel_rfl) (by kernel_rfl) (by kernel_rfl) (door_met os _))
    HeytingCloses_laid rfl Tryd.underlying4 (by kernel_rfl) rfl ?_ tab_laid ?_
  · intro ds h
    match ds, h with
    | [d0], _ => rfl
  · intro W base args ds p hval hA
    obtain ⟨v0, d0, rfl, rfl, h0⟩ := trodAll_one hA
    obtain ⟨N0, m0, j0, u0, s0, rfl, r0, q0, a0, b0, c0⟩ := arg_lat Tryd.underlying41 (by kernel_rfl) rfl rfl rfl Tryd.underlying3 (by kernel_rfl) Tryd.underlying33 (by kernel_rfl) Tryd.underlying33 (by kernel_rfl) Tryd.underlying22 Tryd.underlying3 (by kernel_rfl) (by kernel_rfl) (hval 0 _ _ rfl rfl) h0
    exact ⟨[_], ⟨gm_lat r0 q0, trivial⟩, HeytingCloses_ac N0 m0 j0 b0 c0⟩
theorem HeytingCloses_row : Rows.HeytingClosesSaid :=
  OpenClaim.holds_of_wide 9 Tryd.f9 rfl rfl rfl rfl rfl rfl rfl ⟨rfl, rfl, rfl, rfl, rfl⟩ rfl rfl rfl rfl rfl (by kernel_rfl) Tryd.func9 (by kernel_rfl)
    (of_decide_eq_true (by kernel_rfl)) (by unfold Func.isWrapper; first | (rw [if_pos (by decide +kernel)]; kernel_rfl) | (rw [if_neg (by decide +kernel)]; exact ⟨rfl, rfl⟩))
    (fun os started H enc _ => HeytingCloses_lifted os started H enc)
theorem HeytingCloses_holds : Rows.HeytingClosesCardSaid :=
  Claim7.holds_tied_plain_at .later [] [.data, .data] true (true, "21c88d9afaf9ffc8725b5f50f2b0b327c3cdfe6d4ef30e7516558d86c81b678b") true
    HeytingCloses_row (fun _ h => by cases h) (by kernel_rfl) (fun _ h => by cases h) heytingCloses_row_tie rfl ⟨rfl, rfl⟩ (by kernel_rfl) rfl
    (fun f fn hf hfn => by
      obtain rfl : f = 9 := Option.some.inj ((show Tryd.prog.funcNamed "hasse/hasselaw.HeytingCloses" = some 9 by kernel_rfl).symm.trans hf) |>.symm
      obtain rfl : fn = Tryd.f9 := (Option.some.inj (Tryd.func9.symm.trans hfn)).symm
      exact ⟨by kernel_rfl, fun j t ht => by
        rw [Tryd.params9] at ht
        have hm : t ∈ [41] := by simpa using Array.mem_of_getElem? ht
        have hall : ([41].all fun u => !Tryd.prog.wantsStandIn u) = true := by kernel_rfl
        exact (show Tryd.prog.wantsStandIn t = false by simpa using List.all_eq_true.1 hall t hm)⟩)
    (by kernel_rfl)
end Go.Proofs.YtgojkabjgagjcaaDoor
