import Derived.Test.YtbgecpjlopdkfaaDoorSsj
import Derived.Test.YtbgecpjlopdkfaaDoorVm
set_option linter.unusedSimpArgs false
set_option linter.unusedVariables false
set_option linter.unusedSectionVars false
set_option maxRecDepth 20000
namespace Go.Proofs.YtbgecpjlopdkfaaDoor
attribute [local irreducible] QOp aL aC qL
theorem kprs_drop {k : Int} {ah : List Int} {l : List Tr} {i : Nat} (h : i < l.length) : kprs k ah (l.drop i) = (l[i]).prs ++ ((if k = 3 then crs ah (l[i]).pts else []) ++ kprs k (ah ++ (l[i]).pts) (l.drop (i + 1))) := by
  rw [List.drop_eq_getElem_cons h]
  conv => lhs; unfold kprs
theorem kprs_nil (k : Int) (ah : List Int) : kprs k ah [] = [] := by unfold kprs; rfl
theorem crs_take {A B : List Int} {u : Nat} (h : u < A.length) : crs (A.take (u + 1)) B = crs (A.take u) B ++ B.map fun b => (A.getD u 0, b) := by
  unfold crs
  rw [List.take_add_one, List.getElem?_eq_getElem h, List.flatMap_append, List.getD_eq_getElem?_getD, List.getElem?_eq_getElem h]
  simp
theorem map_take {f : Int → Int × Int} {B : List Int} {v : Nat} (h : v < B.length) : (B.take (v + 1)).map f = (B.take v).map f ++ [f (B.getD v 0)] := by
  rw [List.take_add_one, List.getElem?_eq_getElem h, List.map_append, List.getD_eq_getElem?_getD, List.getElem?_eq_getElem h]
  rfl
theorem crs_len (A B : List Int) : (crs A B).length = A.length * B.length := by
  unfold crs
  rw [List.length_flatMap]
  simp [List.length_map, List.map_const', List.sum_replicate_nat]
set_option maxRecDepth 20000 in
set_option maxHeartbeats 4000000 in
theorem pairsS_ac : ∀ (d : Nat) (k p : Int) (l : List Tr), 1 + kdep l ≤ d → 1 + kcnt l ≤ 100000000 → (Tr.mk k p l).prs.length ≤ 100000 → AC Tryd.prog 71 [ta3 k p l] [] (.own 0) [.row 140 2 (pairc (Tr.mk k p l).prs)]
  | 0, k, p, l, hd, _, _ => by omega
  | d + 1, k, p, l, hd, hb, hbp => by
    have ih := pairsS_ac d
    have hu : (Tr.mk k p l).prs = kprs k [] l := by unfold Tr.prs; rfl
    rw [hu] at hbp ⊢
    clear hu
    generalize hW : kprs k [] l = W at *
    unfold ta3 tks at ih ⊢
    refine AC.mk (n := 53) (fn := Tryd.f71) Tryd.func71 (by kernel_rfl) rfl rfl rfl rfl (fun cx => ?_); dsimp only [argv, Nat.reduceAdd]
    (repeat' (first | refine a_seq ?_ | refine a_block ?_ | refine a_region ?_ | refine l_nil ?_ | (apply w_q; (focus (first | exact Q_move (by conv => lhs; whnf) | exact Q_assign (by conv => lhs; whnf) | exact Q_fieldAddr_ptr rfl KFl.h | exact Q_load_ptr rfl rfl rfl KSc.h)); (focus exact rfl)) | refine w_box rfl rfl (by first|(dsimp only[obA,obB,obD,obE,obF,obG,obI,List.map,AO.sh,AV.sh,AV.shl,Nat.reduceAdd];done)|exact rfl) (by first|(dsimp only[obA,obB,obD,obE,obF,obG,obI,List.map,AO.sh,AV.sh,AV.shl,Nat.reduceAdd];done)|exact rfl) rfl ?_ | (((first | apply w_q); (focus exact Q_len_kid rfl KSl.h); (focus exact rfl))))); (try all_goals (try show retA _ _ _ _ _ _ _))
    refine w_nilownC 3 140 2 rfl (by first|(dsimp only[obA,obB,obD,obE,obF,obG,obI,List.map,AO.sh,AV.sh,AV.shl,Nat.reduceAdd];done)|exact rfl) rfl ?_
    refine w_nilownC 4 3 1 rfl (by first|(dsimp only[obA,obB,obD,obE,obF,obG,obI,List.map,AO.sh,AV.sh,AV.shl,Nat.reduceAdd];done)|exact rfl) rfl ?_
    refine w_loop (X := Nat × List (Int × Int) × List Int) [1, 13, 14] (by simp only [keepv, getv_cons, Nat.reduceEqDiff, ↓reduceIte]; exact rfl) (fun x => [(3, .own 1), (4, .own 2), (15, .val (.int .i64 (x.1 : Nat)))]) (fun x => [.box [.val (.int .i64 k), .val (.int .i64 p), .ro (.sl 3 (kdc l))], .row 140 2 (pairc x.2.1), .row 3 1 (intc x.2.2)]) (fun x => x.1 ≤ l.length ∧ x.2.2 = kpts (l.take x.1) ∧ x.2.1 ++ kprs k x.2.2 (l.drop x.1) = W) (fun x => l.length - x.1) ((0, [], [])) ([0, 1, 2]) ?_ ?_ rfl ?_ <;> (try dsimp only [List.cons_append, List.nil_append])
    · exact ⟨Nat.zero_le _, by rw [List.take_zero]; unfold kpts; rfl, hW⟩
    · (refine St.le_mk rfl (VwOs.mk (by decide) ?_) ?_ <;> (repeat' (first | exact trivial | exact vwR rfl | exact Vw.own _ _ rfl | exact Vw.ptr _ _ _ rfl | exact VwO.row _ _ _ | refine VwO.box' ?_ | refine ⟨⟨_, rfl, ?_⟩, ?_⟩ | refine ⟨?_, ?_⟩ )))
    rintro ⟨i, out, ah⟩ ⟨hi, hah, hout⟩
    dsimp only at hi hah hout ⊢
    by_cases hil : i < l.length
    · have hm := kcnt_mono l (i + 1)
      have hll := kcnt_len l
      have htc := kcnt_take hil
      have htp := kpts_take hil
      have hdp := dep_kid hil
      have hb1 := kpts_cnt (l.take i)
      have hb2 := pts_cnt (l[i])
      rw [kprs_drop hil] at hout
      rcases hk : l[i] with ⟨k2, p1, r⟩
      rw [hk] at htp hdp htc hb2 hout
      have c1 : (Tr.mk k2 p1 r).cnt = 1 + kcnt r := by unfold Tr.cnt; rfl
      have c2 : (Tr.mk k2 p1 r).dep = 1 + kdep r := by unfold Tr.dep; rfl
      have hol := congrArg List.length hout
      rw [List.length_append, List.length_append, List.length_append] at hol
      have callP := AC.vw0 (ih k2 p1 r (by omega) (by omega) (by omega)) (res2 := pairs (Tr.mk k2 p1 r).prs) (by (repeat' (first | exact Vw.rowro _ _ _ _ rfl (by decide))))
      have callT := AC.vw0 (points_acS (1 + kdep r) k2 p1 r (Nat.le_refl _) (by omega)) (res2 := ints (Tr.mk k2 p1 r).pts) (by (repeat' (first | exact Vw.rowro _ _ _ _ rfl (by decide))))
      unfold ta3 tks at callT
      rw [← hah] at hb1 htp
      have b1 : ah.length ≤ 100000000 := by omega
      have b2 : (Tr.mk k2 p1 r).pts.length ≤ 100000000 := by omega
      generalize (Tr.mk k2 p1 r).pts = X at *
      generalize (Tr.mk k2 p1 r).prs = Y at *
      have b3 : l.length ≤ 100000000 := by omega
      clear ih hdp c1 c2 htc hW hm hb2
      by_cases hk3 : k = 3
      · rw [if_pos hk3] at hout hol
        rw [crs_len] at hol
        rw [← List.append_assoc, ← List.append_assoc] at hout
        (repeat' (first | refine a_seq ?_ | refine a_block ?_ | refine a_skip ?_ | refine a_region ?_ | refine l_nil ?_ | (apply w_q; (focus (first | exact Q_move (by conv => lhs; whnf) | exact Q_assign (by conv => lhs; whnf) | exact Q_fieldAddr_ptr rfl KFl.h | exact Q_load_ptr rfl rfl rfl KSc.h | exact Q_load_all rfl rfl KAg.h | exact Q_lss rfl rfl | exact Q_eql rfl rfl | exact Q_len_own' rfl rfl KSl.h)); (focus exact rfl)) | (refine a_cond rfl ?_ ?_ <;> (intro h; (try (have hp := of_decide_eq_true h)); (try (have hp := of_decide_eq_false h)); (try contradiction); (try (exfalso; omega)))) | refine w_alloc KMk.h (by first|(dsimp only[obA,obB,obD,obE,obF,obG,obI,List.map,AO.sh,AV.sh,AV.shl,Nat.reduceAdd];done)|exact rfl) rfl (by first|(dsimp only[obA,obB,obD,obE,obF,obG,obI,List.map,AO.sh,AV.sh,AV.shl,Nat.reduceAdd];done)|exact rfl) (by first|(dsimp only[obA,obB,obD,obE,obF,obG,obI,List.map,AO.sh,AV.sh,AV.shl,Nat.reduceAdd];done)|exact rfl) rfl ?_ | refine w_store_all rfl rfl rfl rfl rfl KSz.h (by first|(dsimp only[obA,obB,obD,obE,obF,obG,obI,List.map,AO.sh,AV.sh,AV.shl,Nat.reduceAdd];done)|exact rfl) ?_ | (((first | apply w_q); (focus exact Q_ix_kid rfl rfl rfl KSl.h hil); (focus exact rfl))) | (((first | apply w_q); (focus exact Q_ld_kid rfl hil hk KAg.h); (focus exact rfl))) | ((refine w_callV (.inl ⟨rfl, rfl⟩) (callP) ?_ (by first | (dsimp only [AV.sh, AV.shl, sh_ints, sh_rows, sh_pairs, sh_ords]; done) | exact rfl) rfl ?_; rotate_left 0; (focus ((repeat' (first | exact trivial | exact Vs.val _ | exact Vs.ro _ | refine Vs.agg' ?_ | refine ⟨?_, ?_⟩)); done)); rotate_left 1; all_goals (try (skip)))) | ((refine w_callV (.inl ⟨rfl, rfl⟩) (callT) ?_ (by first | (dsimp only [AV.sh, AV.shl, sh_ints, sh_rows, sh_pairs, sh_ords]; done) | exact rfl) rfl ?_; rotate_left 0; (focus ((repeat' (first | exact trivial | exact Vs.val _ | exact Vs.ro _ | refine Vs.agg' ?_ | refine ⟨?_, ?_⟩)); done)); rotate_left 1; all_goals (try (skip)))) | (refine w_ap_pairsR rfl rfl rfl KSl.h KMk.h (by omega) (by first|(dsimp only[obA,obB,obD,obE,obF,obG,obI,List.map,AO.sh,AV.sh,AV.shl,Nat.reduceAdd];done)|exact rfl) rfl rfl ?_))); (try all_goals (try show retA _ _ _ _ _ _ _))
        all_goals first
          | (exfalso; omega)
          | skip
        clear callP callT
        refine w_loop (X := Nat) [1, 4, 7, 13, 14, 15, 28, 29] (by simp only [keepv, getv_cons, Nat.reduceEqDiff, ↓reduceIte]; exact rfl) (fun u => [(3, .own 1), (30, .val (.int .i64 (u : Nat)))]) (fun u => [.box [.val (.int .i64 k), .val (.int .i64 p), .ro (.sl 3 (kdc l))], .row 140 2 (pairc ((out ++ Y) ++ crs (ah.take u) X)), .row 3 1 (intc ah)]) (fun u => u ≤ ah.length) (fun u => ah.length - u) (0) ([0, 4, 2]) ?_ ?_ rfl ?_ <;> (try dsimp only [List.cons_append, List.nil_append])
        · exact Nat.zero_le _
        · rw [List.take_zero, show crs [] X = [] from rfl, List.append_nil]
          (refine St.le_mk rfl (VwOs.mk (by decide) ?_) ?_ <;> (repeat' (first | exact trivial | exact vwR rfl | exact Vw.own _ _ rfl | exact Vw.ptr _ _ _ rfl | exact VwO.row _ _ _ | refine VwO.box' ?_ | refine ⟨⟨_, rfl, ?_⟩, ?_⟩ | refine ⟨?_, ?_⟩ )))
        rintro u hu
        have hcu : (crs (ah.take u) X).length ≤ ah.length * X.length := by
          rw [crs_len, List.length_take]
          exact Nat.mul_le_mul_right _ (by omega)
        by_cases hul : u < ah.length
        · have hcs := crs_take (B := X) hul
          have hcu1 : (crs (ah.take u) X).length + X.length ≤ ah.length * X.length := by
            rw [crs_len, List.length_take, show min u ah.length = u by omega, ← Nat.succ_mul]
            exact Nat.mul_le_mul_right _ hul
          (repeat' (first | refine a_seq ?_ | refine a_block ?_ | refine a_skip ?_ | refine a_region ?_ | refine l_nil ?_ | (apply w_q; (focus (first | exact Q_move (by conv => lhs; whnf) | exact Q_assign (by conv => lhs; whnf) | exact Q_lss rfl rfl | exact Q_ix_own rfl rfl rfl rfl KSl.h (by omega) | exact Q_ld_own rfl rfl (by omega) KSc.h | exact Q_len_ints rfl KSl.h)); (focus exact rfl)) | (refine a_cond rfl ?_ ?_ <;> (intro h; (try (have hp := of_decide_eq_true h)); (try (have hp := of_decide_eq_false h)); (try contradiction); (try (exfalso; omega)))))); (try all_goals (try show retA _ _ _ _ _ _ _))
          all_goals first
            | (exfalso; omega)
            | skip
          refine w_loop (X := Nat) [1, 4, 7, 9, 13, 14, 15, 28, 29, 30, 34, 35] (by simp only [keepv, getv_cons, Nat.reduceEqDiff, ↓reduceIte]; exact rfl) (fun v => [(3, .own 1), (36, .val (.int .i64 (v : Nat)))]) (fun v => [.box [.val (.int .i64 k), .val (.int .i64 p), .ro (.sl 3 (kdc l))], .row 140 2 (pairc (((out ++ Y) ++ crs (ah.take u) X) ++ (X.take v).map fun b => (ah.getD u 0, b))), .row 3 1 (intc ah)]) (fun v => v ≤ X.length) (fun v => X.length - v) (0) ([0, 1, 2]) ?_ ?_ rfl ?_ <;> (try dsimp only [List.cons_append, List.nil_append])
          · exact Nat.zero_le _
          · rw [List.take_zero, List.map_nil, List.append_nil]
            (refine St.le_mk rfl (VwOs.mk (by decide) ?_) ?_ <;> (repeat' (first | exact trivial | exact vwR rfl | exact Vw.own _ _ rfl | exact Vw.ptr _ _ _ rfl | exact VwO.row _ _ _ | refine VwO.box' ?_ | refine ⟨⟨_, rfl, ?_⟩, ?_⟩ | refine ⟨?_, ?_⟩ )))
          rintro v hv
          by_cases hvl : v < X.length
          · have hms : ((out ++ Y) ++ crs (ah.take u) X) ++ ((X.take (v + 1)).map fun b => (ah.getD u 0, b)) = (((out ++ Y) ++ crs (ah.take u) X) ++ (X.take v).map fun b => (ah.getD u 0, b)) ++ [(ah.getD u 0, X.getD v 0)] := by rw [map_take hvl]; simp only [List.append_assoc]
            have hln : ((out ++ Y ++ crs (ah.take u) X) ++ (X.take v).map fun b => (ah.getD u 0, b)).length ≤ 200000 := by
              rw [List.length_append, List.length_append, List.length_append, List.length_map, List.length_take]; omega
            generalize ((out ++ Y ++ crs (ah.take u) X) ++ (X.take v).map fun b => (ah.getD u 0, b)) = Z at *
            (repeat' (first | refine a_seq ?_ | refine a_block ?_ | refine a_skip ?_ | refine a_region ?_ | refine l_nil ?_ | (apply w_q; (focus (first | exact Q_move (by conv => lhs; whnf) | exact Q_assign (by conv => lhs; whnf) | exact Q_lss rfl rfl | exact Q_add rfl rfl (by omega) | exact Q_ix_ints rfl rfl rfl KSl.h (by omega) | exact Q_ld_ints rfl (by omega) KSc.h | exact Q_build2 KBd.h (by conv => lhs; whnf) (by conv => lhs; whnf) rfl rfl rfl (by simp only [List.map_cons, List.map_nil, List.take_succ_cons, List.take_zero, List.drop_succ_cons, List.drop_zero, List.drop_nil, List.nil_append, List.cons_append, List.append_nil, List.length_cons, List.length_nil, Nat.reduceAdd, Nat.reduceMul]; exact rfl) (by conv => lhs; whnf) (by conv => lhs; whnf) rfl rfl rfl (by simp only [List.map_cons, List.map_nil, List.take_succ_cons, List.take_zero, List.drop_succ_cons, List.drop_zero, List.drop_nil, List.nil_append, List.cons_append, List.append_nil, List.length_cons, List.length_nil, Nat.reduceAdd, Nat.reduceMul]; exact rfl))); (focus exact rfl)) | (refine a_cond rfl ?_ ?_ <;> (intro h; (try (have hp := of_decide_eq_true h)); (try (have hp := of_decide_eq_false h)); (try contradiction); (try (exfalso; omega)))) | refine w_lit_pair rfl KSl.h KMk.h (by first|(dsimp only[obA,obB,obD,obE,obF,obG,obI,List.map,AO.sh,AV.sh,AV.shl,Nat.reduceAdd];done)|exact rfl) (by first|(dsimp only[obA,obB,obD,obE,obF,obG,obI,List.map,AO.sh,AV.sh,AV.shl,Nat.reduceAdd];done)|exact rfl) rfl ?_ | refine w_ap_pairs rfl rfl rfl rfl KSl.h KMk.h (by simp; omega) (by first|(dsimp only[obA,obB,obD,obE,obF,obG,obI,List.map,AO.sh,AV.sh,AV.shl,Nat.reduceAdd];done)|exact rfl) (by first|(dsimp only[obA,obB,obD,obE,obF,obG,obI,List.map,AO.sh,AV.sh,AV.shl,Nat.reduceAdd];done)|exact rfl) rfl ?_)); (try all_goals (try show retA _ _ _ _ _ _ _))
            all_goals first
              | (exfalso; omega)
              | (try dsimp only [thenA, blockA]
                 refine ⟨v + 1, [0, 4, 2], ?_, ?_, ?_, rfl⟩ <;> (try dsimp only)
                 · omega
                 · omega
                 · rw [hms]; (refine St.le_mk rfl (VwOs.mk (by decide) ?_) ?_ <;> (repeat' (first | exact trivial | exact vwR rfl | exact Vw.own _ _ rfl | exact Vw.ptr _ _ _ rfl | exact VwO.row _ _ _ | refine VwO.box' ?_ | refine ⟨⟨_, rfl, ?_⟩, ?_⟩ | refine ⟨?_, ?_⟩ ))))
              | (all_goals trace_state); fail
          · obtain rfl : v = X.length := by omega
            rw [List.take_length]
            rw [show ((out ++ Y) ++ crs (ah.take u) X) ++ (X.map fun b => (ah.getD u 0, b)) = (out ++ Y) ++ crs (ah.take (u + 1)) X by rw [hcs, List.append_assoc]]
            (repeat' (first | refine a_seq ?_ | refine a_exit ?_ | refine a_region ?_ | refine l_nil ?_ | (apply w_q; (focus (first | exact Q_move (by conv => lhs; whnf) | exact Q_lss rfl rfl | exact Q_add rfl rfl (by omega))); (focus exact rfl)) | (refine a_cond rfl ?_ ?_ <;> (intro h; (try (have hp := of_decide_eq_true h)); (try (have hp := of_decide_eq_false h)); (try contradiction); (try (exfalso; omega)))))); (try all_goals (try show retA _ _ _ _ _ _ _))
            all_goals first
              | (exfalso; omega)
              | (try dsimp only [thenA, blockA]
                 refine ⟨u + 1, [0, 1, 2], ?_, ?_, ?_, rfl⟩ <;> (try dsimp only)
                 · omega
                 · omega
                 · (refine St.le_mk rfl (VwOs.mk (by decide) ?_) ?_ <;> (repeat' (first | exact trivial | exact vwR rfl | exact Vw.own _ _ rfl | exact Vw.ptr _ _ _ rfl | exact VwO.row _ _ _ | refine VwO.box' ?_ | refine ⟨⟨_, rfl, ?_⟩, ?_⟩ | refine ⟨?_, ?_⟩ ))))
              | (all_goals trace_state); fail
        · obtain rfl : u = ah.length := by omega
          rw [List.take_length]
          (repeat' (first | refine a_seq ?_ | refine a_exit ?_ | refine a_region ?_ | refine l_nil ?_ | (apply w_q; (focus (first | exact Q_move (by conv => lhs; whnf) | exact Q_assign (by conv => lhs; whnf) | exact Q_lss rfl rfl | exact Q_add rfl rfl (by omega))); (focus exact rfl)) | (refine a_cond rfl ?_ ?_ <;> (intro h; (try (have hp := of_decide_eq_true h)); (try (have hp := of_decide_eq_false h)); (try contradiction); (try (exfalso; omega)))) | (refine w_ap_intsS rfl rfl rfl KSl.h KMk.h (by omega) (by first|(dsimp only[obA,obB,obD,obE,obF,obG,obI,List.map,AO.sh,AV.sh,AV.shl,Nat.reduceAdd];done)|exact rfl) rfl rfl ?_))); (try all_goals (try show retA _ _ _ _ _ _ _))
          all_goals first
            | (exfalso; omega)
            | (try dsimp only [thenA, blockA]
               refine ⟨(i + 1, (out ++ Y) ++ crs ah X, ah ++ X), [0, 1, 3], ?_, ?_, ?_, rfl⟩ <;> (try dsimp only)
               · exact ⟨by show i + 1 ≤ l.length; omega, htp.symm, hout⟩
               · show l.length - (i + 1) < l.length - i; omega
               · (refine St.le_mk rfl (VwOs.mk (by decide) ?_) ?_ <;> (repeat' (first | exact trivial | exact vwR rfl | exact Vw.own _ _ rfl | exact Vw.ptr _ _ _ rfl | exact VwO.row _ _ _ | refine VwO.box' ?_ | refine ⟨⟨_, rfl, ?_⟩, ?_⟩ | refine ⟨?_, ?_⟩ ))))
            | (all_goals trace_state); fail
      · rw [if_neg hk3] at hout hol
        rw [List.nil_append, ← List.append_assoc] at hout
        (repeat' (first | refine a_seq ?_ | refine a_block ?_ | refine a_skip ?_ | refine a_region ?_ | refine l_nil ?_ | (apply w_q; (focus (first | exact Q_move (by conv => lhs; whnf) | exact Q_assign (by conv => lhs; whnf) | exact Q_fieldAddr_ptr rfl KFl.h | exact Q_load_ptr rfl rfl rfl KSc.h | exact Q_load_all rfl rfl KAg.h | exact Q_lss rfl rfl | exact Q_eql rfl rfl | exact Q_add rfl rfl (by omega))); (focus exact rfl)) | (refine a_cond rfl ?_ ?_ <;> (intro h; (try (have hp := of_decide_eq_true h)); (try (have hp := of_decide_eq_false h)); (try contradiction); (try (exfalso; omega)))) | refine w_alloc KMk.h (by first|(dsimp only[obA,obB,obD,obE,obF,obG,obI,List.map,AO.sh,AV.sh,AV.shl,Nat.reduceAdd];done)|exact rfl) rfl (by first|(dsimp only[obA,obB,obD,obE,obF,obG,obI,List.map,AO.sh,AV.sh,AV.shl,Nat.reduceAdd];done)|exact rfl) (by first|(dsimp only[obA,obB,obD,obE,obF,obG,obI,List.map,AO.sh,AV.sh,AV.shl,Nat.reduceAdd];done)|exact rfl) rfl ?_ | refine w_store_all rfl rfl rfl rfl rfl KSz.h (by first|(dsimp only[obA,obB,obD,obE,obF,obG,obI,List.map,AO.sh,AV.sh,AV.shl,Nat.reduceAdd];done)|exact rfl) ?_ | (((first | apply w_q); (focus exact Q_ix_kid rfl rfl rfl KSl.h hil); (focus exact rfl))) | (((first | apply w_q); (focus exact Q_ld_kid rfl hil hk KAg.h); (focus exact rfl))) | ((refine w_callV (.inl ⟨rfl, rfl⟩) (callP) ?_ (by first | (dsimp only [AV.sh, AV.shl, sh_ints, sh_rows, sh_pairs, sh_ords]; done) | exact rfl) rfl ?_; rotate_left 0; (focus ((repeat' (first | exact trivial | exact Vs.val _ | exact Vs.ro _ | refine Vs.agg' ?_ | refine ⟨?_, ?_⟩)); done)); rotate_left 1; all_goals (try (skip)))) | ((refine w_callV (.inl ⟨rfl, rfl⟩) (callT) ?_ (by first | (dsimp only [AV.sh, AV.shl, sh_ints, sh_rows, sh_pairs, sh_ords]; done) | exact rfl) rfl ?_; rotate_left 0; (focus ((repeat' (first | exact trivial | exact Vs.val _ | exact Vs.ro _ | refine Vs.agg' ?_ | refine ⟨?_, ?_⟩)); done)); rotate_left 1; all_goals (try (skip)))) | (refine w_ap_pairsR rfl rfl rfl KSl.h KMk.h (by omega) (by first|(dsimp only[obA,obB,obD,obE,obF,obG,obI,List.map,AO.sh,AV.sh,AV.shl,Nat.reduceAdd];done)|exact rfl) rfl rfl ?_) | (refine w_ap_intsS rfl rfl rfl KSl.h KMk.h (by omega) (by first|(dsimp only[obA,obB,obD,obE,obF,obG,obI,List.map,AO.sh,AV.sh,AV.shl,Nat.reduceAdd];done)|exact rfl) rfl rfl ?_))); (try all_goals (try show retA _ _ _ _ _ _ _))
        all_goals first
          | (exfalso; omega)
          | (try dsimp only [thenA, blockA]
             refine ⟨(i + 1, out ++ Y, ah ++ X), [0, 4, 5], ?_, ?_, ?_, rfl⟩ <;> (try dsimp only)
             · exact ⟨by show i + 1 ≤ l.length; omega, htp.symm, hout⟩
             · show l.length - (i + 1) < l.length - i; omega
             · (refine St.le_mk rfl (VwOs.mk (by decide) ?_) ?_ <;> (repeat' (first | exact trivial | exact vwR rfl | exact Vw.own _ _ rfl | exact Vw.ptr _ _ _ rfl | exact VwO.row _ _ _ | refine VwO.box' ?_ | refine ⟨⟨_, rfl, ?_⟩, ?_⟩ | refine ⟨?_, ?_⟩ ))))
          | (all_goals trace_state); fail
    · obtain rfl : i = l.length := by omega
      rw [List.drop_length, kprs_nil, List.append_nil] at hout
      subst hout
      (repeat' (first | refine a_seq ?_ | refine a_ret ?_ | refine a_exit ?_ | refine a_region ?_ | refine l_nil ?_ | (apply w_q; (focus (first | exact Q_move (by conv => lhs; whnf) | exact Q_assign (by conv => lhs; whnf) | exact Q_lss rfl rfl)); (focus exact rfl)) | (refine a_cond rfl ?_ ?_ <;> (intro h; (try (have hp := of_decide_eq_true h)); (try (have hp := of_decide_eq_false h)); (try contradiction); (try (exfalso; omega)))))); (try all_goals (try show retA _ _ _ _ _ _ _))
      all_goals first
        | (exfalso; omega)
        | (refine ⟨[_], [1], ⟨resV_tmp (by conv => lhs; whnf), trivial⟩, VwOs.mk (by decide) ⟨⟨_, rfl, .row _ _ _⟩, trivial⟩, ?_, rfl⟩; (repeat' (first | exact Vw.own _ _ rfl)); done)
        | (all_goals trace_state); fail
end Go.Proofs.YtbgecpjlopdkfaaDoor
