import Derived.Test.YtpfldhaaiglgdaaDoorVb
import Derived.Test.YtpfldhaaiglgdaaDoorGb
import Derived.Test.YtpfldhaaiglgdaaDoorFg
set_option linter.unusedSimpArgs false
set_option linter.unusedVariables false
set_option linter.unusedSectionVars false
set_option maxRecDepth 20000
namespace Go.Proofs.YtpfldhaaiglgdaaDoor
attribute [local irreducible] QOp aL aC qL
theorem toN_get {l : List (Int × Int)} {i : Nat} (h : i < l.length) : (toN l).getD i (0, 0) = ((l.getD i (0, 0)).1.toNat, (l.getD i (0, 0)).2.toNat) := by
  simp [toN, List.getD_eq_getElem?_getD, h]
theorem RMake1_ac (n : Nat) (M : Nat → Nat → Bool) (a b : Nat) (ha : a < n) (hb : b < n) : AC Tryd.prog 117 [.val (.int .i64 a), .val (.int .i64 b), .rpt [.sl 1 (mtD n M)] 0] [] (.val (.bool (M a b))) [] := by
  refine AC.mk (n := 13) (fn := Tryd.f117) Tryd.func117 (by kernel_rfl) rfl rfl rfl rfl (fun cx => ?_); dsimp only [argv, Nat.reduceAdd]
  (repeat' (first | refine a_seq ?_ | refine a_ret ?_ | refine a_region ?_ | refine l_nil ?_ | (apply w_q; (focus (first | exact Q_move (by conv => lhs; whnf) | exact Q_assign (by conv => lhs; whnf) | exact Q_ld_rs rfl rfl KSc.h)); (focus exact rfl)) | (((first | apply w_q); (focus exact Q_ix_mtD rfl rfl rfl KSl.h (by omega)); (focus exact rfl))) | (((first | apply w_q); (focus exact Q_ld_mtD rfl (by omega) KSc.h); (focus exact rfl))) | (((first | apply w_q); (focus exact Q_ix_mbD rfl rfl rfl KSl.h (by omega)); (focus exact rfl))) | (((first | apply w_q); (focus exact Q_ld_mbD rfl (by omega) KSc.h); (focus exact rfl))))); (try all_goals (try show retA _ _ _ _ _ _ _))
  refine ⟨[_], [], ⟨resV_tmp (by conv => lhs; whnf), trivial⟩, VwOs.mk (by decide) trivial, ?_, rfl⟩
  (repeat' (first | exact vwR rfl))
set_option maxHeartbeats 4000000 in
theorem RMake_ac (N : Int) (l : List (Int × Int)) (hL : l.length ≤ 9223372036854775807) (e : Int) (he : mkE N l = e) :
    AC Tryd.prog 63 [.val (.int .i64 N), pairs l] [] (mkA N e) (mkO 3 N l e) := by
  by_cases h1 : N < 0 ∨ 10 < N
  · obtain rfl : e = 2 := by rw [← he, mkE, if_pos h1]
    refine AC.mk (n := 138) (fn := Tryd.f63) Tryd.func63 (by kernel_rfl) rfl rfl rfl rfl (fun cx => ?_); dsimp only [argv, Nat.reduceAdd]
    (repeat' (first | refine a_seq ?_ | refine a_ret ?_ | refine a_region ?_ | refine l_nil ?_ | (apply w_q; (focus (first | exact Q_move (by conv => lhs; whnf) | exact Q_assign (by conv => lhs; whnf) | exact Q_lss rfl rfl | exact Q_gtr rfl rfl | exact Q_build0 KBd.h (by simp only [List.map_cons, List.map_nil, List.take_succ_cons, List.take_zero, List.drop_succ_cons, List.drop_zero, List.drop_nil, List.nil_append, List.cons_append, List.append_nil, List.length_cons, List.length_nil, Nat.reduceAdd, Nat.reduceMul]; exact rfl) | exact Q_pick_t rfl (by assumption) (by conv => lhs; whnf) | exact Q_pick_f rfl (by assumption) (by conv => lhs; whnf))); (focus exact rfl)) | (refine a_cond rfl ?_ ?_ <;> (intro h; (try (have hp := of_decide_eq_true h)); (try (have hp := of_decide_eq_false h)); (try contradiction); (try (exfalso; omega)))) | refine w_guard_y rfl rfl rfl (by first | assumption | rfl) ?_ | refine w_guard_n rfl rfl rfl (by first | assumption | rfl) ?_ | (refine w_guard rfl rfl rfl ?_ ?_ <;> (intro h; (try (have hp := of_decide_eq_true h)); (try (have hp := of_decide_eq_false h)); (try contradiction); (try (exfalso; omega)))) | refine w_alloc KMk.h (by first|(dsimp only[obA,obB,obD,obE,obF,obG,obI,List.map,AO.sh,AV.sh,AV.shl,Nat.reduceAdd];done)|exact rfl) rfl (by first|(dsimp only[obA,obB,obD,obE,obF,obG,obI,List.map,AO.sh,AV.sh,AV.shl,Nat.reduceAdd];done)|exact rfl) (by first|(dsimp only[obA,obB,obD,obE,obF,obG,obI,List.map,AO.sh,AV.sh,AV.shl,Nat.reduceAdd];done)|exact rfl) rfl ?_ | refine w_store_all rfl rfl rfl rfl rfl KSz.h (by first|(dsimp only[obA,obB,obD,obE,obF,obG,obI,List.map,AO.sh,AV.sh,AV.shl,Nat.reduceAdd];done)|exact rfl) ?_)); (try all_goals (try show retA _ _ _ _ _ _ _))
    all_goals first
      | (exfalso; omega)
      | (refine ⟨[_, _], [], ⟨resV_cell rfl rfl KAg.h, resV_tmp (by conv => lhs; whnf), trivial⟩, VwOs.mk (by decide) trivial, ?_, rfl⟩; (repeat' (first | exact vwRL rfl | refine Vw.agg' ?_ | refine Vw.tup' ?_ | refine ⟨?_, ?_⟩ )); done)
      | (all_goals trace_state); fail
  obtain ⟨n, rfl⟩ : ∃ n : Nat, N = n := ⟨N.toNat, by omega⟩
  have hn : n ≤ 10 := by omega
  refine AC.mk (n := 138) (fn := Tryd.f63) Tryd.func63 (by kernel_rfl) rfl rfl rfl rfl (fun cx => ?_); dsimp only [argv, Nat.reduceAdd]
  (repeat' (first | refine a_seq ?_ | refine a_block ?_ | refine a_skip ?_ | refine a_region ?_ | refine l_nil ?_ | (apply w_q; (focus (first | exact Q_move (by conv => lhs; whnf) | exact Q_assign (by conv => lhs; whnf) | exact Q_lss rfl rfl | exact Q_gtr rfl rfl | exact Q_pick_f rfl rfl (by conv => lhs; whnf))); (focus exact rfl)) | (refine a_cond rfl ?_ ?_ <;> (intro h; (try (have hp := of_decide_eq_true h)); (try (have hp := of_decide_eq_false h)); (try contradiction); (try (exfalso; omega)))) | refine w_guard_y rfl rfl rfl (by first | assumption | rfl) ?_ | refine w_alloc KMk.h (by first|(dsimp only[obA,obB,obD,obE,obF,obG,obI,List.map,AO.sh,AV.sh,AV.shl,Nat.reduceAdd];done)|exact rfl) rfl (by first|(dsimp only[obA,obB,obD,obE,obF,obG,obI,List.map,AO.sh,AV.sh,AV.shl,Nat.reduceAdd];done)|exact rfl) (by first|(dsimp only[obA,obB,obD,obE,obF,obG,obI,List.map,AO.sh,AV.sh,AV.shl,Nat.reduceAdd];done)|exact rfl) rfl ?_ | refine w_store rfl rfl rfl (by conv => lhs; whnf) rfl KSz.h (by first|(dsimp only[obA,obB,obD,obE,obF,obG,obI,List.map,AO.sh,AV.sh,AV.shl,Nat.reduceAdd];done)|exact rfl) (by first|(dsimp only[obA,obB,obD,obE,obF,obG,obI,List.map,AO.sh,AV.sh,AV.shl,Nat.reduceAdd];done)|exact rfl) ?_ | (refine w_makeM 4 (fun _ => 0) (fun _ => 0) rfl rfl KSl.h KMk.h (by omega) (by first|(dsimp only[obA,obB,obD,obE,obF,obG,obI,List.map,AO.sh,AV.sh,AV.shl,Nat.reduceAdd];done)|exact rfl) (by first|(dsimp only[obA,obB,obD,obE,obF,obG,obI,List.map,AO.sh,AV.sh,AV.shl,Nat.reduceAdd];done)|exact rfl) rfl ?_))); (try all_goals (try show retA _ _ _ _ _ _ _))
  all_goals first
    | (exfalso; omega)
    | skip
  refine w_loop (X := Nat × (Nat → Nat) × (Nat → Nat)) [0, 1, 4, 6] (by simp only [keepv, getv_cons, Nat.reduceEqDiff, ↓reduceIte]; exact rfl) (fun x => [(7, .val (.int .i64 (x.1 : Nat)))]) (fun x => [.box [.val (.int .i64 0), .val (.slice none 0 0)], .mat 151 4 (blV n x.2.1 x.2.2 x.1), .box [.own 1]]) (fun x => x.1 ≤ n) (fun x => n - x.1) ((0, (fun _ => 0), (fun _ => 0))) ([0, 1, 2]) ?_ ?_ rfl ?_ <;> (try dsimp only [List.cons_append, List.nil_append])
  · exact Nat.zero_le _
  · (refine St.le_mk rfl (VwOs.mk (by decide) ?_) ?_ <;> (repeat' (first | exact trivial | exact vwR rfl | exact Vw.ro _ | exact Vw.own _ _ rfl | exact Vw.ptr _ _ _ rfl | refine VwO.box' ?_ | exact VwO.mat _ _ _ | refine ⟨⟨_, rfl, ?_⟩, ?_⟩ | refine ⟨?_, ?_⟩ )))
  rintro ⟨i, gB, cC⟩ hi
  dsimp only at hi ⊢
  by_cases hin : i < n
  · 
    (repeat' (first | refine a_seq ?_ | refine a_block ?_ | refine a_skip ?_ | refine a_region ?_ | refine l_nil ?_ | ((first | apply w_q); (focus (first | exact Q_move (by conv => lhs; whnf) | exact Q_lss rfl rfl)); (focus exact rfl)) | (refine a_cond rfl ?_ ?_ <;> (intro h; (try (have hp := of_decide_eq_true h)); (try (have hp := of_decide_eq_false h)); (try contradiction); (try (exfalso; omega))))))
    refine a_growQ (id := 7) (g := 2) 4 (by kernel_rfl) (by kernel_rfl) ?_
    apply zw_q 0 rfl (by kernel_rfl)
    focus exact Q_load_ptr rfl rfl rfl KSc.h
    focus exact rfl
    apply zw_p 1 rfl (by kernel_rfl)
    focus exact P_move (by conv => lhs; whnf)
    focus exact rfl
    apply zw_p 2 rfl (by kernel_rfl)
    focus exact P_move (by conv => lhs; whnf)
    focus exact rfl
    refine z_step (i := 3) (is := []) (by kernel_rfl) ?_
    refine zw_mk_bools rfl rfl rfl rfl rfl KSl.h KMk.h (by omega) (by first|(dsimp only[obA,obB,obD,obE,obF,obG,obI,List.map,AO.sh,AV.sh,AV.shl,Nat.reduceAdd];done)|exact rfl) (by first|(dsimp only[obA,obB,obD,obE,obF,obG,obI,List.map,AO.sh,AV.sh,AV.shl,Nat.reduceAdd];done)|exact rfl) rfl ?_ zw_nil
    refine z_done (by kernel_rfl) ?_
    first | (show aL _ _ _ _ (_ :: _) _)
    apply w_q
    focus exact Q_ix_bl rfl rfl rfl rfl KSl.h (by omega)
    focus exact rfl
    refine w_stM rfl rfl (by omega) rfl rfl rfl rfl KSz.h fun gB2 cC2 => ?_
    
    (repeat' (first | refine a_region ?_ | refine l_nil ?_ | (apply w_q; (focus (first | exact Q_move (by conv => lhs; whnf) | exact Q_assign (by conv => lhs; whnf) | exact Q_add rfl rfl (by omega))); (focus exact rfl)))); (try all_goals (try show retA _ _ _ _ _ _ _))
    all_goals first
      | (exfalso; omega)
      | (refine ⟨(i + 1, gB2, cC2), [0, 1, 2], ?_, ?_, ?_, rfl⟩ <;> (try dsimp only)
         · show i + 1 ≤ n; omega
         · show n - (i + 1) < n - i; omega
         · (refine St.le_mk rfl (VwOs.mk (by decide) ?_) ?_ <;> (repeat' (first | exact trivial | exact vwR rfl | exact Vw.ro _ | exact Vw.own _ _ rfl | exact Vw.ptr _ _ _ rfl | refine VwO.box' ?_ | exact VwO.mat _ _ _ | refine ⟨⟨_, rfl, ?_⟩, ?_⟩ | refine ⟨?_, ?_⟩ )))
        )
      | (all_goals trace_state); fail
  obtain rfl : i = n := by omega
  rw [blV_full, prM_zero (toN l)]
  (repeat' (first | refine a_seq ?_ | refine a_block ?_ | refine a_exit ?_ | refine a_region ?_ | refine l_nil ?_ | (apply w_q; (focus (first | exact Q_move (by conv => lhs; whnf) | exact Q_assign (by conv => lhs; whnf) | exact Q_lss rfl rfl)); (focus exact rfl)) | (refine a_cond rfl ?_ ?_ <;> (intro h; (try (have hp := of_decide_eq_true h)); (try (have hp := of_decide_eq_false h)); (try contradiction); (try (exfalso; omega)))))); (try all_goals (try show retA _ _ _ _ _ _ _))
  all_goals first
    | (exfalso; omega)
    | skip
  refine w_loop (X := Nat) [0, 1, 4, 6] (by simp only [keepv, getv_cons, Nat.reduceEqDiff, ↓reduceIte]; exact rfl) (fun j => [(8, .val (.int .i64 (j : Nat)))]) (fun j => [.box [.val (.int .i64 0), .val (.slice none 0 0)], .mat 151 4 (mtV i gB cC (prM (toN l) j)), .box [.own 1]]) (fun j => j ≤ l.length ∧ ∀ k, k < j → okP i (l.getD k (0, 0)) = true) (fun j => l.length - j) (0) ([0, 1, 2]) ?_ ?_ rfl ?_ <;> (try dsimp only [List.cons_append, List.nil_append])
  · exact ⟨Nat.zero_le _, fun _ h => by omega⟩
  · (refine St.le_mk rfl (VwOs.mk (by decide) ?_) ?_ <;> (repeat' (first | exact trivial | exact vwR rfl | exact Vw.ro _ | exact Vw.own _ _ rfl | exact Vw.ptr _ _ _ rfl | refine VwO.box' ?_ | exact VwO.mat _ _ _ | refine ⟨⟨_, rfl, ?_⟩, ?_⟩ | refine ⟨?_, ?_⟩ )))
  rintro j ⟨hj, hall⟩
  have htl : (toN l).length = l.length := by simp [toN]
  by_cases hjl : j < l.length
  · have hpr := prM_succ (l := toN l) (i := j) (by omega)
    have htg := toN_get hjl
    by_cases hok : okP i (l.getD j (0, 0)) = true
    · have hok' := hok
      unfold okP at hok'
      rw [decide_eq_true_eq] at hok'
      obtain ⟨b1, b2, b3, b4⟩ := hok'
      rw [htg] at hpr
      dsimp only at hpr
      obtain ⟨a, ha⟩ : ∃ a : Nat, (l.getD j (0, 0)).1 = a := ⟨_, (Int.toNat_of_nonneg b1).symm⟩
      obtain ⟨b, hb⟩ : ∃ b : Nat, (l.getD j (0, 0)).2 = b := ⟨_, (Int.toNat_of_nonneg b3).symm⟩
      rw [ha, hb, Int.toNat_natCast, Int.toNat_natCast] at hpr
      rw [ha] at b1 b2
      rw [hb] at b3 b4
      (repeat' (first | refine a_seq ?_ | refine a_block ?_ | refine a_skip ?_ | refine a_region ?_ | refine l_nil ?_ | refine q_nil ?_ | ((first | apply w_q | apply w_qq); (focus (first | exact Q_move (by conv => lhs; whnf) | exact Q_assign (by conv => lhs; whnf) | exact Q_load_ptr rfl rfl rfl KSc.h | exact Q_lss rfl rfl | exact Q_geq rfl rfl | exact Q_add rfl rfl (by omega) | exact Q_ix_pairs rfl rfl rfl KSl.h (by omega) | exact Q_ix_arp rfl rfl rfl KAr.h (by first | decide | omega) | exact Q_ld_pair1 rfl (by omega) KSc.h | exact Q_ld_pair2 rfl (by omega) KSc.h | exact Q_len_pairs rfl KSl.h | exact Q_pick_f rfl (by assumption) (by conv => lhs; whnf))); (focus exact rfl)) | (refine a_cond rfl ?_ ?_ <;> (intro h; (try (have hp := of_decide_eq_true h)); (try (have hp := of_decide_eq_false h)); (try contradiction); (try (exfalso; omega)))) | refine w_guard_y rfl rfl rfl (by first | assumption | rfl) ?_ | ((first | refine w_guard rfl rfl rfl ?_ ?_) <;> (intro h; (try (have hp := of_decide_eq_true h)); (try (have hp := of_decide_eq_false h)); (try contradiction); (try (exfalso; omega)))) | refine a_draw (by kernel_rfl) (by kernel_rfl) ?_ | (((first | apply w_q); (focus exact Q_ix_mt (i := a) rfl rfl rfl ha KSl.h (by omega)); (focus exact rfl))) | (((first | apply w_q); (focus exact Q_ld_mt rfl rfl (by omega) KSc.h); (focus exact rfl))) | (((first | apply w_q); (focus exact Q_ix_slv (i := b) rfl rfl hb KSl.h (by omega)); (focus exact rfl))) | (refine w_stI (id := 1) (a := a) (b := b) (by omega) (by omega) rfl rfl rfl KSz.h (by first|(dsimp only[obA,obB,obD,obE,obF,obG,obI,List.map,AO.sh,AV.sh,AV.shl,Nat.reduceAdd];done)|exact rfl) ?_))); (try all_goals (try show retA _ _ _ _ _ _ _))
      all_goals first
        | (exfalso; omega)
        | (refine ⟨j + 1, [0, 1, 2], ?_, ?_, ?_, rfl⟩ <;> (try dsimp only)
           · refine ⟨by omega, fun k hk => ?_⟩
             by_cases hq : k = j
             · subst hq; exact hok
             · exact hall k (by omega)
           · omega
           · rw [← hpr]
             (refine St.le_mk rfl (VwOs.mk (by decide) ?_) ?_ <;> (repeat' (first | exact trivial | exact vwR rfl | exact Vw.ro _ | exact Vw.own _ _ rfl | exact Vw.ptr _ _ _ rfl | refine VwO.box' ?_ | exact VwO.mat _ _ _ | refine ⟨⟨_, rfl, ?_⟩, ?_⟩ | refine ⟨?_, ?_⟩ )))
          )
        | (all_goals trace_state); fail
    · have hok' := hok
      unfold okP at hok'
      rw [decide_eq_true_eq] at hok'
      (repeat' (first | refine a_seq ?_ | refine a_block ?_ | refine a_skip ?_ | refine a_ret ?_ | refine a_region ?_ | refine l_nil ?_ | refine q_nil ?_ | ((first | apply w_q | apply w_qq); (focus (first | exact Q_move (by conv => lhs; whnf) | exact Q_assign (by conv => lhs; whnf) | exact Q_lss rfl rfl | exact Q_geq rfl rfl | exact Q_ix_pairs rfl rfl rfl KSl.h (by omega) | exact Q_ix_arp rfl rfl rfl KAr.h (by first | decide | omega) | exact Q_ld_pair1 rfl (by omega) KSc.h | exact Q_ld_pair2 rfl (by omega) KSc.h | exact Q_build0 KBd.h (by simp only [List.map_cons, List.map_nil, List.take_succ_cons, List.take_zero, List.drop_succ_cons, List.drop_zero, List.drop_nil, List.nil_append, List.cons_append, List.append_nil, List.length_cons, List.length_nil, Nat.reduceAdd, Nat.reduceMul]; exact rfl) | exact Q_len_pairs rfl KSl.h | exact Q_pick_t rfl (by assumption) (by conv => lhs; whnf) | exact Q_pick_f rfl (by assumption) (by conv => lhs; whnf) | exact Q_pick_t rfl rfl (by conv => lhs; whnf))); (focus exact rfl)) | (refine a_cond rfl ?_ ?_ <;> (intro h; (try (have hp := of_decide_eq_true h)); (try (have hp := of_decide_eq_false h)); (try contradiction); (try (exfalso; omega)))) | refine w_guard_y rfl rfl rfl (by first | assumption | rfl) ?_ | refine w_guard_n rfl rfl rfl (by first | assumption | rfl) ?_ | ((first | refine w_guard rfl rfl rfl ?_ ?_) <;> (intro h; (try (have hp := of_decide_eq_true h)); (try (have hp := of_decide_eq_false h)); (try contradiction); (try (exfalso; omega)))) | refine a_draw (by kernel_rfl) (by kernel_rfl) ?_ | refine w_store_all rfl rfl rfl rfl rfl KSz.h (by first|(dsimp only[obA,obB,obD,obE,obF,obG,obI,List.map,AO.sh,AV.sh,AV.shl,Nat.reduceAdd];done)|exact rfl) ?_)); (try all_goals (try show retA _ _ _ _ _ _ _))
      all_goals first
        | (exfalso; omega)
        | (obtain rfl : e = 3 := by rw [← he, mkE, if_neg h1, if_pos (okP_bad (k := j) hjl (by simpa using hok))]
           refine ⟨[_, _], [], ⟨resV_cell rfl rfl KAg.h, resV_tmp (by conv => lhs; whnf), trivial⟩, VwOs.mk (by decide) trivial, ?_, rfl⟩
           (repeat' (first | exact vwRL rfl | refine Vw.agg' ?_ | refine Vw.tup' ?_ | refine ⟨?_, ?_⟩ ))
           done)
        | (all_goals trace_state); fail
  obtain rfl : j = l.length := by omega
  have hall' := okP_good hall
  have hlt := okP_lt hall'
  have hTG := prM_tg (n := i) (l := toN l)
  rw [htl] at hTG
  have hcl := fun M => cl_clos (M := M) hlt
  have hci := fun M => cl_irr (M := M) hlt
  have hmk4 : irr i (clos i (toN l)) = false → e = 4 := fun hb => by rw [← he, mkE, if_neg h1, if_neg (by rw [hall']; decide), if_neg (by simp [hb])]
  have hmk0 : irr i (clos i (toN l)) = true → e = 0 := fun hb => by rw [← he, mkE, if_neg h1, if_neg (by rw [hall']; decide), if_pos (by simp [hb])]
  have hmO : e = 0 → mkO 3 i l e = [.row 3 1 (intc (nl (clos i (toN l))))] := fun h => by subst h; rfl
  have hmO2 : e = 4 → mkO 3 i l e = [] := fun h => by subst h; rfl
  generalize mkO 3 i l e = objs2 at *
  generalize prM (toN l) l.length = M1 at *
  generalize toN l = L at *
  (repeat' (first | refine a_seq ?_ | refine a_block ?_ | refine a_exit ?_ | refine a_region ?_ | refine l_nil ?_ | (apply w_q; (focus (first | exact Q_move (by conv => lhs; whnf) | exact Q_assign (by conv => lhs; whnf) | exact Q_lss rfl rfl | exact Q_len_pairs rfl KSl.h)); (focus exact rfl)) | (refine a_cond rfl ?_ ?_ <;> (intro h; (try (have hp := of_decide_eq_true h)); (try (have hp := of_decide_eq_false h)); (try contradiction); (try (exfalso; omega)))))); (try all_goals (try show retA _ _ _ _ _ _ _))
  all_goals first
    | (exfalso; omega)
    | skip
  refine w_loop (X := Bool × (Nat → Nat → Bool)) [0, 4, 6] (by simp only [keepv, getv_cons, Nat.reduceEqDiff, ↓reduceIte]; exact rfl) (fun x => [(11, .val (.bool x.1))]) (fun x => [.box [.val (.int .i64 0), .val (.slice none 0 0)], .mat 151 4 (mtV i gB cC x.2), .box [.own 1]]) (fun x => TG i L x.2 ∧ (x.1 = false → ClM i x.2)) (fun x => if x.1 then i * i - cntM i x.2 + 1 else 0) ((true, M1)) ([0, 1, 2]) ?_ ?_ rfl ?_ <;> (try dsimp only [List.cons_append, List.nil_append])
  · exact ⟨hTG, fun h => by cases h⟩
  · (refine St.le_mk rfl (VwOs.mk (by decide) ?_) ?_ <;> (repeat' (first | exact trivial | exact vwR rfl | exact Vw.own _ _ rfl | exact Vw.ptr _ _ _ rfl | refine VwO.box' ?_ | exact VwO.mat _ _ _ | refine ⟨⟨_, rfl, ?_⟩, ?_⟩ | refine ⟨?_, ?_⟩ )))
  rintro ⟨ag, M⟩ ⟨hT, hC⟩
  dsimp only at hT hC ⊢
  cases ag
  · have hC := hC rfl
    have hcM := hcl M hT hC
    have hiM := hci M hT hC
    (repeat' (first | refine a_seq ?_ | refine a_block ?_ | refine a_exit ?_ | refine a_region ?_ | refine l_nil ?_ | (apply w_q; (focus (first | exact Q_move (by conv => lhs; whnf) | exact Q_assign (by conv => lhs; whnf))); (focus exact rfl)) | (refine a_cond rfl ?_ ?_ <;> (intro h; (try (have hp := of_decide_eq_true h)); (try (have hp := of_decide_eq_false h)); (try contradiction); (try (exfalso; omega)))))); (try all_goals (try show retA _ _ _ _ _ _ _))
    all_goals first
      | (exfalso; omega)
      | skip
    refine w_loop (X := Nat) [0, 4, 6] (by simp only [keepv, getv_cons, Nat.reduceEqDiff, ↓reduceIte]; exact rfl) (fun j => [(15, .val (.int .i64 (j : Nat)))]) (fun _ => [.box [.val (.int .i64 0), .val (.slice none 0 0)], .mat 151 4 (mtV i gB cC M), .box [.own 1]]) (fun j => j ≤ i ∧ ∀ k, k < j → M k k = false) (fun j => i - j) (0) ([0, 1, 2]) ?_ ?_ rfl ?_ <;> (try dsimp only [List.cons_append, List.nil_append])
    · exact ⟨Nat.zero_le _, fun _ h => absurd h (Nat.not_lt_zero _)⟩
    · (refine St.le_mk rfl (VwOs.mk (by decide) ?_) ?_ <;> (repeat' (first | exact trivial | exact vwR rfl | exact Vw.own _ _ rfl | exact Vw.ptr _ _ _ rfl | refine VwO.box' ?_ | exact VwO.mat _ _ _ | refine ⟨⟨_, rfl, ?_⟩, ?_⟩ | refine ⟨?_, ?_⟩ )))
    rintro j ⟨hj, hd⟩
    by_cases hji : j < i
    · cases q1 : M j j
      · (repeat' (first | refine a_seq ?_ | refine a_block ?_ | refine a_skip ?_ | refine a_region ?_ | refine l_nil ?_ | (apply w_q; (focus (first | exact Q_move (by conv => lhs; whnf) | exact Q_assign (by conv => lhs; whnf) | exact Q_load_ptr rfl rfl rfl KSc.h | exact Q_lss rfl rfl | exact Q_add rfl rfl (by omega))); (focus exact rfl)) | (refine a_cond rfl ?_ ?_ <;> (intro h; (try (have hp := of_decide_eq_true h)); (try (have hp := of_decide_eq_false h)); (try contradiction); (try (exfalso; omega)))) | (((first | apply w_q); (focus exact Q_ix_mt rfl rfl rfl rfl KSl.h (by omega)); (focus exact rfl))) | (((first | apply w_q); (focus exact Q_ld_mt rfl rfl (by omega) KSc.h); (focus exact rfl))) | (((first | apply w_q); (focus exact Q_ix_slv rfl rfl rfl KSl.h (by omega)); (focus exact rfl))) | (((first | apply w_q); (focus exact Q_ld_mb (id := 1) rfl (by omega) (by omega) rfl KSc.h); (focus exact rfl))))); (try all_goals (try show retA _ _ _ _ _ _ _))
        all_goals first
          | (exfalso; omega)
          | (exfalso; simp [q1] at *; done)
          | (refine ⟨j + 1, [0, 1, 2], ?_, ?_, ?_, rfl⟩ <;> (try dsimp only)
             · refine ⟨by omega, fun k hk => ?_⟩
               by_cases hq : k = j
               · subst hq; exact q1
               · exact hd k (by omega)
             · omega
             · (refine St.le_mk rfl (VwOs.mk (by decide) ?_) ?_ <;> (repeat' (first | exact trivial | exact vwR rfl | exact Vw.own _ _ rfl | exact Vw.ptr _ _ _ rfl | refine VwO.box' ?_ | exact VwO.mat _ _ _ | refine ⟨⟨_, rfl, ?_⟩, ?_⟩ | refine ⟨?_, ?_⟩ ))))
          | (all_goals trace_state); fail
      · have hno : irr i (clos i L) = false := by
          cases hb : irr i (clos i L)
          · rfl
          · have := hiM.1 hb j hji
            rw [q1] at this; cases this
        obtain rfl := hmk4 hno
        rw [hmO2 rfl]
        (repeat' (first | refine a_seq ?_ | refine a_block ?_ | refine a_skip ?_ | refine a_ret ?_ | refine a_region ?_ | refine l_nil ?_ | (apply w_q; (focus (first | exact Q_move (by conv => lhs; whnf) | exact Q_assign (by conv => lhs; whnf) | exact Q_load_ptr rfl rfl rfl KSc.h | exact Q_lss rfl rfl | exact Q_build0 KBd.h (by simp only [List.map_cons, List.map_nil, List.take_succ_cons, List.take_zero, List.drop_succ_cons, List.drop_zero, List.drop_nil, List.nil_append, List.cons_append, List.append_nil, List.length_cons, List.length_nil, Nat.reduceAdd, Nat.reduceMul]; exact rfl))); (focus exact rfl)) | (refine a_cond rfl ?_ ?_ <;> (intro h; (try (have hp := of_decide_eq_true h)); (try (have hp := of_decide_eq_false h)); (try contradiction); (try (exfalso; omega)))) | refine w_store_all rfl rfl rfl rfl rfl KSz.h (by first|(dsimp only[obA,obB,obD,obE,obF,obG,obI,List.map,AO.sh,AV.sh,AV.shl,Nat.reduceAdd];done)|exact rfl) ?_ | (((first | apply w_q); (focus exact Q_ix_mt rfl rfl rfl rfl KSl.h (by omega)); (focus exact rfl))) | (((first | apply w_q); (focus exact Q_ld_mt rfl rfl (by omega) KSc.h); (focus exact rfl))) | (((first | apply w_q); (focus exact Q_ix_slv rfl rfl rfl KSl.h (by omega)); (focus exact rfl))) | (((first | apply w_q); (focus exact Q_ld_mb (id := 1) rfl (by omega) (by omega) rfl KSc.h); (focus exact rfl))))); (try all_goals (try show retA _ _ _ _ _ _ _))
        all_goals first
          | (exfalso; omega)
          | (exfalso; simp [q1] at *; done)
          | (refine ⟨[_, _], [], ⟨resV_cell rfl rfl KAg.h, resV_tmp (by conv => lhs; whnf), trivial⟩, VwOs.mk (by decide) trivial, ?_, rfl⟩
             (repeat' (first | exact vwRL rfl | refine Vw.agg' ?_ | refine Vw.tup' ?_ | refine ⟨?_, ?_⟩ ))
             done)
          | (all_goals trace_state); fail
    · obtain rfl : j = i := by omega
      have hyes : irr j (clos j L) = true := hiM.2 fun k hk => hd k hk
      obtain rfl := hmk0 hyes
      rw [hmO rfl, ← hcM]
      have kO := OrderOf_ac j M (by omega) (isFn_clo 117 [.rpt [.sl 1 (mtD j M)] 0]) (fun a b ha hb => RMake1_ac j M a b ha hb)
      (repeat' (first | refine a_seq ?_ | refine a_exit ?_ | refine a_region ?_ | refine l_nil ?_ | (apply w_q; (focus (first | exact Q_move (by conv => lhs; whnf) | exact Q_lss rfl rfl)); (focus exact rfl)) | (refine a_cond rfl ?_ ?_ <;> (intro h; (try (have hp := of_decide_eq_true h)); (try (have hp := of_decide_eq_false h)); (try contradiction); (try (exfalso; omega)))))); (try all_goals (try show retA _ _ _ _ _ _ _))
      all_goals first
        | (exfalso; omega)
        | skip
      refine w_freezeM 1 rfl (by simp only [frv_nil, frv_cons, frl_nil, frl_cons, fro_nil, fro_cons, fro_box, fro_row, fro_gone, fr_own, fr_val, fr_ro, fr_rpt, fr_ptr, fr_ept, fr_agg, fr_tup, fr_clo, fr_ints, fr_rows, fr_pairs, fr_ords, Nat.reduceEqDiff, ↓reduceIte, List.set_cons_zero, List.set_cons_succ]; exact rfl) (by simp only [frv_nil, frv_cons, frl_nil, frl_cons, fro_nil, fro_cons, fro_box, fro_row, fro_gone, fr_own, fr_val, fr_ro, fr_rpt, fr_ptr, fr_ept, fr_agg, fr_tup, fr_clo, fr_ints, fr_rows, fr_pairs, fr_ords, Nat.reduceEqDiff, ↓reduceIte, List.set_cons_zero, List.set_cons_succ]; exact rfl) ?_
      simp only [mtD_mtV]
      refine w_freezeB 2 [.sl 1 (mtD j M)] rfl rfl (by simp only [fbv_nil, fbv_cons, fbl_nil, fbl_cons, fbo_nil, fbo_cons, fbo_box, fbo_row, fbo_gone, fb_own, fb_val, fb_ro, fb_rpt, fb_ptr, fb_ept, fb_agg, fb_tup, fb_clo, fb_ints, fb_rows, fb_pairs, fb_ords, Nat.reduceEqDiff, ↓reduceIte, List.set_cons_zero, List.set_cons_succ]; exact rfl) (by simp only [fbv_nil, fbv_cons, fbl_nil, fbl_cons, fbo_nil, fbo_cons, fbo_box, fbo_row, fbo_gone, fb_own, fb_val, fb_ro, fb_rpt, fb_ptr, fb_ept, fb_agg, fb_tup, fb_clo, fb_ints, fb_rows, fb_pairs, fb_ords, Nat.reduceEqDiff, ↓reduceIte, List.set_cons_zero, List.set_cons_succ]; exact rfl) ?_
      (repeat' (first | refine a_ret ?_ | refine l_nil ?_ | (apply w_q; (focus (first | exact Q_assign (by conv => lhs; whnf) | exact Q_clo1 (by conv => lhs; whnf))); (focus exact rfl)) | refine w_store_all rfl rfl rfl rfl rfl KSz.h (by first|(dsimp only[obA,obB,obD,obE,obF,obG,obI,List.map,AO.sh,AV.sh,AV.shl,Nat.reduceAdd];done)|exact rfl) ?_ | ((refine w_callR (res := .agg [.val (.int .i64 (j : Int)), .own 0]) (news := [.row 3 1 (intc (nl (ofn j M)))]) (.inl ⟨rfl, rfl⟩) (kO) ?_ ?_ ?_ rfl (by repeat' (first | exact trivial | exact flat_ints _ _ | refine ⟨?_, ?_⟩)) (by first|(dsimp only[obA,obB,obD,obE,obF,obG,obI,List.map,AO.sh,AV.sh,AV.shl,Nat.reduceAdd];done)|exact rfl) (by first|(dsimp only[obA,obB,obD,obE,obF,obG,obI,List.map,AO.sh,AV.sh,AV.shl,Nat.reduceAdd];done)|exact rfl) rfl ?_; rotate_left 0; (focus exact rfl); (focus exact rfl); (focus ((repeat' (first | exact vwRL rfl)); done)); rotate_left 1; all_goals (try (skip)))))); (try all_goals (try show retA _ _ _ _ _ _ _))
      all_goals first
        | (exfalso; omega)
        | (refine ⟨[_, _], [3], ⟨resV_cell rfl rfl KAg.h, resV_tmp (by conv => lhs; whnf), trivial⟩, VwOs.mk (by decide) ⟨⟨_, rfl, .row _ _ _⟩, trivial⟩, ?_, rfl⟩
           (repeat' (first | exact trivial | exact vwR rfl | exact vwRL rfl | exact Vw.own _ _ rfl | refine Vw.agg' ?_ | refine Vw.tup' ?_ | refine ⟨?_, ?_⟩ ))
           done)
        | (all_goals trace_state); fail
  · have h00 := PI.start hT
    (repeat' (first | refine a_seq ?_ | refine a_block ?_ | refine a_skip ?_ | refine a_region ?_ | refine l_nil ?_ | (apply w_q; (focus (first | exact Q_move (by conv => lhs; whnf) | exact Q_assign (by conv => lhs; whnf))); (focus exact rfl)) | (refine a_cond rfl ?_ ?_ <;> (intro h; (try (have hp := of_decide_eq_true h)); (try (have hp := of_decide_eq_false h)); (try contradiction); (try (exfalso; omega)))))); (try all_goals (try show retA _ _ _ _ _ _ _))
    all_goals first
      | (exfalso; omega)
      | skip
    refine w_loop (X := Nat × Bool × (Nat → Nat → Bool)) [0, 4, 6] (by simp only [keepv, getv_cons, Nat.reduceEqDiff, ↓reduceIte]; exact rfl) (fun x => [(11, .val (.bool x.2.1)), (12, .val (.int .i64 (x.1 : Nat)))]) (fun x => [.box [.val (.int .i64 0), .val (.slice none 0 0)], .mat 151 4 (mtV i gB cC x.2.2), .box [.own 1]]) (fun x => x.1 ≤ i ∧ PI i L M x.2.1 x.2.2 x.1 0 0) (fun x => i - x.1) ((0, false, M)) ([0, 1, 2]) ?_ ?_ rfl ?_ <;> (try dsimp only [List.cons_append, List.nil_append])
    · exact ⟨Nat.zero_le _, h00⟩
    · (refine St.le_mk rfl (VwOs.mk (by decide) ?_) ?_ <;> (repeat' (first | exact trivial | exact vwR rfl | exact Vw.own _ _ rfl | exact Vw.ptr _ _ _ rfl | refine VwO.box' ?_ | exact VwO.mat _ _ _ | refine ⟨⟨_, rfl, ?_⟩, ?_⟩ | refine ⟨?_, ?_⟩ )))
    rintro ⟨a, ag, M2⟩ ⟨ha, hP⟩
    dsimp only at ha hP ⊢
    by_cases hai : a < i
    · (repeat' (first | refine a_seq ?_ | refine a_block ?_ | refine a_skip ?_ | refine a_region ?_ | refine l_nil ?_ | (apply w_q; (focus (first | exact Q_move (by conv => lhs; whnf) | exact Q_assign (by conv => lhs; whnf) | exact Q_lss rfl rfl)); (focus exact rfl)) | (refine a_cond rfl ?_ ?_ <;> (intro h; (try (have hp := of_decide_eq_true h)); (try (have hp := of_decide_eq_false h)); (try contradiction); (try (exfalso; omega)))))); (try all_goals (try show retA _ _ _ _ _ _ _))
      all_goals first
        | (exfalso; omega)
        | skip
      refine w_loop (X := Nat × Bool × (Nat → Nat → Bool)) [0, 4, 6, 12] (by simp only [keepv, getv_cons, Nat.reduceEqDiff, ↓reduceIte]; exact rfl) (fun x => [(11, .val (.bool x.2.1)), (13, .val (.int .i64 (x.1 : Nat)))]) (fun x => [.box [.val (.int .i64 0), .val (.slice none 0 0)], .mat 151 4 (mtV i gB cC x.2.2), .box [.own 1]]) (fun x => x.1 ≤ i ∧ PI i L M x.2.1 x.2.2 a x.1 0) (fun x => i - x.1) ((0, ag, M2)) ([0, 1, 2]) ?_ ?_ rfl ?_ <;> (try dsimp only [List.cons_append, List.nil_append])
      · exact ⟨Nat.zero_le _, hP⟩
      · (refine St.le_mk rfl (VwOs.mk (by decide) ?_) ?_ <;> (repeat' (first | exact trivial | exact vwR rfl | exact Vw.own _ _ rfl | exact Vw.ptr _ _ _ rfl | refine VwO.box' ?_ | exact VwO.mat _ _ _ | refine ⟨⟨_, rfl, ?_⟩, ?_⟩ | refine ⟨?_, ?_⟩ )))
      rintro ⟨b, ag, M2⟩ ⟨hb, hP⟩
      dsimp only at hb hP ⊢
      by_cases hbi : b < i
      · (repeat' (first | refine a_seq ?_ | refine a_block ?_ | refine a_skip ?_ | refine a_region ?_ | refine l_nil ?_ | (apply w_q; (focus (first | exact Q_move (by conv => lhs; whnf) | exact Q_assign (by conv => lhs; whnf) | exact Q_lss rfl rfl)); (focus exact rfl)) | (refine a_cond rfl ?_ ?_ <;> (intro h; (try (have hp := of_decide_eq_true h)); (try (have hp := of_decide_eq_false h)); (try contradiction); (try (exfalso; omega)))))); (try all_goals (try show retA _ _ _ _ _ _ _))
        all_goals first
          | (exfalso; omega)
          | skip
        refine w_loop (X := Nat × Bool × (Nat → Nat → Bool)) [0, 4, 6, 12, 13] (by simp only [keepv, getv_cons, Nat.reduceEqDiff, ↓reduceIte]; exact rfl) (fun x => [(11, .val (.bool x.2.1)), (14, .val (.int .i64 (x.1 : Nat)))]) (fun x => [.box [.val (.int .i64 0), .val (.slice none 0 0)], .mat 151 4 (mtV i gB cC x.2.2), .box [.own 1]]) (fun x => x.1 ≤ i ∧ PI i L M x.2.1 x.2.2 a b x.1) (fun x => i - x.1) ((0, ag, M2)) ([0, 1, 2]) ?_ ?_ rfl ?_ <;> (try dsimp only [List.cons_append, List.nil_append])
        · exact ⟨Nat.zero_le _, hP⟩
        · (refine St.le_mk rfl (VwOs.mk (by decide) ?_) ?_ <;> (repeat' (first | exact trivial | exact vwR rfl | exact Vw.own _ _ rfl | exact Vw.ptr _ _ _ rfl | refine VwO.box' ?_ | exact VwO.mat _ _ _ | refine ⟨⟨_, rfl, ?_⟩, ?_⟩ | refine ⟨?_, ?_⟩ )))
        rintro ⟨c, ag, M2⟩ ⟨hc, hP⟩
        dsimp only at hc hP ⊢
        by_cases hci2 : c < i
        · by_cases hupd : M2 a b = true ∧ M2 b c = true ∧ M2 a c = false
          · obtain ⟨q1, q2, q3⟩ := hupd
            have hP2 := hP.upd hai hbi hci2 q1 q2 q3
            (repeat' (first | refine a_seq ?_ | refine a_block ?_ | refine a_skip ?_ | refine a_region ?_ | refine l_nil ?_ | (apply w_q; (focus (first | exact Q_move (by conv => lhs; whnf) | exact Q_assign (by conv => lhs; whnf) | exact Q_load_ptr rfl rfl rfl KSc.h | exact Q_lss rfl rfl | exact Q_add rfl rfl (by omega) | exact Q_not rfl | exact Q_pick_t rfl (by assumption) (by conv => lhs; whnf))); (focus exact rfl)) | (refine a_cond rfl ?_ ?_ <;> (intro h; (try (have hp := of_decide_eq_true h)); (try (have hp := of_decide_eq_false h)); (try contradiction); (try (exfalso; omega)))) | refine w_guard_y rfl rfl rfl (by first | assumption | rfl) ?_ | (((first | apply w_q); (focus exact Q_ix_mt rfl rfl rfl rfl KSl.h (by omega)); (focus exact rfl))) | (((first | apply w_q); (focus exact Q_ld_mt rfl rfl (by omega) KSc.h); (focus exact rfl))) | (((first | apply w_q); (focus exact Q_ix_slv rfl rfl rfl KSl.h (by omega)); (focus exact rfl))) | (((first | apply w_q); (focus exact Q_ld_mb (id := 1) rfl (by omega) (by omega) rfl KSc.h); (focus exact rfl))) | (refine w_stI (id := 1) (a := a) (b := c) (by omega) (by omega) rfl rfl rfl KSz.h (by first|(dsimp only[obA,obB,obD,obE,obF,obG,obI,List.map,AO.sh,AV.sh,AV.shl,Nat.reduceAdd];done)|exact rfl) ?_))); (try all_goals (try show retA _ _ _ _ _ _ _))
            all_goals first
              | (exfalso; omega)
              | (exfalso; simp [q1, q2, q3] at *; done)
              | (refine ⟨(c + 1, true, updM M2 a c true), [0, 1, 2], ?_, ?_, ?_, rfl⟩ <;> (try dsimp only)
                 · exact ⟨by omega, hP2⟩
                 · show i - (c + 1) < i - c; omega
                 · (refine St.le_mk rfl (VwOs.mk (by decide) ?_) ?_ <;> (repeat' (first | exact trivial | exact vwR rfl | exact Vw.own _ _ rfl | exact Vw.ptr _ _ _ rfl | refine VwO.box' ?_ | exact VwO.mat _ _ _ | refine ⟨⟨_, rfl, ?_⟩, ?_⟩ | refine ⟨?_, ?_⟩ ))))
              | (all_goals trace_state); fail
          · have hP2 := hP.keep fun q1 q2 => by
              cases q3 : M2 a c
              · exact absurd ⟨q1, q2, q3⟩ hupd
              · rfl
            cases q1 : M2 a b <;> cases q2 : M2 b c <;> cases q3 : M2 a c
            all_goals (try (exfalso; revert hupd; simp [q1, q2, q3]; done))
            all_goals
              (repeat' (first | refine a_seq ?_ | refine a_block ?_ | refine a_skip ?_ | refine a_region ?_ | refine l_nil ?_ | (apply w_q; (focus (first | exact Q_move (by conv => lhs; whnf) | exact Q_assign (by conv => lhs; whnf) | exact Q_load_ptr rfl rfl rfl KSc.h | exact Q_lss rfl rfl | exact Q_add rfl rfl (by omega) | exact Q_not rfl | exact Q_pick_t rfl (by assumption) (by conv => lhs; whnf) | exact Q_pick_f rfl (by assumption) (by conv => lhs; whnf) | exact Q_pick_f rfl rfl (by conv => lhs; whnf))); (focus exact rfl)) | (refine a_cond rfl ?_ ?_ <;> (intro h; (try (have hp := of_decide_eq_true h)); (try (have hp := of_decide_eq_false h)); (try contradiction); (try (exfalso; omega)))) | refine w_guard_y rfl rfl rfl (by first | assumption | rfl) ?_ | refine w_guard_n rfl rfl rfl (by first | assumption | rfl) ?_ | (((first | apply w_q); (focus exact Q_ix_mt rfl rfl rfl rfl KSl.h (by omega)); (focus exact rfl))) | (((first | apply w_q); (focus exact Q_ld_mt rfl rfl (by omega) KSc.h); (focus exact rfl))) | (((first | apply w_q); (focus exact Q_ix_slv rfl rfl rfl KSl.h (by omega)); (focus exact rfl))) | (((first | apply w_q); (focus exact Q_ld_mb (id := 1) rfl (by omega) (by omega) rfl KSc.h); (focus exact rfl))))); (try all_goals (try show retA _ _ _ _ _ _ _))
              all_goals first
                | (exfalso; omega)
                | (exfalso; simp [q1, q2, q3] at *; done)
                | (refine ⟨(c + 1, ag, M2), [0, 1, 2], ?_, ?_, ?_, rfl⟩ <;> (try dsimp only)
                   · exact ⟨by omega, hP2⟩
                   · show i - (c + 1) < i - c; omega
                   · (refine St.le_mk rfl (VwOs.mk (by decide) ?_) ?_ <;> (repeat' (first | exact trivial | exact vwR rfl | exact Vw.own _ _ rfl | exact Vw.ptr _ _ _ rfl | refine VwO.box' ?_ | exact VwO.mat _ _ _ | refine ⟨⟨_, rfl, ?_⟩, ?_⟩ | refine ⟨?_, ?_⟩ ))))
                | (all_goals trace_state); fail
        · obtain rfl : c = i := by omega
          have hP2 := hP.to (a2 := a) (b2 := b + 1) (c2 := 0) fun a' b' c' h1 h2 h3 h4 => by unfold DnV at *; omega
          (repeat' (first | refine a_seq ?_ | refine a_exit ?_ | refine a_region ?_ | refine l_nil ?_ | (apply w_q; (focus (first | exact Q_move (by conv => lhs; whnf) | exact Q_assign (by conv => lhs; whnf) | exact Q_lss rfl rfl | exact Q_add rfl rfl (by omega))); (focus exact rfl)) | (refine a_cond rfl ?_ ?_ <;> (intro h; (try (have hp := of_decide_eq_true h)); (try (have hp := of_decide_eq_false h)); (try contradiction); (try (exfalso; omega)))))); (try all_goals (try show retA _ _ _ _ _ _ _))
          all_goals first
            | (exfalso; omega)
            | (refine ⟨(b + 1, ag, M2), [0, 1, 2], ?_, ?_, ?_, rfl⟩ <;> (try dsimp only)
               · exact ⟨by omega, hP2⟩
               · show c - (b + 1) < c - b; omega
               · (refine St.le_mk rfl (VwOs.mk (by decide) ?_) ?_ <;> (repeat' (first | exact trivial | exact vwR rfl | exact Vw.own _ _ rfl | exact Vw.ptr _ _ _ rfl | refine VwO.box' ?_ | exact VwO.mat _ _ _ | refine ⟨⟨_, rfl, ?_⟩, ?_⟩ | refine ⟨?_, ?_⟩ )))
              )
            | (all_goals trace_state); fail
      · obtain rfl : b = i := by omega
        have hP2 := hP.to (a2 := a + 1) (b2 := 0) (c2 := 0) fun a' b' c' h1 h2 h3 h4 => by unfold DnV at *; omega
        (repeat' (first | refine a_seq ?_ | refine a_exit ?_ | refine a_region ?_ | refine l_nil ?_ | (apply w_q; (focus (first | exact Q_move (by conv => lhs; whnf) | exact Q_assign (by conv => lhs; whnf) | exact Q_lss rfl rfl | exact Q_add rfl rfl (by omega))); (focus exact rfl)) | (refine a_cond rfl ?_ ?_ <;> (intro h; (try (have hp := of_decide_eq_true h)); (try (have hp := of_decide_eq_false h)); (try contradiction); (try (exfalso; omega)))))); (try all_goals (try show retA _ _ _ _ _ _ _))
        all_goals first
          | (exfalso; omega)
          | (refine ⟨(a + 1, ag, M2), [0, 1, 2], ?_, ?_, ?_, rfl⟩ <;> (try dsimp only)
             · exact ⟨by omega, hP2⟩
             · show b - (a + 1) < b - a; omega
             · (refine St.le_mk rfl (VwOs.mk (by decide) ?_) ?_ <;> (repeat' (first | exact trivial | exact vwR rfl | exact Vw.own _ _ rfl | exact Vw.ptr _ _ _ rfl | refine VwO.box' ?_ | exact VwO.mat _ _ _ | refine ⟨⟨_, rfl, ?_⟩, ?_⟩ | refine ⟨?_, ?_⟩ )))
            )
          | (all_goals trace_state); fail
    · obtain rfl : a = i := by omega
      have hle1 := cntM_le a M
      have hle2 := cntM_le a M2
      (repeat' (first | refine a_seq ?_ | refine a_exit ?_ | refine a_region ?_ | refine l_nil ?_ | (apply w_q; (focus (first | exact Q_move (by conv => lhs; whnf) | exact Q_lss rfl rfl)); (focus exact rfl)) | (refine a_cond rfl ?_ ?_ <;> (intro h; (try (have hp := of_decide_eq_true h)); (try (have hp := of_decide_eq_false h)); (try contradiction); (try (exfalso; omega)))))); (try all_goals (try show retA _ _ _ _ _ _ _))
      all_goals first
        | (exfalso; omega)
        | (refine ⟨(ag, M2), [0, 1, 2], ?_, ?_, ?_, rfl⟩ <;> (try dsimp only)
           · refine ⟨hP.tg, fun h => ?_⟩
             subst h; exact hP.fin
           · cases ag
             · simp
             · have := hP.ys rfl
               simp
               omega
           · (refine St.le_mk rfl (VwOs.mk (by decide) ?_) ?_ <;> (repeat' (first | exact trivial | exact vwR rfl | exact Vw.own _ _ rfl | exact Vw.ptr _ _ _ rfl | refine VwO.box' ?_ | exact VwO.mat _ _ _ | refine ⟨⟨_, rfl, ?_⟩, ?_⟩ | refine ⟨?_, ?_⟩ ))))
        | (all_goals trace_state); fail
end Go.Proofs.YtpfldhaaiglgdaaDoor
