import Derived.Test.YtbgecpjlopdkfaaDoorHgb
set_option linter.unusedSimpArgs false
set_option linter.unusedVariables false
set_option linter.unusedSectionVars false
set_option maxRecDepth 20000
namespace Go.Proofs.YtbgecpjlopdkfaaDoor
attribute [local irreducible] QOp aL aC qL
theorem ffm_of {t : Tr} (hf : fcw t = 0) : t.ffm = 0 := by
  unfold fcw at hf
  split at hf
  · omega
  · exact hf
section
variable {k v : Int} {l : List Tr} (hs : (Tr.mk k v l).sml)
include hs
set_option maxRecDepth 20000 in
set_option maxHeartbeats 4000000 in
theorem HFo_err (N : Int) (L : List Int) (vars : List Int) (p : Int) (h : chk N L ≠ 0) : AC Tryd.prog 36 [ordv N L, ints vars, .val (.int .i64 p), ta3 k v l] [] (.tup [.val (.bool false), .val (.int .i64 (chk N L))]) [] := by
  have k1 := Check_ac N L
  generalize chk N L = e at *
  unfold ta3 tks at *
  refine AC.mk (n := 49) (fn := Tryd.f36) Tryd.func36 (by kernel_rfl) rfl rfl rfl rfl (fun cx => ?_); dsimp only [argv, Nat.reduceAdd]
  (repeat' (first | refine a_seq ?_ | refine a_ret ?_ | refine a_region ?_ | refine l_nil ?_ | (apply w_q; (focus (first | exact Q_move (by conv => lhs; whnf) | exact Q_assign (by conv => lhs; whnf) | exact Q_load_all rfl rfl KAg.h | exact Q_neq rfl rfl)); (focus exact rfl)) | (refine a_cond rfl ?_ ?_ <;> (intro h; (try (have hp := of_decide_eq_true h)); (try (have hp := of_decide_eq_false h)); (try contradiction); (try (exfalso; omega)))) | refine w_box rfl rfl (by first|(dsimp only[obA,obB,obD,obE,obF,obG,obI,List.map,AO.sh,AV.sh,AV.shl,Nat.reduceAdd];done)|exact rfl) (by first|(dsimp only[obA,obB,obD,obE,obF,obG,obI,List.map,AO.sh,AV.sh,AV.shl,Nat.reduceAdd];done)|exact rfl) rfl ?_ | (((first | apply w_q); (focus (refine Q_call (.inl ⟨rfl, rfl⟩) (k1) ?_; ((repeat' (first | exact trivial | exact vwR rfl | exact Vw.ro _ | refine Vw.agg' ?_ | refine ⟨?_, ?_⟩ )); done))); (focus exact rfl))))); (try all_goals (try show retA _ _ _ _ _ _ _))
  all_goals first
    | (exfalso; omega)
    | (exfalso; simp_all; done)
    | (refine ⟨[_, _], [], ⟨resV_tmp (by conv => lhs; whnf), resV_tmp (by conv => lhs; whnf), trivial⟩, VwOs.mk (by decide) trivial, ?_, rfl⟩; (repeat' (first | exact vwRL rfl | refine Vw.tup' ?_)); done)
    | (all_goals trace_state); fail
section
variable {n : Nat} {ns : List Nat} (hn : n ≤ 10) (hv : Vld n ns) (hok : okB n ns = true)
include hn hv hok
set_option maxRecDepth 20000 in
set_option maxHeartbeats 4000000 in
theorem HFo_bad (vars : List Int) (hvl : vars.length ≤ 9223372036854775807) (p : Int) (h : (if fcw (.mk k v l) ≠ 0 then fcw (.mk k v l) else fcE n ns vars p) ≠ 0) :
    AC Tryd.prog 36 [ordv n (nl ns), ints vars, .val (.int .i64 p), ta3 k v l] [] (.tup [.val (.bool false), .val (.int .i64 (if fcw (.mk k v l) ≠ 0 then fcw (.mk k v l) else fcE n ns vars p))]) [] := by
  have k1 := Check_ac n (nl ns)
  rw [chk_ok hn hv hok] at k1
  have k2 := fcheckW_ac k v l hs
  have kA := ContainsI_ac (cl := .clo 82 [.rpt [.val (.int .i64 n), .sl 1 (intc (nl ns))] 0]) (isFn_clo _ _) (bdS n) vars hvl (fun x _ => frcA_ac hn hv x)
  have kB : vars.any (bdS n) = false → AC Tryd.prog 81 [ints vars, .clo 83 [.rpt [.val (.int .i64 n), .sl 1 (intc (nl ns))] 0]] [] (.val (.bool (vars.any fun x => !upB n ns x.toNat))) [] := fun hb =>
    ContainsI_ac (cl := .clo 83 [.rpt [.val (.int .i64 n), .sl 1 (intc (nl ns))] 0]) (isFn_clo _ _) (fun x => !upB n ns x.toNat) vars hvl (fun x hx => by
      have := List.any_eq_false.1 hb x hx
      unfold bdS at this
      rw [decide_eq_true_eq] at this
      obtain ⟨m, rfl⟩ := Int.eq_ofNat_of_zero_le (show 0 ≤ x by omega)
      exact frcB_ac hn hv m (by omega))
  unfold fcE at h ⊢
  generalize fcw (.mk k v l) = e at *
  generalize vars.any (bdS n) = b1 at *
  generalize (vars.any fun x => !upB n ns x.toNat) = b2 at *
  unfold ta3 tks at *
  by_cases he : e = 0
  · subst he
    rw [if_neg (by decide)] at h ⊢
    by_cases hl3 : vars.length = 3
    · rw [if_neg (by omega)] at h ⊢
      by_cases h1 : p < 0 ∨ (n : Int) ≤ p ∨ b1 = true
      · rw [if_pos h1] at h ⊢
        clear kB
        rcases (show p < 0 ∨ (0 ≤ p ∧ (n : Int) ≤ p) ∨ (0 ≤ p ∧ p < n ∧ b1 = true) by
          rcases h1 with h1 | h1 | h1
          · exact .inl h1
          · rcases Int.lt_or_le p 0 with h | h
            · exact .inl h
            · exact .inr (.inl ⟨h, h1⟩)
          · rcases Int.lt_or_le p 0 with h | h
            · exact .inl h
            · rcases Int.lt_or_le p n with h' | h'
              · exact .inr (.inr ⟨h, h', h1⟩)
              · exact .inr (.inl ⟨h, h'⟩)) with c | ⟨c0, c⟩ | ⟨c0, c, rfl⟩
        all_goals
          refine AC.mk (n := 49) (fn := Tryd.f36) Tryd.func36 (by kernel_rfl) rfl rfl rfl rfl (fun cx => ?_); dsimp only [argv, Nat.reduceAdd]
          (repeat' (first | refine a_seq ?_ | refine a_region ?_ | refine l_nil ?_ | (apply w_q; (focus (first | exact Q_assign (by conv => lhs; whnf))); (focus exact rfl)) | refine w_box rfl rfl (by first|(dsimp only[obA,obB,obD,obE,obF,obG,obI,List.map,AO.sh,AV.sh,AV.shl,Nat.reduceAdd];done)|exact rfl) (by first|(dsimp only[obA,obB,obD,obE,obF,obG,obI,List.map,AO.sh,AV.sh,AV.shl,Nat.reduceAdd];done)|exact rfl) rfl ?_)); (try all_goals (try show retA _ _ _ _ _ _ _))
          refine w_freezeB 0 [.val (.int .i64 n), .sl 1 (intc (nl ns))] rfl rfl (by simp only [fbv_nil, fbv_cons, fbl_nil, fbl_cons, fbo_nil, fbo_cons, fbo_box, fbo_row, fbo_gone, fb_own, fb_val, fb_ro, fb_rpt, fb_ptr, fb_ept, fb_agg, fb_tup, fb_clo, fb_ints, fb_rows, fb_pairs, fb_ords, Nat.reduceEqDiff, ↓reduceIte, List.set_cons_zero, List.set_cons_succ]; exact rfl) (by simp only [fbv_nil, fbv_cons, fbl_nil, fbl_cons, fbo_nil, fbo_cons, fbo_box, fbo_row, fbo_gone, fb_own, fb_val, fb_ro, fb_rpt, fb_ptr, fb_ept, fb_agg, fb_tup, fb_clo, fb_ints, fb_rows, fb_pairs, fb_ords, Nat.reduceEqDiff, ↓reduceIte, List.set_cons_zero, List.set_cons_succ]; exact rfl) ?_
          (repeat' (first | refine a_seq ?_ | refine a_skip ?_ | refine a_ret ?_ | refine a_region ?_ | refine l_nil ?_ | (apply w_q; (focus (first | exact Q_move (by conv => lhs; whnf) | exact Q_assign (by conv => lhs; whnf) | exact Q_fieldAddr_rpt rfl KFl.h | exact Q_load_all rfl rfl KAg.h | exact Q_lss rfl rfl | exact Q_geq rfl rfl | exact Q_neq rfl rfl | exact Q_ld_rpa rfl KAg.h rfl rfl (by first | (dsimp only [List.drop_zero, List.drop_succ_cons, List.take_succ_cons, List.take_zero, List.map, ofD]; done) | exact rfl) | exact Q_ld_rv rfl rfl KSc.h | exact Q_len_ints rfl KSl.h | exact Q_pick_t rfl (by assumption) (by conv => lhs; whnf) | exact Q_pick_f rfl (by assumption) (by conv => lhs; whnf) | exact Q_pick_t rfl rfl (by conv => lhs; whnf) | exact Q_clo1 (by conv => lhs; whnf))); (focus exact rfl)) | (refine a_cond rfl ?_ ?_ <;> (intro h; (try (have hp := of_decide_eq_true h)); (try (have hp := of_decide_eq_false h)); (try contradiction); (try (exfalso; omega)))) | refine w_guard_y rfl rfl rfl (by first | assumption | rfl) ?_ | refine w_guard_n rfl rfl rfl (by first | assumption | rfl) ?_ | (refine w_guard rfl rfl rfl ?_ ?_ <;> (intro h; (try (have hp := of_decide_eq_true h)); (try (have hp := of_decide_eq_false h)); (try contradiction); (try (exfalso; omega)))) | (((first | apply w_q); (focus (refine Q_call (.inl ⟨rfl, rfl⟩) (k1) ?_; ((repeat' (first | exact trivial | exact vwR rfl | exact Vw.ro _ | refine Vw.agg' ?_ | refine ⟨?_, ?_⟩ )); done))); (focus exact rfl))) | (((first | apply w_q); (focus (refine Q_call (.inl ⟨rfl, rfl⟩) (k2) ?_; ((repeat' (first | exact trivial | exact vwRL rfl | refine Vw.agg' ?_ | refine ⟨?_, ?_⟩ )); done))); (focus exact rfl))) | (((first | apply w_q); (focus (refine Q_call (.inl ⟨rfl, rfl⟩) (kA) ?_; ((repeat' (first | exact vwRL rfl | exact Vw.ro _ | refine ⟨?_, ?_⟩ )); done))); (focus exact rfl))))); (try all_goals (try show retA _ _ _ _ _ _ _))
        all_goals first
          | (exfalso; omega)
          | (exfalso; simp_all; done)
          | (refine ⟨[_, _], [], ⟨resV_tmp (by conv => lhs; whnf), resV_tmp (by conv => lhs; whnf), trivial⟩, VwOs.mk (by decide) trivial, ?_, rfl⟩; (repeat' (first | exact vwRL rfl | refine Vw.tup' ?_)); done)
          | (all_goals trace_state); fail
      · rw [if_neg h1] at h ⊢
        have hb1 : b1 = false := by
          cases b1
          · rfl
          · exact absurd (.inr (.inr rfl)) h1
        subst hb1
        have hpp : 0 ≤ p ∧ p < n := by
          constructor
          · exact Int.not_lt.1 fun hh => h1 (.inl hh)
          · exact Int.not_le.1 fun hh => h1 (.inr (.inl hh))
        have kB := kB rfl
        cases b2
        · exact absurd rfl h
        · rw [if_pos rfl]
          refine AC.mk (n := 49) (fn := Tryd.f36) Tryd.func36 (by kernel_rfl) rfl rfl rfl rfl (fun cx => ?_); dsimp only [argv, Nat.reduceAdd]
          (repeat' (first | refine a_seq ?_ | refine a_region ?_ | refine l_nil ?_ | (apply w_q; (focus (first | exact Q_assign (by conv => lhs; whnf))); (focus exact rfl)) | refine w_box rfl rfl (by first|(dsimp only[obA,obB,obD,obE,obF,obG,obI,List.map,AO.sh,AV.sh,AV.shl,Nat.reduceAdd];done)|exact rfl) (by first|(dsimp only[obA,obB,obD,obE,obF,obG,obI,List.map,AO.sh,AV.sh,AV.shl,Nat.reduceAdd];done)|exact rfl) rfl ?_)); (try all_goals (try show retA _ _ _ _ _ _ _))
          refine w_freezeB 0 [.val (.int .i64 n), .sl 1 (intc (nl ns))] rfl rfl (by simp only [fbv_nil, fbv_cons, fbl_nil, fbl_cons, fbo_nil, fbo_cons, fbo_box, fbo_row, fbo_gone, fb_own, fb_val, fb_ro, fb_rpt, fb_ptr, fb_ept, fb_agg, fb_tup, fb_clo, fb_ints, fb_rows, fb_pairs, fb_ords, Nat.reduceEqDiff, ↓reduceIte, List.set_cons_zero, List.set_cons_succ]; exact rfl) (by simp only [fbv_nil, fbv_cons, fbl_nil, fbl_cons, fbo_nil, fbo_cons, fbo_box, fbo_row, fbo_gone, fb_own, fb_val, fb_ro, fb_rpt, fb_ptr, fb_ept, fb_agg, fb_tup, fb_clo, fb_ints, fb_rows, fb_pairs, fb_ords, Nat.reduceEqDiff, ↓reduceIte, List.set_cons_zero, List.set_cons_succ]; exact rfl) ?_
          (repeat' (first | refine a_seq ?_ | refine a_skip ?_ | refine a_ret ?_ | refine a_region ?_ | refine l_nil ?_ | (apply w_q; (focus (first | exact Q_move (by conv => lhs; whnf) | exact Q_assign (by conv => lhs; whnf) | exact Q_fieldAddr_rpt rfl KFl.h | exact Q_load_all rfl rfl KAg.h | exact Q_lss rfl rfl | exact Q_geq rfl rfl | exact Q_neq rfl rfl | exact Q_ld_rpa rfl KAg.h rfl rfl (by first | (dsimp only [List.drop_zero, List.drop_succ_cons, List.take_succ_cons, List.take_zero, List.map, ofD]; done) | exact rfl) | exact Q_ld_rv rfl rfl KSc.h | exact Q_len_ints rfl KSl.h | exact Q_pick_f rfl (by assumption) (by conv => lhs; whnf) | exact Q_clo1 (by conv => lhs; whnf))); (focus exact rfl)) | (refine a_cond rfl ?_ ?_ <;> (intro h; (try (have hp := of_decide_eq_true h)); (try (have hp := of_decide_eq_false h)); (try contradiction); (try (exfalso; omega)))) | refine w_guard_y rfl rfl rfl (by first | assumption | rfl) ?_ | (refine w_guard rfl rfl rfl ?_ ?_ <;> (intro h; (try (have hp := of_decide_eq_true h)); (try (have hp := of_decide_eq_false h)); (try contradiction); (try (exfalso; omega)))) | (((first | apply w_q); (focus (refine Q_call (.inl ⟨rfl, rfl⟩) (k1) ?_; ((repeat' (first | exact trivial | exact vwR rfl | exact Vw.ro _ | refine Vw.agg' ?_ | refine ⟨?_, ?_⟩ )); done))); (focus exact rfl))) | (((first | apply w_q); (focus (refine Q_call (.inl ⟨rfl, rfl⟩) (k2) ?_; ((repeat' (first | exact trivial | exact vwRL rfl | refine Vw.agg' ?_ | refine ⟨?_, ?_⟩ )); done))); (focus exact rfl))) | (((first | apply w_q); (focus (refine Q_call (.inl ⟨rfl, rfl⟩) (kA) ?_; ((repeat' (first | exact trivial | exact vwRL rfl | exact Vw.ro _ | refine ⟨?_, ?_⟩ )); done))); (focus exact rfl))) | (((first | apply w_q); (focus (refine Q_call (.inl ⟨rfl, rfl⟩) (kB) ?_; ((repeat' (first | exact vwRL rfl | exact Vw.ro _ | refine ⟨?_, ?_⟩ )); done))); (focus exact rfl))))); (try all_goals (try show retA _ _ _ _ _ _ _))
          all_goals first
            | (exfalso; omega)
            | (exfalso; simp_all; done)
            | (refine ⟨[_, _], [], ⟨resV_tmp (by conv => lhs; whnf), resV_tmp (by conv => lhs; whnf), trivial⟩, VwOs.mk (by decide) trivial, ?_, rfl⟩; (repeat' (first | exact vwRL rfl | refine Vw.tup' ?_)); done)
            | (all_goals trace_state); fail
    · rw [if_pos (by omega)]
      refine AC.mk (n := 49) (fn := Tryd.f36) Tryd.func36 (by kernel_rfl) rfl rfl rfl rfl (fun cx => ?_); dsimp only [argv, Nat.reduceAdd]
      (repeat' (first | refine a_seq ?_ | refine a_skip ?_ | refine a_ret ?_ | refine a_region ?_ | refine l_nil ?_ | (apply w_q; (focus (first | exact Q_move (by conv => lhs; whnf) | exact Q_assign (by conv => lhs; whnf) | exact Q_load_all rfl rfl KAg.h | exact Q_neq rfl rfl | exact Q_len_ints rfl KSl.h)); (focus exact rfl)) | (refine a_cond rfl ?_ ?_ <;> (intro h; (try (have hp := of_decide_eq_true h)); (try (have hp := of_decide_eq_false h)); (try contradiction); (try (exfalso; omega)))) | refine w_box rfl rfl (by first|(dsimp only[obA,obB,obD,obE,obF,obG,obI,List.map,AO.sh,AV.sh,AV.shl,Nat.reduceAdd];done)|exact rfl) (by first|(dsimp only[obA,obB,obD,obE,obF,obG,obI,List.map,AO.sh,AV.sh,AV.shl,Nat.reduceAdd];done)|exact rfl) rfl ?_ | (((first | apply w_q); (focus (refine Q_call (.inl ⟨rfl, rfl⟩) (k1) ?_; ((repeat' (first | exact trivial | exact vwR rfl | exact Vw.ro _ | refine Vw.agg' ?_ | refine ⟨?_, ?_⟩ )); done))); (focus exact rfl))) | (((first | apply w_q); (focus (refine Q_call (.inl ⟨rfl, rfl⟩) (k2) ?_; ((repeat' (first | exact trivial | exact vwRL rfl | refine Vw.agg' ?_ | refine ⟨?_, ?_⟩ )); done))); (focus exact rfl))))); (try all_goals (try show retA _ _ _ _ _ _ _))
      all_goals first
        | (exfalso; omega)
        | (exfalso; simp_all; done)
        | (refine ⟨[_, _], [], ⟨resV_tmp (by conv => lhs; whnf), resV_tmp (by conv => lhs; whnf), trivial⟩, VwOs.mk (by decide) trivial, ?_, rfl⟩; (repeat' (first | exact vwRL rfl | refine Vw.tup' ?_)); done)
        | (all_goals trace_state); fail
  · rw [if_pos he]
    refine AC.mk (n := 49) (fn := Tryd.f36) Tryd.func36 (by kernel_rfl) rfl rfl rfl rfl (fun cx => ?_); dsimp only [argv, Nat.reduceAdd]
    (repeat' (first | refine a_seq ?_ | refine a_skip ?_ | refine a_ret ?_ | refine a_region ?_ | refine l_nil ?_ | (apply w_q; (focus (first | exact Q_move (by conv => lhs; whnf) | exact Q_assign (by conv => lhs; whnf) | exact Q_load_all rfl rfl KAg.h | exact Q_neq rfl rfl)); (focus exact rfl)) | (refine a_cond rfl ?_ ?_ <;> (intro h; (try (have hp := of_decide_eq_true h)); (try (have hp := of_decide_eq_false h)); (try contradiction); (try (exfalso; omega)))) | refine w_box rfl rfl (by first|(dsimp only[obA,obB,obD,obE,obF,obG,obI,List.map,AO.sh,AV.sh,AV.shl,Nat.reduceAdd];done)|exact rfl) (by first|(dsimp only[obA,obB,obD,obE,obF,obG,obI,List.map,AO.sh,AV.sh,AV.shl,Nat.reduceAdd];done)|exact rfl) rfl ?_ | (((first | apply w_q); (focus (refine Q_call (.inl ⟨rfl, rfl⟩) (k1) ?_; ((repeat' (first | exact trivial | exact vwR rfl | exact Vw.ro _ | refine Vw.agg' ?_ | refine ⟨?_, ?_⟩ )); done))); (focus exact rfl))) | (((first | apply w_q); (focus (refine Q_call (.inl ⟨rfl, rfl⟩) (k2) ?_; ((repeat' (first | exact trivial | exact vwRL rfl | refine Vw.agg' ?_ | refine ⟨?_, ?_⟩ )); done))); (focus exact rfl))))); (try all_goals (try show retA _ _ _ _ _ _ _))
    all_goals first
      | (exfalso; omega)
      | (exfalso; simp_all; done)
      | (refine ⟨[_, _], [], ⟨resV_tmp (by conv => lhs; whnf), resV_tmp (by conv => lhs; whnf), trivial⟩, VwOs.mk (by decide) trivial, ?_, rfl⟩; (repeat' (first | exact vwRL rfl | refine Vw.tup' ?_)); done)
      | (all_goals trace_state); fail
set_option maxRecDepth 20000 in
set_option maxHeartbeats 4000000 in
theorem HFo_ok {vs : List Nat} {p : Nat} (hf : fcw (.mk k v l) = 0) (he : fcE n ns (nl vs) p = 0) (hvs : vs.length = 3 ∧ ∀ i, i < 3 → vs.getD i 0 < 2 ^ n) :
    AC Tryd.prog 36 [ordv n (nl ns), ints (nl vs), .val (.int .i64 (p : Nat)), ta3 k v l] [] (.tup [.val (.bool ((frF n ns vs (1 + kdep l) (.mk k v l)).testBit p)), .val (.int .i64 0)]) [] := by
  have k1 := Check_ac n (nl ns)
  rw [chk_ok hn hv hok] at k1
  have k2 := fcheckW_ac k v l hs
  rw [hf] at k2
  have hpn : 2 ^ n ≤ 1024 := Nat.pow_le_pow_right (n := 2) (by decide) hn
  have hvl : (nl vs).length = 3 := by rw [nl_len]; exact hvs.1
  have kA := ContainsI_ac (cl := .clo 82 [.rpt [.val (.int .i64 n), .sl 1 (intc (nl ns))] 0]) (isFn_clo _ _) (bdS n) (nl vs) (by omega) (fun x _ => frcA_ac hn hv x)
  have hb1 : (nl vs).any (bdS n) = false := by
    unfold fcE at he
    rw [if_neg (by omega)] at he
    cases hb : (nl vs).any (bdS n)
    · rfl
    · rw [if_pos (.inr (.inr hb))] at he; omega
  have hpl : p < n := by
    unfold fcE at he
    rw [if_neg (by omega)] at he
    apply Classical.byContradiction
    intro hc
    rw [if_pos (.inr (.inl (by omega)))] at he; omega
  have hb2 : ((nl vs).any fun x => !upB n ns x.toNat) = false := by
    unfold fcE at he
    rw [if_neg (by omega), if_neg (by
      rintro (h | h | h)
      · omega
      · omega
      · rw [hb1] at h; cases h)] at he
    cases hb : (nl vs).any fun x => !upB n ns x.toNat
    · rfl
    · rw [if_pos hb] at he; omega
  have kB := ContainsI_ac (cl := .clo 83 [.rpt [.val (.int .i64 n), .sl 1 (intc (nl ns))] 0]) (isFn_clo _ _) (fun x => !upB n ns x.toNat) (nl vs) (by omega) (fun x hx => by
      have := List.any_eq_false.1 hb1 x hx
      unfold bdS at this
      rw [decide_eq_true_eq] at this
      obtain ⟨m, rfl⟩ := Int.eq_ofNat_of_zero_le (show 0 ≤ x by omega)
      exact frcB_ac hn hv m (by omega))
  rw [hb1] at kA
  rw [hb2] at kB
  have k3 := forces_ac hn hv hvs (1 + kdep l) k v l (Nat.le_refl _) (ffm_of hf)
  have hlt := frF_lt hn hv hvs (1 + kdep l) (.mk k v l) (by unfold Tr.dep; exact Nat.le_refl _) (ffm_of hf)
  generalize frF n ns vs (1 + kdep l) (.mk k v l) = r at *
  have hbz := bit_zero r p
  have hm2 : r / 2 ^ p % 2 = 0 ∨ r / 2 ^ p % 2 = 1 := by omega
  have hb : r.testBit p = decide (((r / 2 ^ p % 2 : Nat) : Int) = 1) := by
    rcases hm2 with e | e
    · rw [e] at hbz ⊢
      have : r.testBit p = false := by cases h : r.testBit p <;> simp_all
      rw [this]; rfl
    · rw [e] at hbz ⊢
      have : r.testBit p = true := by cases h : r.testBit p <;> simp_all
      rw [this]; rfl
  rw [hb]
  clear hb hbz hm2 hb1 hb2 he hf
  generalize nl vs = VV at *
  unfold ta3 tks at *
  refine AC.mk (n := 49) (fn := Tryd.f36) Tryd.func36 (by kernel_rfl) rfl rfl rfl rfl (fun cx => ?_); dsimp only [argv, Nat.reduceAdd]
  (repeat' (first | refine a_seq ?_ | refine a_region ?_ | refine l_nil ?_ | (apply w_q; (focus (first | exact Q_assign (by conv => lhs; whnf))); (focus exact rfl)) | refine w_box rfl rfl (by first|(dsimp only[obA,obB,obD,obE,obF,obG,obI,List.map,AO.sh,AV.sh,AV.shl,Nat.reduceAdd];done)|exact rfl) (by first|(dsimp only[obA,obB,obD,obE,obF,obG,obI,List.map,AO.sh,AV.sh,AV.shl,Nat.reduceAdd];done)|exact rfl) rfl ?_)); (try all_goals (try show retA _ _ _ _ _ _ _))
  refine w_freezeB 0 [.val (.int .i64 n), .sl 1 (intc (nl ns))] rfl rfl (by simp only [fbv_nil, fbv_cons, fbl_nil, fbl_cons, fbo_nil, fbo_cons, fbo_box, fbo_row, fbo_gone, fb_own, fb_val, fb_ro, fb_rpt, fb_ptr, fb_ept, fb_agg, fb_tup, fb_clo, fb_ints, fb_rows, fb_pairs, fb_ords, Nat.reduceEqDiff, ↓reduceIte, List.set_cons_zero, List.set_cons_succ]; exact rfl) (by simp only [fbv_nil, fbv_cons, fbl_nil, fbl_cons, fbo_nil, fbo_cons, fbo_box, fbo_row, fbo_gone, fb_own, fb_val, fb_ro, fb_rpt, fb_ptr, fb_ept, fb_agg, fb_tup, fb_clo, fb_ints, fb_rows, fb_pairs, fb_ords, Nat.reduceEqDiff, ↓reduceIte, List.set_cons_zero, List.set_cons_succ]; exact rfl) ?_
  (repeat' (first | refine a_seq ?_ | refine a_skip ?_ | refine a_ret ?_ | refine a_region ?_ | refine l_nil ?_ | (apply w_q; (focus (first | exact Q_move (by conv => lhs; whnf) | exact Q_assign (by conv => lhs; whnf) | exact Q_fieldAddr_rpt rfl KFl.h | exact Q_load_all rfl rfl KAg.h | exact Q_lss rfl rfl | exact Q_geq rfl rfl | exact Q_eql rfl rfl | exact Q_neq rfl rfl | exact Q_shrN rfl rfl (by omega) | exact Q_and1 rfl rfl | exact Q_ld_rpa rfl KAg.h rfl rfl (by first | (dsimp only [List.drop_zero, List.drop_succ_cons, List.take_succ_cons, List.take_zero, List.map, ofD]; done) | exact rfl) | exact Q_ld_rv rfl rfl KSc.h | exact Q_len_ints rfl KSl.h | exact Q_pick_f rfl (by assumption) (by conv => lhs; whnf) | exact Q_clo1 (by conv => lhs; whnf))); (focus exact rfl)) | (refine a_cond rfl ?_ ?_ <;> (intro h; (try (have hp := of_decide_eq_true h)); (try (have hp := of_decide_eq_false h)); (try contradiction); (try (exfalso; omega)))) | refine w_guard_y rfl rfl rfl (by first | assumption | rfl) ?_ | (refine w_guard rfl rfl rfl ?_ ?_ <;> (intro h; (try (have hp := of_decide_eq_true h)); (try (have hp := of_decide_eq_false h)); (try contradiction); (try (exfalso; omega)))) | (((first | apply w_q); (focus (refine Q_call (.inl ⟨rfl, rfl⟩) (k1) ?_; ((repeat' (first | exact trivial | exact vwR rfl | exact Vw.ro _ | refine Vw.agg' ?_ | refine ⟨?_, ?_⟩ )); done))); (focus exact rfl))) | (((first | apply w_q); (focus (refine Q_call (.inl ⟨rfl, rfl⟩) (k2) ?_; ((repeat' (first | exact trivial | exact vwRL rfl | refine Vw.agg' ?_ | refine ⟨?_, ?_⟩ )); done))); (focus exact rfl))) | (((first | apply w_q); (focus (refine Q_call (.inl ⟨rfl, rfl⟩) (kA) ?_; ((repeat' (first | exact trivial | exact vwRL rfl | exact Vw.ro _ | refine ⟨?_, ?_⟩ )); done))); (focus exact rfl))) | (((first | apply w_q); (focus (refine Q_call (.inl ⟨rfl, rfl⟩) (kB) ?_; ((repeat' (first | exact vwRL rfl | exact Vw.ro _ | refine ⟨?_, ?_⟩ )); done))); (focus exact rfl))) | (((first | apply w_q); (focus (refine Q_call (.inl ⟨rfl, rfl⟩) (k3) ?_; ((repeat' (first | exact trivial | exact vwR rfl | exact vwRL rfl | exact Vw.ro _ | refine Vw.agg' ?_ | refine ⟨?_, ?_⟩ )); done))); (focus exact rfl))))); (try all_goals (try show retA _ _ _ _ _ _ _))
  all_goals first
    | (exfalso; omega)
    | (exfalso; simp_all; done)
    | (refine ⟨[_, _], [], ⟨resV_tmp (by conv => lhs; whnf), resV_tmp (by conv => lhs; whnf), trivial⟩, VwOs.mk (by decide) trivial, ?_, rfl⟩; (repeat' (first | exact vwRL rfl | refine Vw.tup' ?_)); done)
    | (all_goals trace_state); fail
end
end
end Go.Proofs.YtbgecpjlopdkfaaDoor
