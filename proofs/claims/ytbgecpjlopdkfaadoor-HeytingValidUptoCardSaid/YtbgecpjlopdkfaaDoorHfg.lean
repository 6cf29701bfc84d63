import Derived.Test.YtbgecpjlopdkfaaDoorHfc
set_option linter.unusedSimpArgs false
set_option linter.unusedVariables false
set_option linter.unusedSectionVars false
set_option maxRecDepth 20000
namespace Go.Proofs.YtbgecpjlopdkfaaDoor
attribute [local irreducible] QOp aL aC qL
mutual
def Tr.hv (v : Int) : Tr → Bool
  | .mk k p l => (decide (k = 2) && decide (p = v)) || khv v l
def khv (v : Int) : List Tr → Bool
  | [] => false
  | t :: r => t.hv v || khv v r
end
theorem khv_drop {v : Int} {l : List Tr} {i : Nat} (h : i < l.length) : khv v (l.drop i) = ((l[i]).hv v || khv v (l.drop (i + 1))) := by
  rw [List.drop_eq_getElem_cons h]
  conv => lhs; unfold khv
theorem khv_nil (v : Int) : khv v [] = false := by unfold khv; rfl
set_option maxRecDepth 20000 in
set_option maxHeartbeats 4000000 in
theorem HasVar_ac (v : Int) : ∀ (d : Nat) (k p : Int) (l : List Tr), 1 + kdep l ≤ d → (Tr.mk k p l).sml → AC Tryd.prog 94 [ta3 k p l, .val (.int .i64 v)] [] (.val (.bool ((Tr.mk k p l).hv v))) []
  | 0, k, p, l, hd, _ => by omega
  | d + 1, k, p, l, hd, hs => by
    have ih := HasVar_ac v d
    unfold Tr.sml at hs
    obtain ⟨hll, hks⟩ := hs
    rw [show (Tr.mk k p l).hv v = ((decide (k = 2) && decide (p = v)) || khv v l) by unfold Tr.hv; rfl]
    unfold ta3 at ih ⊢
    by_cases hk2 : k = 2 ∧ p = v
    · rw [decide_eq_true hk2.1, decide_eq_true hk2.2, Bool.true_and, Bool.true_or]
      obtain ⟨rfl, rfl⟩ := hk2
      refine AC.mk (n := 29) (fn := Tryd.f94) Tryd.func94 (by kernel_rfl) rfl rfl rfl rfl (fun cx => ?_); dsimp only [argv, Nat.reduceAdd]
      (repeat' (first | refine a_seq ?_ | refine a_ret ?_ | refine a_region ?_ | refine l_nil ?_ | (apply w_q; (focus (first | exact Q_move (by conv => lhs; whnf) | exact Q_assign (by conv => lhs; whnf) | exact Q_fieldAddr_ptr rfl KFl.h | exact Q_load_ptr rfl rfl rfl KSc.h | exact Q_eql rfl rfl | exact Q_pick_t rfl rfl (by conv => lhs; whnf))); (focus exact rfl)) | (refine a_cond rfl ?_ ?_ <;> (intro h; (try (have hp := of_decide_eq_true h)); (try (have hp := of_decide_eq_false h)); (try contradiction); (try (exfalso; omega)))) | refine w_guard_y rfl rfl rfl (by first | assumption | rfl) ?_ | refine w_box rfl rfl (by first|(dsimp only[obA,obB,obD,obE,obF,obG,obI,List.map,AO.sh,AV.sh,AV.shl,Nat.reduceAdd];done)|exact rfl) (by first|(dsimp only[obA,obB,obD,obE,obF,obG,obI,List.map,AO.sh,AV.sh,AV.shl,Nat.reduceAdd];done)|exact rfl) rfl ?_)); (try all_goals (try show retA _ _ _ _ _ _ _))
      all_goals first
        | (exfalso; omega)
        | (exfalso; simp_all; done)
        | (refine ⟨[_], [], ⟨resV_tmp (by conv => lhs; whnf), trivial⟩, VwOs.mk (by decide) trivial, ?_, rfl⟩; (repeat' (first | exact vwR rfl)); done)
        | (all_goals trace_state); fail
    rw [show (decide (k = 2) && decide (p = v)) = false by
      rw [Bool.and_eq_false_iff, decide_eq_false_iff_not, decide_eq_false_iff_not]
      omega, Bool.false_or]
    have hc : k ≠ 2 ∨ (k = 2 ∧ p ≠ v) := by omega
    rcases hc with hc | ⟨hc0, hc⟩
    all_goals
      refine AC.mk (n := 29) (fn := Tryd.f94) Tryd.func94 (by kernel_rfl) rfl rfl rfl rfl (fun cx => ?_); dsimp only [argv, Nat.reduceAdd]
      (repeat' (first | refine a_seq ?_ | refine a_block ?_ | refine a_skip ?_ | refine a_region ?_ | refine l_nil ?_ | (apply w_q; (focus (first | exact Q_move (by conv => lhs; whnf) | exact Q_assign (by conv => lhs; whnf) | exact Q_fieldAddr_ptr rfl KFl.h | exact Q_load_ptr rfl rfl rfl KSc.h | exact Q_eql rfl rfl | exact Q_pick_t rfl (by assumption) (by conv => lhs; whnf) | exact Q_pick_f rfl (by assumption) (by conv => lhs; whnf))); (focus exact rfl)) | (refine a_cond rfl ?_ ?_ <;> (intro h; (try (have hp := of_decide_eq_true h)); (try (have hp := of_decide_eq_false h)); (try contradiction); (try (exfalso; omega)))) | refine w_guard_y rfl rfl rfl (by first | assumption | rfl) ?_ | refine w_guard_n rfl rfl rfl (by first | assumption | rfl) ?_ | (refine w_guard rfl rfl rfl ?_ ?_ <;> (intro h; (try (have hp := of_decide_eq_true h)); (try (have hp := of_decide_eq_false h)); (try contradiction); (try (exfalso; omega)))) | refine w_box rfl rfl (by first|(dsimp only[obA,obB,obD,obE,obF,obG,obI,List.map,AO.sh,AV.sh,AV.shl,Nat.reduceAdd];done)|exact rfl) (by first|(dsimp only[obA,obB,obD,obE,obF,obG,obI,List.map,AO.sh,AV.sh,AV.shl,Nat.reduceAdd];done)|exact rfl) rfl ?_)); (try all_goals (try show retA _ _ _ _ _ _ _))
    all_goals first
      | (exfalso; omega)
      | (exfalso; simp_all; done)
      | skip
    all_goals
      refine w_loop (X := Nat) [1, 2] (by simp only [keepv, getv_cons, Nat.reduceEqDiff, ↓reduceIte]; exact rfl) (fun i => [(5, .val (.int .i64 (i : Nat)))]) (fun i => [.box [.val (.int .i64 k), .val (.int .i64 p), tks l]]) (fun i => i ≤ l.length ∧ khv v l = khv v (l.drop i)) (fun i => l.length - i) (0) ([0]) ?_ ?_ rfl ?_ <;> (try dsimp only [List.cons_append, List.nil_append])
      · exact ⟨Nat.zero_le _, rfl⟩
      · (refine St.le_mk rfl (VwOs.mk (by decide) ?_) ?_ <;> (repeat' (first | exact trivial | exact vwR rfl | exact Vw.ro _ | exact Vw.ptr _ _ _ rfl | refine VwO.box' ?_ | refine ⟨⟨_, rfl, ?_⟩, ?_⟩ | refine ⟨?_, ?_⟩ )))
      rintro i ⟨hi, hf⟩
      by_cases hil : i < l.length
      · have hdp := dep_kid hil
        have hdr := khv_drop (v := v) hil
        have hsk := ksml_get hks hil
        rcases hk : l[i] with ⟨k2, p1, r⟩
        rw [hk] at hdp hdr hsk
        have c2 : (Tr.mk k2 p1 r).dep = 1 + kdep r := by unfold Tr.dep; rfl
        have call := ih k2 p1 r (by omega) hsk
        rw [hdr] at hf
        clear hdr
        generalize (Tr.mk k2 p1 r).hv v = X at *
        clear ih hdp c2 hks hsk
        cases X
        · rw [Bool.false_or] at hf
          (repeat' (first | refine a_seq ?_ | refine a_block ?_ | refine a_skip ?_ | refine a_region ?_ | refine l_nil ?_ | (apply w_q; (focus (first | exact Q_move (by conv => lhs; whnf) | exact Q_assign (by conv => lhs; whnf) | exact Q_fieldAddr_ptr rfl KFl.h | exact Q_load_ptr rfl rfl rfl KSc.h | exact Q_lss rfl rfl | exact Q_add rfl rfl (by omega))); (focus exact rfl)) | (refine a_cond rfl ?_ ?_ <;> (intro h; (try (have hp := of_decide_eq_true h)); (try (have hp := of_decide_eq_false h)); (try contradiction); (try (exfalso; omega)))) | (((first | apply w_q); (focus exact Q_len_kid rfl KSl.h); (focus exact rfl))) | (((first | apply w_q); (focus exact Q_ix_kid rfl rfl rfl KSl.h hil); (focus exact rfl))) | (((first | apply w_q); (focus exact Q_ld_kid rfl hil hk KAg.h); (focus exact rfl))) | ((refine w_callV (.inl ⟨rfl, rfl⟩) (call) ?_ (by first | (dsimp only [AV.sh, AV.shl, sh_ints, sh_rows, sh_pairs, sh_ords]; done) | exact rfl) rfl ?_; rotate_left 0; (focus ((repeat' (first | exact trivial | exact Vs.val _ | exact Vs.ro _ | refine Vs.agg' ?_ | refine ⟨?_, ?_⟩)); done)); rotate_left 1; all_goals (try (skip)))))); (try all_goals (try show retA _ _ _ _ _ _ _))
          all_goals first
            | (exfalso; omega)
            | (exfalso; simp_all; done)
            | (try dsimp only [thenA, blockA]
               refine ⟨i + 1, [0], ?_, ?_, ?_, rfl⟩ <;> (try dsimp only)
               · exact ⟨by omega, hf⟩
               · omega
               · (refine St.le_mk rfl (VwOs.mk (by decide) ?_) ?_ <;> (repeat' (first | exact trivial | exact vwR rfl | exact Vw.ro _ | exact Vw.ptr _ _ _ rfl | refine VwO.box' ?_ | refine ⟨⟨_, rfl, ?_⟩, ?_⟩ | refine ⟨?_, ?_⟩ ))))
            | (all_goals trace_state); fail
        · rw [hf, Bool.true_or]
          (repeat' (first | refine a_seq ?_ | refine a_block ?_ | refine a_skip ?_ | refine a_ret ?_ | refine a_region ?_ | refine l_nil ?_ | (apply w_q; (focus (first | exact Q_move (by conv => lhs; whnf) | exact Q_assign (by conv => lhs; whnf) | exact Q_fieldAddr_ptr rfl KFl.h | exact Q_load_ptr rfl rfl rfl KSc.h | exact Q_lss rfl rfl)); (focus exact rfl)) | (refine a_cond rfl ?_ ?_ <;> (intro h; (try (have hp := of_decide_eq_true h)); (try (have hp := of_decide_eq_false h)); (try contradiction); (try (exfalso; omega)))) | (((first | apply w_q); (focus exact Q_len_kid rfl KSl.h); (focus exact rfl))) | (((first | apply w_q); (focus exact Q_ix_kid rfl rfl rfl KSl.h hil); (focus exact rfl))) | (((first | apply w_q); (focus exact Q_ld_kid rfl hil hk KAg.h); (focus exact rfl))) | ((refine w_callV (.inl ⟨rfl, rfl⟩) (call) ?_ (by first | (dsimp only [AV.sh, AV.shl, sh_ints, sh_rows, sh_pairs, sh_ords]; done) | exact rfl) rfl ?_; rotate_left 0; (focus ((repeat' (first | exact trivial | exact Vs.val _ | exact Vs.ro _ | refine Vs.agg' ?_ | refine ⟨?_, ?_⟩)); done)); rotate_left 1; all_goals (try (skip)))))); (try all_goals (try show retA _ _ _ _ _ _ _))
          all_goals first
            | (exfalso; omega)
            | (exfalso; simp_all; done)
            | (refine ⟨[_], [], ⟨resV_tmp (by conv => lhs; whnf), trivial⟩, VwOs.mk (by decide) trivial, ?_, rfl⟩; (repeat' (first | exact vwR rfl)); done)
            | (all_goals trace_state); fail
      · rw [hf, List.drop_eq_nil_of_le (by omega), khv_nil]
        (repeat' (first | refine a_seq ?_ | refine a_ret ?_ | refine a_exit ?_ | refine a_region ?_ | refine l_nil ?_ | (apply w_q; (focus (first | exact Q_move (by conv => lhs; whnf) | exact Q_assign (by conv => lhs; whnf) | exact Q_fieldAddr_ptr rfl KFl.h | exact Q_load_ptr rfl rfl rfl KSc.h | exact Q_lss rfl rfl)); (focus exact rfl)) | (refine a_cond rfl ?_ ?_ <;> (intro h; (try (have hp := of_decide_eq_true h)); (try (have hp := of_decide_eq_false h)); (try contradiction); (try (exfalso; omega)))) | (((first | apply w_q); (focus exact Q_len_kid rfl KSl.h); (focus exact rfl))))); (try all_goals (try show retA _ _ _ _ _ _ _))
        all_goals first
          | (exfalso; omega)
          | (refine ⟨[_], [], ⟨resV_tmp (by conv => lhs; whnf), trivial⟩, VwOs.mk (by decide) trivial, ?_, rfl⟩; (repeat' (first | exact vwR rfl)); done)
          | (all_goals trace_state); fail
/-- The value hangs on what it has. -/
theorem fv_own {n : Nat} {M J : List (List Nat)} {vs ws : List Nat} : ∀ (d : Nat) (t : Tr), t.dep ≤ d → t.ffm = 0 → (∀ i : Nat, i < 3 → t.hv i = true → vs.getD i 0 = ws.getD i 0) → fvF n M J vs d t = fvF n M J ws d t
  | 0, .mk k v l, hd, _, _ => by unfold Tr.dep at hd; omega
  | d + 1, .mk k v l, hd, hf, h => by
    obtain ⟨⟨w, rfl, hw, _⟩, hc⟩ := ffm_zero hf
    unfold Tr.dep at hd
    rcases hc with ⟨hk, rfl⟩ | ⟨hk, k1, v1, l1, k2, v2, l2, rfl, f1, f2⟩
    · rcases hk with rfl | rfl
      · rfl
      · show (if (2 : Int) = 2 then vs.getD (w : Int).toNat 0 else _) = (if (2 : Int) = 2 then ws.getD (w : Int).toNat 0 else _)
        rw [if_pos rfl, if_pos rfl, Int.toNat_natCast]
        exact h w hw (by unfold Tr.hv; simp)
    · rw [kdep_two] at hd
      have hh : ∀ i : Nat, (Tr.mk k (w : Int) [.mk k1 v1 l1, .mk k2 v2 l2]).hv i = ((decide (k = 2) && decide ((w : Int) = i)) || ((Tr.mk k1 v1 l1).hv i || ((Tr.mk k2 v2 l2).hv i || false))) := fun i => by
        conv => lhs; unfold Tr.hv khv khv khv
      have e1 := fv_own (n := n) (M := M) (J := J) (vs := vs) (ws := ws) d (.mk k1 v1 l1) (by omega) f1 (fun i hi hv => h i hi (by rw [hh, hv]; simp))
      have e2 := fv_own (n := n) (M := M) (J := J) (vs := vs) (ws := ws) d (.mk k2 v2 l2) (by omega) f2 (fun i hi hv => h i hi (by rw [hh, hv]; simp))
      rcases hk with rfl | rfl | rfl
      · show ta M (fvF n M J vs d (.mk k1 v1 l1)) (fvF n M J vs d (.mk k2 v2 l2)) = ta M (fvF n M J ws d (.mk k1 v1 l1)) (fvF n M J ws d (.mk k2 v2 l2))
        rw [e1, e2]
      · show ta J (fvF n M J vs d (.mk k1 v1 l1)) (fvF n M J vs d (.mk k2 v2 l2)) = ta J (fvF n M J ws d (.mk k1 v1 l1)) (fvF n M J ws d (.mk k2 v2 l2))
        rw [e1, e2]
      · show impV n M J (fvF n M J vs d (.mk k1 v1 l1)) (fvF n M J vs d (.mk k2 v2 l2)) = impV n M J (fvF n M J ws d (.mk k1 v1 l1)) (fvF n M J ws d (.mk k2 v2 l2))
        rw [e1, e2]
end Go.Proofs.YtbgecpjlopdkfaaDoor
