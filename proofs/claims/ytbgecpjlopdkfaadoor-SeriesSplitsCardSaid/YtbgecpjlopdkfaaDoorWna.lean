import Derived.Test.YtbgecpjlopdkfaaDoorWja
import Derived.Test.YtbgecpjlopdkfaaDoorFkb
import Derived.Test.YtbgecpjlopdkfaaDoorEngT
set_option linter.unusedSimpArgs false
set_option linter.unusedVariables false
set_option linter.unusedSectionVars false
set_option maxRecDepth 20000
namespace Go.Proofs.YtbgecpjlopdkfaaDoor
attribute [local irreducible] QOp aL aC qL
def smP (L : List Int) (i : Nat) : Bool := (List.range i).any fun x => (List.range x).any fun y => decide (L.getD x 0 = L.getD y 0)
def smI (L : List Int) (i j : Nat) : Bool := (List.range j).any fun y => decide (L.getD i 0 = L.getD y 0)
theorem smP_s (L : List Int) (i : Nat) : smP L (i + 1) = (smP L i || smI L i i) := by simp [smP, smI, List.range_succ]
theorem smI_s (L : List Int) (i j : Nat) : smI L i (j + 1) = (smI L i j || decide (L.getD i 0 = L.getD j 0)) := by simp [smI, List.range_succ]
theorem smP_4 (a b c d : Nat) : smP (nl [a, b, c, d]) 4 = !qdD a b c d := by
  unfold smP qdD nl
  rw [Bool.eq_iff_iff]
  simp [List.range_succ]
  omega
set_option maxHeartbeats 4000000 in
theorem FourPoints_ac (n : Nat) (q : Nat → Nat → Nat → Nat → Bool) (hn : n ≤ 10) {g : FuncId} {caps : List AV} [VwRL caps] (hro : roL caps = true) (hg : ∀ a b c d, a < n → b < n → c < n → d < n → qdD a b c d = true → AC Tryd.prog g (ints (nl [a, b, c, d]) :: caps) [] (.val (.bool (q a b c d))) []) :
    AC Tryd.prog 56 [.val (.int .i64 n), .clo g caps] [] (.tup [ints (nl (qdR n q)), .val (.bool (qdY n q))]) [] := by
  have hcl := isFn_clo g caps
  have m2 : n * n ≤ 10 * 10 := Nat.mul_le_mul hn hn
  have m3 : n * n * n ≤ 10 * 10 * 10 := Nat.mul_le_mul m2 hn
  have m4 : n * n * n * n ≤ 10 * 10 * 10 * 10 := Nat.mul_le_mul m3 hn
  have e2 : (n : Int) * (n : Int) = ((n * n : Nat) : Int) := by simp
  have e3 : ((n * n : Nat) : Int) * (n : Int) = ((n * n * n : Nat) : Int) := by simp
  have e4 : ((n * n * n : Nat) : Int) * (n : Int) = ((n * n * n * n : Nat) : Int) := by simp
  have hhit := fun k => qd_hit (n := n) (q := q) (k := k)
  have hmiss := qd_miss (n := n) (q := q)
  have hqB : ∀ k, qdB n q k = (qdD (k / (n * n * n)) (k / (n * n) % n) (k / n % n) (k % n) && q (k / (n * n * n)) (k / (n * n) % n) (k / n % n) (k % n)) := fun _ => rfl
  have hqL : ∀ k, qdL n k = [k / (n * n * n), k / (n * n) % n, k / n % n, k % n] := fun _ => rfl
  have hlt : ∀ k, k < n * n * n * n → 0 < n ∧ k / (n * n * n) < n := fun k hk => by
    have h0 : 0 < n := by
      rcases Nat.eq_zero_or_pos n with h | h
      · subst h; simp at hk
      · exact h
    exact ⟨h0, Nat.div_lt_of_lt_mul hk⟩
  have dd2 : ∀ k, k / n / n = k / (n * n) := fun k => Nat.div_div_eq_div_mul k n n
  have dd3 : ∀ k, k / (n * n) / n = k / (n * n * n) := fun k => Nat.div_div_eq_div_mul k (n * n) n
  have d1 : ∀ k : Nat, (k : Int) / (n : Int) = ((k / n : Nat) : Int) := fun k => by simp
  have r1 : ∀ k : Nat, (k : Int) % (n : Int) = ((k % n : Nat) : Int) := fun k => by simp
  generalize qdR n q = R at *
  generalize qdY n q = Y at *
  generalize n * n * n * n = N4 at *
  generalize n * n * n = N3 at *
  generalize n * n = N2 at *
  refine AC.mk (n := 74) (fn := Tryd.f56) Tryd.func56 (by kernel_rfl) rfl rfl rfl rfl (fun cx => ?_); dsimp only [argv, Nat.reduceAdd]
  (repeat' (first | refine a_seq ?_ | refine a_block ?_ | refine a_region ?_ | refine l_nil ?_ | (apply w_q; (focus (first | exact Q_assign (by conv => lhs; whnf))); (focus exact rfl)))); (try all_goals (try show retA _ _ _ _ _ _ _))
  refine w_loop (X := Nat) [0, 1] (by simp only [keepv, getv_cons, Nat.reduceEqDiff, ↓reduceIte]; exact rfl) (fun k => [(6, .val (.int .i64 (k : Nat)))]) (fun _ => []) (fun k => k ≤ N4 ∧ ∀ j, j < k → qdB n q j = false) (fun k => N4 - k) (0) ([]) ?_ ?_ rfl ?_ <;> (try dsimp only [List.cons_append, List.nil_append])
  · exact ⟨Nat.zero_le _, fun j h => by omega⟩
  · (refine St.le_mk rfl (VwOs.mk (by decide) ?_) ?_ <;> (repeat' (first | exact trivial | exact vwR rfl | refine ⟨?_, ?_⟩ )))
  rintro k ⟨hk, hall⟩
  by_cases hkN : k < N4
  · obtain ⟨p1, p4⟩ := hlt k hkN
    have hr := fun x : Nat => Nat.mod_lt x p1
    have hit := hhit k hkN hall
    rw [hqL k] at hit
    have hB := hqB k
    have x1 := d1 k
    have x2 := d1 (k / n)
    rw [dd2] at x2
    have x3 := d1 (k / N2)
    rw [dd3] at x3
    have x4 := r1 k
    have x5 := r1 (k / N2)
    have x6 := r1 (k / n)
    have b1 := hr (k / N2)
    have b2 := hr (k / n)
    have b3 := hr k
    have k0 := Nat.div_le_self k N2
    have k1 := Nat.div_le_self k n
    generalize k / N3 = a at *
    generalize k / N2 = t1 at *
    generalize k / n = t2 at *
    generalize t1 % n = b at *
    generalize t2 % n = c at *
    generalize k % n = d at *
    have kH := hg a b c d p4 b1 b2 b3
    have hs4 := smP_4 a b c d
    have hLl : (nl [a, b, c, d]).length = 4 := rfl
    (repeat' (first | refine a_seq ?_ | refine a_block ?_ | refine a_skip ?_ | refine a_region ?_ | refine l_nil ?_ | refine q_nil ?_ | ((first | apply w_q | apply w_qq); (focus (first | exact Q_move (by conv => lhs; whnf) | exact Q_assign (by conv => lhs; whnf) | exact Q_lss rfl rfl)); (focus exact rfl)) | (refine a_cond rfl ?_ ?_ <;> (intro h; (try (have hp := of_decide_eq_true h)); (try (have hp := of_decide_eq_false h)); (try contradiction); (try (exfalso; omega)))) | refine a_drawT (id := 4) 22 (by kernel_rfl) (by kernel_rfl) (by simp only [List.take_succ_cons, List.take_zero, List.drop_succ_cons, List.drop_zero]; exact rfl) (by simp only [List.take_succ_cons, List.take_zero, List.drop_succ_cons, List.drop_zero]; exact rfl) ?_ | refine w_lit_i4 rfl rfl rfl rfl KSl.h KMk.h (by first|(dsimp only[obA,obB,obD,obE,obF,obG,obI,List.map,AO.sh,AV.sh,AV.shl,Nat.reduceAdd];done)|exact rfl) (by first|(dsimp only[obA,obB,obD,obE,obF,obG,obI,List.map,AO.sh,AV.sh,AV.shl,Nat.reduceAdd];done)|exact rfl) rfl ?_ | (((first | apply w_q | apply w_qq); (focus exact Q_mulE rfl rfl (by omega) e2); (focus exact rfl))) | (((first | apply w_q | apply w_qq); (focus exact Q_mulE rfl rfl (by omega) e3); (focus exact rfl))) | (((first | apply w_q | apply w_qq); (focus exact Q_mulE rfl rfl (by omega) e4); (focus exact rfl))) | (((first | apply w_qq); (focus exact Q_quoE rfl rfl (by omega) x1); (focus exact rfl))) | (((first | apply w_qq); (focus exact Q_quoE rfl rfl (by omega) x2); (focus exact rfl))) | (((first | apply w_qq); (focus exact Q_quoE rfl rfl (by omega) x3); (focus exact rfl))) | (((first | apply w_qq); (focus exact Q_remE rfl rfl (by omega) x4); (focus exact rfl))) | (((first | apply w_qq); (focus exact Q_remE rfl rfl (by omega) x5); (focus exact rfl))) | (((first | apply w_qq); (focus exact Q_remE rfl rfl (by omega) x6); (focus exact rfl))))); (try all_goals (try show retA _ _ _ _ _ _ _))
    all_goals first
      | (exfalso; omega)
      | skip
    refine w_freezeAC 0 rfl (by simp only [frv_nil, frv_cons, frl_nil, frl_cons, fro_nil, fro_cons, fro_box, fro_row, fro_gone, fr_own, fr_val, fr_ro, fr_rpt, fr_ptr, fr_ept, fr_agg, fr_tup, fr_clo, fr_ints, fr_rows, fr_pairs, fr_ords, Nat.reduceEqDiff, ↓reduceIte, List.set_cons_zero, List.set_cons_succ]; exact rfl) (by simp only [frv_nil, frv_cons, frl_nil, frl_cons, fro_nil, fro_cons, fro_box, fro_row, fro_gone, fr_own, fr_val, fr_ro, fr_rpt, fr_ptr, fr_ept, fr_agg, fr_tup, fr_clo, fr_ints, fr_rows, fr_pairs, fr_ords, Nat.reduceEqDiff, ↓reduceIte, List.set_cons_zero, List.set_cons_succ]; exact rfl) ?_
    simp only [roL_frl _ _ _ hro]
    have hLv : intc [(a : Int), (b : Int), (c : Int), (d : Int)] = intc (nl [a, b, c, d]) := rfl
    rw [hLv]
    generalize hL : nl [a, b, c, d] = L at *
    refine w_loop (X := Nat) [0, 1, 6, 7] (by simp only [keepv, getv_cons, Nat.reduceEqDiff, ↓reduceIte]; exact rfl) (fun i => [(8, .val (.bool (smP L i))), (9, .val (.int .i64 (i : Nat)))]) (fun _ => []) (fun i => i ≤ 4) (fun i => 4 - i) (0) ([]) ?_ ?_ rfl ?_ <;> (try dsimp only [List.cons_append, List.nil_append])
    · exact Nat.zero_le _
    · rw [show smP L 0 = false from rfl]
      (refine St.le_mk rfl (VwOs.mk (by decide) ?_) ?_ <;> (repeat' (first | exact trivial | exact vwR rfl | refine ⟨?_, ?_⟩ )))
    intro i hi
    by_cases hi4 : i < 4
    · have hPs := smP_s L i
      have hIs := smI_s L i
      (repeat' (first | refine a_seq ?_ | refine a_block ?_ | refine a_skip ?_ | refine a_region ?_ | refine l_nil ?_ | (apply w_q; (focus (first | exact Q_move (by conv => lhs; whnf) | exact Q_assign (by conv => lhs; whnf) | exact Q_lss rfl rfl)); (focus exact rfl)) | (refine a_cond rfl ?_ ?_ <;> (intro h; (try (have hp := of_decide_eq_true h)); (try (have hp := of_decide_eq_false h)); (try contradiction); (try (exfalso; omega)))))); (try all_goals (try show retA _ _ _ _ _ _ _))
      all_goals first
        | (exfalso; omega)
        | skip
      refine w_loop (X := Nat) [0, 1, 6, 7, 9] (by simp only [keepv, getv_cons, Nat.reduceEqDiff, ↓reduceIte]; exact rfl) (fun j => [(8, .val (.bool (smP L i || smI L i j))), (10, .val (.int .i64 (j : Nat)))]) (fun _ => []) (fun j => j ≤ i) (fun j => i - j) (0) ([]) ?_ ?_ rfl ?_ <;> (try dsimp only [List.cons_append, List.nil_append])
      · exact Nat.zero_le _
      · rw [show smI L i 0 = false from rfl, Bool.or_false]
        (refine St.le_mk rfl (VwOs.mk (by decide) ?_) ?_ <;> (repeat' (first | exact trivial | exact vwR rfl | refine ⟨?_, ?_⟩ )))
      intro j hj
      by_cases hji : j < i
      · have hIsj := hIs j
        have hgo : (smP L i || smI L i (j + 1)) = ((smP L i || smI L i j) || decide (L.getD i 0 = L.getD j 0)) := by rw [hIsj, Bool.or_assoc]
        generalize hv : (smP L i || smI L i j) = v at *
        cases v with
        | true =>
          rw [Bool.true_or] at hgo
          (repeat' (first | refine a_seq ?_ | refine a_block ?_ | refine a_skip ?_ | refine a_region ?_ | refine l_nil ?_ | refine q_nil ?_ | ((first | apply w_q | apply w_qq); (focus (first | exact Q_move (by conv => lhs; whnf) | exact Q_assign (by conv => lhs; whnf) | exact Q_lss rfl rfl | exact Q_add rfl rfl (by omega) | exact Q_pick_t rfl rfl (by conv => lhs; whnf))); (focus exact rfl)) | (refine a_cond rfl ?_ ?_ <;> (intro h; (try (have hp := of_decide_eq_true h)); (try (have hp := of_decide_eq_false h)); (try contradiction); (try (exfalso; omega)))) | refine w_qguard_n rfl rfl rfl (by first | assumption | rfl) ?_ | refine a_draw (by kernel_rfl) (by kernel_rfl) ?_)); (try all_goals (try show retA _ _ _ _ _ _ _))
          all_goals first
            | (exfalso; omega)
            | (refine ⟨j + 1, [], ?_, ?_, ?_, rfl⟩ <;> (try dsimp only)
               · omega
               · omega
               · rw [hgo]
                 (refine St.le_mk rfl (VwOs.mk (by decide) ?_) ?_ <;> (repeat' (first | exact trivial | exact vwR rfl | refine ⟨?_, ?_⟩ ))))
            | (all_goals trace_state); fail
        | false =>
          rw [Bool.false_or] at hgo
          (repeat' (first | refine a_seq ?_ | refine a_block ?_ | refine a_skip ?_ | refine a_region ?_ | refine l_nil ?_ | refine q_nil ?_ | ((first | apply w_q | apply w_qq); (focus (first | exact Q_move (by conv => lhs; whnf) | exact Q_assign (by conv => lhs; whnf) | exact Q_lss rfl rfl | exact Q_eql rfl rfl | exact Q_add rfl rfl (by omega) | exact Q_ix_ints rfl rfl rfl KSl.h (by omega) | exact Q_ld_ints rfl (by omega) KSc.h | exact Q_pick_f rfl rfl (by conv => lhs; whnf))); (focus exact rfl)) | (refine a_cond rfl ?_ ?_ <;> (intro h; (try (have hp := of_decide_eq_true h)); (try (have hp := of_decide_eq_false h)); (try contradiction); (try (exfalso; omega)))) | refine w_qguard_y rfl rfl rfl (by first | assumption | rfl) ?_ | refine a_draw (by kernel_rfl) (by kernel_rfl) ?_)); (try all_goals (try show retA _ _ _ _ _ _ _))
          all_goals first
            | (exfalso; omega)
            | (refine ⟨j + 1, [], ?_, ?_, ?_, rfl⟩ <;> (try dsimp only)
               · omega
               · omega
               · rw [hgo]
                 (refine St.le_mk rfl (VwOs.mk (by decide) ?_) ?_ <;> (repeat' (first | exact trivial | exact vwR rfl | refine ⟨?_, ?_⟩ ))))
            | (all_goals trace_state); fail
      · obtain rfl : j = i := by omega
        (repeat' (first | refine a_seq ?_ | refine a_exit ?_ | refine a_region ?_ | refine l_nil ?_ | (apply w_q; (focus (first | exact Q_move (by conv => lhs; whnf) | exact Q_assign (by conv => lhs; whnf) | exact Q_lss rfl rfl | exact Q_add rfl rfl (by omega))); (focus exact rfl)) | (refine a_cond rfl ?_ ?_ <;> (intro h; (try (have hp := of_decide_eq_true h)); (try (have hp := of_decide_eq_false h)); (try contradiction); (try (exfalso; omega)))))); (try all_goals (try show retA _ _ _ _ _ _ _))
        all_goals first
          | (exfalso; omega)
          | (refine ⟨j + 1, [], ?_, ?_, ?_, rfl⟩ <;> (try dsimp only)
             · omega
             · omega
             · rw [hPs]
               (refine St.le_mk rfl (VwOs.mk (by decide) ?_) ?_ <;> (repeat' (first | exact trivial | exact vwR rfl | refine ⟨?_, ?_⟩ ))))
          | (all_goals trace_state); fail
    · obtain rfl : i = 4 := by omega
      rw [hs4]
      clear hs4
      cases hDD : qdD a b c d with
      | false =>
        rw [hDD, Bool.false_and] at hB
        (repeat' (first | refine a_seq ?_ | refine a_skip ?_ | refine a_exit ?_ | refine a_region ?_ | refine l_nil ?_ | (apply w_q; (focus (first | exact Q_move (by conv => lhs; whnf) | exact Q_assign (by conv => lhs; whnf) | exact Q_lss rfl rfl | exact Q_add rfl rfl (by omega) | exact Q_not rfl | exact Q_pick_f rfl (by assumption) (by conv => lhs; whnf))); (focus exact rfl)) | (refine a_cond rfl ?_ ?_ <;> (intro h; (try (have hp := of_decide_eq_true h)); (try (have hp := of_decide_eq_false h)); (try contradiction); (try (exfalso; omega)))) | refine w_guard_n rfl rfl rfl (by first | assumption | rfl) ?_)); (try all_goals (try show retA _ _ _ _ _ _ _))
        all_goals first
          | (exfalso; omega)
          | (refine ⟨k + 1, [], ?_, ?_, ?_, rfl⟩ <;> (try dsimp only)
             · refine ⟨by omega, fun j hj => ?_⟩
               by_cases hq : j = k
               · subst hq; exact hB
               · exact hall j (by omega)
             · omega
             · (refine St.le_mk rfl (VwOs.mk (by decide) ?_) ?_ <;> (repeat' (first | exact trivial | exact vwR rfl | refine ⟨?_, ?_⟩ ))))
          | (all_goals trace_state); fail
      | true =>
        rw [hDD, Bool.true_and] at hB
        have kH := kH hDD
        cases hq : q a b c d with
        | false =>
          rw [hq] at kH hB
          (repeat' (first | refine a_seq ?_ | refine a_skip ?_ | refine a_exit ?_ | refine a_region ?_ | refine l_nil ?_ | (apply w_q; (focus (first | exact Q_move (by conv => lhs; whnf) | exact Q_assign (by conv => lhs; whnf) | exact Q_lss rfl rfl | exact Q_add rfl rfl (by omega) | exact Q_not rfl | exact Q_pick_t rfl rfl (by conv => lhs; whnf))); (focus exact rfl)) | (refine a_cond rfl ?_ ?_ <;> (intro h; (try (have hp := of_decide_eq_true h)); (try (have hp := of_decide_eq_false h)); (try contradiction); (try (exfalso; omega)))) | refine w_guard_y rfl rfl rfl (by first | assumption | rfl) ?_ | (((first | apply w_q); (focus (refine Q_call (by exact callee_of (hcl) rfl) (kH) ?_; ((repeat' (first | exact vwRL rfl | exact Vw.ro _ | refine ⟨?_, ?_⟩ )); done))); (focus exact rfl))))); (try all_goals (try show retA _ _ _ _ _ _ _))
          all_goals first
            | (exfalso; omega)
            | (refine ⟨k + 1, [], ?_, ?_, ?_, rfl⟩ <;> (try dsimp only)
               · refine ⟨by omega, fun j hj => ?_⟩
                 by_cases hq : j = k
                 · subst hq; exact hB
                 · exact hall j (by omega)
               · omega
               · (refine St.le_mk rfl (VwOs.mk (by decide) ?_) ?_ <;> (repeat' (first | exact trivial | exact vwR rfl | refine ⟨?_, ?_⟩ ))))
            | (all_goals trace_state); fail
        | true =>
          rw [hq] at kH hB
          rw [(hit hB).1, (hit hB).2, hL]
          (repeat' (first | refine a_seq ?_ | refine a_ret ?_ | refine a_exit ?_ | refine a_region ?_ | refine l_nil ?_ | (apply w_q; (focus (first | exact Q_move (by conv => lhs; whnf) | exact Q_assign (by conv => lhs; whnf) | exact Q_lss rfl rfl | exact Q_not rfl | exact Q_pick_t rfl rfl (by conv => lhs; whnf))); (focus exact rfl)) | (refine a_cond rfl ?_ ?_ <;> (intro h; (try (have hp := of_decide_eq_true h)); (try (have hp := of_decide_eq_false h)); (try contradiction); (try (exfalso; omega)))) | refine w_guard_y rfl rfl rfl (by first | assumption | rfl) ?_ | (((first | apply w_q); (focus (refine Q_call (by exact callee_of (hcl) rfl) (kH) ?_; ((repeat' (first | exact vwRL rfl | exact Vw.ro _ | refine ⟨?_, ?_⟩ )); done))); (focus exact rfl))))); (try all_goals (try show retA _ _ _ _ _ _ _))
          all_goals first
            | (exfalso; omega)
            | (refine ⟨[_, _], [], ⟨resV_tmp (by conv => lhs; whnf), resV_tmp (by conv => lhs; whnf), trivial⟩, VwOs.mk (by decide) trivial, ?_, rfl⟩; (repeat' (first | exact vwRL rfl | exact Vw.ro _ | refine Vw.tup' ?_ | refine ⟨?_, ?_⟩ )); done)
            | (all_goals trace_state); fail
  · obtain rfl : k = N4 := by omega
    rw [(hmiss hall).1, (hmiss hall).2]
    (repeat' (first | refine a_seq ?_ | refine a_ret ?_ | refine a_exit ?_ | refine a_region ?_ | refine l_nil ?_ | (apply w_q; (focus (first | exact Q_move (by conv => lhs; whnf) | exact Q_assign (by conv => lhs; whnf) | exact Q_lss rfl rfl)); (focus exact rfl)) | (refine a_cond rfl ?_ ?_ <;> (intro h; (try (have hp := of_decide_eq_true h)); (try (have hp := of_decide_eq_false h)); (try contradiction); (try (exfalso; omega)))) | (((first | apply w_q); (focus exact Q_mulE rfl rfl (by omega) e2); (focus exact rfl))) | (((first | apply w_q); (focus exact Q_mulE rfl rfl (by omega) e3); (focus exact rfl))) | (((first | apply w_q); (focus exact Q_mulE rfl rfl (by omega) e4); (focus exact rfl))))); (try all_goals (try show retA _ _ _ _ _ _ _))
    all_goals first
      | (exfalso; omega)
      | (refine ⟨[_, _], [], ⟨resV_tmp (by conv => lhs; whnf), resV_tmp (by conv => lhs; whnf), trivial⟩, VwOs.mk (by decide) trivial, ?_, rfl⟩; (repeat' (first | exact vwRL rfl | exact Vw.nilro _ | refine Vw.tup' ?_ | refine ⟨?_, ?_⟩ )); done)
      | (all_goals trace_state); fail
end Go.Proofs.YtbgecpjlopdkfaaDoor
