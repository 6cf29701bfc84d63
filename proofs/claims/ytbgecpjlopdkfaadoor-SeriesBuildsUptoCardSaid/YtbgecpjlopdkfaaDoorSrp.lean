import Derived.Test.YtbgecpjlopdkfaaDoorSro
import Derived.Test.YtbgecpjlopdkfaaDoorWna
set_option linter.unusedSimpArgs false
set_option linter.unusedVariables false
set_option linter.unusedSectionVars false
set_option maxRecDepth 20000
namespace Go.Proofs.YtbgecpjlopdkfaaDoor
attribute [local irreducible] QOp aL aC qL
def zgQ (ns : List Nat) (a b c d : Nat) : Bool := zgA ns [a, b, c, d]
theorem zgQ_D {ns : List Nat} {a b c d : Nat} (h : zgQ ns a b c d = true) : qdD a b c d = true := by
  unfold zgQ zgA at h
  rw [List.all_eq_true] at h
  have g : ∀ i, i < 4 → ∀ k, k < 4 → i ≠ k → [a, b, c, d].getD i 0 ≠ [a, b, c, d].getD k 0 := fun i hi k hk hik e => by
    have h1 := h i (List.mem_range.2 hi)
    rw [List.all_eq_true] at h1
    have h2 := h1 k (List.mem_range.2 hk)
    unfold zgG at h2
    rw [decide_eq_false hik, decide_eq_true e] at h2
    exact absurd h2 (by simp)
  unfold qdD
  rw [decide_eq_true_eq]
  exact ⟨g 0 (by decide) 1 (by decide) (by decide), g 0 (by decide) 2 (by decide) (by decide), g 0 (by decide) 3 (by decide) (by decide), g 1 (by decide) 2 (by decide) (by decide), g 1 (by decide) 3 (by decide) (by decide), g 2 (by decide) 3 (by decide) (by decide)⟩
theorem zgB {ns : List Nat} {n k : Nat} : qdB n (zgQ ns) k = zgA ns (qdL n k) := by
  show (qdD _ _ _ _ && zgQ ns _ _ _ _) = zgQ ns _ _ _ _
  cases h : zgQ ns (k / (n * n * n)) (k / (n * n) % n) (k / n % n) (k % n)
  · rw [Bool.and_false]
  · rw [zgQ_D h]; rfl
set_option maxRecDepth 20000 in
set_option maxHeartbeats 4000000 in
theorem Zig_err (N : Int) (l : List Int) (h : chk N l ≠ 0) : AC Tryd.prog 15 [ordv N l] [] (.tup [.val (.slice none 0 0), .val (.bool false), .val (.int .i64 (chk N l))]) [] := by
  refine AC.mk (n := 54) (fn := Tryd.f15) Tryd.func15 (by kernel_rfl) rfl rfl rfl rfl (fun cx => ?_); dsimp only [argv, Nat.reduceAdd]
  (repeat' (first | refine a_seq ?_ | refine a_ret ?_ | refine a_region ?_ | refine l_nil ?_ | (apply w_q; (focus (first | exact Q_move (by conv => lhs; whnf) | exact Q_assign (by conv => lhs; whnf) | exact Q_load_all rfl rfl KAg.h | exact Q_neq rfl rfl)); (focus exact rfl)) | (refine a_cond rfl ?_ ?_ <;> (intro h; (try (have hp := of_decide_eq_true h)); (try (have hp := of_decide_eq_false h)); (try contradiction); (try (exfalso; omega)))) | refine w_box rfl rfl (by first|(dsimp only[obA,obB,obD,obE,obF,obG,obI,List.map,AO.sh,AV.sh,AV.shl,Nat.reduceAdd];done)|exact rfl) (by first|(dsimp only[obA,obB,obD,obE,obF,obG,obI,List.map,AO.sh,AV.sh,AV.shl,Nat.reduceAdd];done)|exact rfl) rfl ?_ | (((first | apply w_q); (focus (refine Q_call (.inl ⟨rfl, rfl⟩) (Check_ac ?_ ?_) ?_; rotate_left 2; (focus ((repeat' (first | exact trivial | exact Vw.val _ | exact Vw.ro _ | refine Vw.agg' ?_ | refine ⟨?_, ?_⟩ )); done)); all_goals (skip))); (focus exact rfl))))); (try all_goals (try show retA _ _ _ _ _ _ _))
  all_goals first
    | (exfalso; omega)
    | (exfalso; simp_all; done)
    | (refine ⟨[_, _, _], [], ⟨resV_tmp (by conv => lhs; whnf), resV_tmp (by conv => lhs; whnf), resV_tmp (by conv => lhs; whnf), trivial⟩, VwOs.mk (by decide) trivial, ?_, rfl⟩; (repeat' (first | exact vwRL rfl | refine Vw.tup' ?_)); done)
    | (all_goals trace_state); fail
set_option maxRecDepth 20000 in
set_option maxHeartbeats 4000000 in
theorem Zig_ok (n : Nat) (ns : List Nat) (hn : n ≤ 10) (hv : Vld n ns) (hok : okB n ns = true) : AC Tryd.prog 15 [ordv n (nl ns)] [] (.tup [ints (nl (qdR n (zgQ ns))), .val (.bool (qdY n (zgQ ns))), .val (.int .i64 0)]) [] := by
  have h0 := chk_ok hn hv hok
  have hlen := hv.1
  have m2 : n * n ≤ 10 * 10 := Nat.mul_le_mul hn hn
  have m3 : n * n * n ≤ 10 * 10 * 10 := Nat.mul_le_mul m2 hn
  have m4 : n * n * n * n ≤ 10 * 10 * 10 * 10 := Nat.mul_le_mul m3 hn
  have e2 : (n : Int) * (n : Int) = ((n * n : Nat) : Int) := by simp
  have e3 : ((n * n : Nat) : Int) * (n : Int) = ((n * n * n : Nat) : Int) := by simp
  have e4 : ((n * n * n : Nat) : Int) * (n : Int) = ((n * n * n * n : Nat) : Int) := by simp
  have hhit := fun k => qd_hit (n := n) (q := zgQ ns) (k := k)
  have hmiss := qd_miss (n := n) (q := zgQ ns)
  have hlt : ∀ k, k < n * n * n * n → 0 < n ∧ k / (n * n * n) < n ∧ 0 < n * n ∧ 0 < n * n * n := fun k hk => by
    have h0 : 0 < n := by
      rcases Nat.eq_zero_or_pos n with h | h
      · subst h; simp at hk
      · exact h
    exact ⟨h0, Nat.div_lt_of_lt_mul hk, Nat.mul_pos h0 h0, Nat.mul_pos (Nat.mul_pos h0 h0) h0⟩
  have hz : ∀ k, k < n * n * n * n → AC Tryd.prog 53 [ordv n (nl ns), ints (nl (qdL n k))] [] (.val (.bool (qdB n (zgQ ns) k))) [] := fun k hk => by
    rw [zgB]
    obtain ⟨p1, p4, _, _⟩ := hlt k hk
    refine zig_ac n ns (qdL n k) hlen hn (show 4 ≤ 100 by decide) fun j hj => ?_
    have hj4 : j < 4 := hj
    rcases (show j = 0 ∨ j = 1 ∨ j = 2 ∨ j = 3 by omega) with rfl | rfl | rfl | rfl
    · exact p4
    · exact Nat.mod_lt _ p1
    · exact Nat.mod_lt _ p1
    · exact Nat.mod_lt _ p1
  have hqL : ∀ k, qdL n k = [k / (n * n * n), k / (n * n) % n, k / n % n, k % n] := fun _ => rfl
  have d1 : ∀ k m : Nat, (k : Int) / (m : Int) = ((k / m : Nat) : Int) := fun k m => by simp
  have r1 : ∀ k m : Nat, (k : Int) % (m : Int) = ((k % m : Nat) : Int) := fun k m => by simp
  generalize qdR n (zgQ ns) = R at *
  generalize qdY n (zgQ ns) = Y at *
  generalize n * n * n * n = N4 at *
  generalize n * n * n = N3 at *
  generalize n * n = N2 at *
  refine AC.mk (n := 54) (fn := Tryd.f15) Tryd.func15 (by kernel_rfl) rfl rfl rfl rfl (fun cx => ?_); dsimp only [argv, Nat.reduceAdd]
  (repeat' (first | refine a_seq ?_ | refine a_region ?_ | refine l_nil ?_ | (apply w_q; (focus (first | exact Q_assign (by conv => lhs; whnf))); (focus exact rfl)) | refine w_box rfl rfl (by first|(dsimp only[obA,obB,obD,obE,obF,obG,obI,List.map,AO.sh,AV.sh,AV.shl,Nat.reduceAdd];done)|exact rfl) (by first|(dsimp only[obA,obB,obD,obE,obF,obG,obI,List.map,AO.sh,AV.sh,AV.shl,Nat.reduceAdd];done)|exact rfl) rfl ?_)); (try all_goals (try show retA _ _ _ _ _ _ _))
  refine w_freezeB 0 [.val (.int .i64 n), .sl 1 (intc (nl ns))] rfl rfl (by simp only [fbv_nil, fbv_cons, fbl_nil, fbl_cons, fbo_nil, fbo_cons, fbo_box, fbo_row, fbo_gone, fb_own, fb_val, fb_ro, fb_rpt, fb_ptr, fb_ept, fb_agg, fb_tup, fb_clo, fb_ints, fb_rows, fb_pairs, fb_ords, Nat.reduceEqDiff, ↓reduceIte, List.set_cons_zero, List.set_cons_succ]; exact rfl) (by simp only [fbv_nil, fbv_cons, fbl_nil, fbl_cons, fbo_nil, fbo_cons, fbo_box, fbo_row, fbo_gone, fb_own, fb_val, fb_ro, fb_rpt, fb_ptr, fb_ept, fb_agg, fb_tup, fb_clo, fb_ints, fb_rows, fb_pairs, fb_ords, Nat.reduceEqDiff, ↓reduceIte, List.set_cons_zero, List.set_cons_succ]; exact rfl) ?_
  (repeat' (first | refine a_seq ?_ | refine a_block ?_ | refine a_skip ?_ | refine a_region ?_ | refine l_nil ?_ | (apply w_q; (focus (first | exact Q_move (by conv => lhs; whnf) | exact Q_assign (by conv => lhs; whnf) | exact Q_fieldAddr_rpt rfl KFl.h | exact Q_neq rfl rfl | exact Q_ld_rpa rfl KAg.h rfl rfl (by first | (dsimp only [List.drop_zero, List.drop_succ_cons, List.take_succ_cons, List.take_zero, List.map, ofD]; done) | exact rfl) | exact Q_ld_rv rfl rfl KSc.h)); (focus exact rfl)) | (refine a_cond rfl ?_ ?_ <;> (intro h; (try (have hp := of_decide_eq_true h)); (try (have hp := of_decide_eq_false h)); (try contradiction); (try (exfalso; omega)))) | (((first | apply w_q); (focus (refine Q_call (.inl ⟨rfl, rfl⟩) (Check_ac ?_ ?_) ?_; rotate_left 2; (focus ((repeat' (first | exact trivial | exact Vw.val _ | exact Vw.ro _ | refine Vw.agg' ?_ | refine ⟨?_, ?_⟩ )); done)); all_goals (skip))); (focus exact rfl))) | (((first | apply w_q); (focus exact Q_mulE rfl rfl (by omega) e2); (focus exact rfl))) | (((first | apply w_q); (focus exact Q_mulE rfl rfl (by omega) e3); (focus exact rfl))) | (((first | apply w_q); (focus exact Q_mulE rfl rfl (by omega) e4); (focus exact rfl))))); (try all_goals (try show retA _ _ _ _ _ _ _))
  all_goals first
    | (exfalso; omega)
    | (exfalso; simp_all; done)
    | skip
  refine w_loop (X := Nat) [1, 6, 22] (by simp only [keepv, getv_cons, Nat.reduceEqDiff, ↓reduceIte]; exact rfl) (fun k => [(23, .val (.int .i64 (k : Nat)))]) (fun _ => []) (fun k => k ≤ N4 ∧ ∀ j, j < k → qdB n (zgQ ns) j = false) (fun k => N4 - k) (0) ([]) ?_ ?_ rfl ?_ <;> (try dsimp only [List.cons_append, List.nil_append])
  · exact ⟨Nat.zero_le _, fun j h => absurd h (Nat.not_lt_zero _)⟩
  · (refine St.le_mk rfl (VwOs.mk (by decide) ?_) ?_ <;> (repeat' (first | exact trivial | exact vwR rfl | refine ⟨?_, ?_⟩ )))
  rintro k ⟨hk, hall⟩
  by_cases hkN : k < N4
  · obtain ⟨p1, p4, p2, p3⟩ := hlt k hkN
    have hit := hhit k hkN hall
    have hzk := hz k hkN
    rw [hqL k] at hit hzk
    have x1 := d1 k N3
    have x2 := d1 k N2
    have x3 := d1 k n
    have x4 := r1 (k / N2) n
    have x5 := r1 (k / n) n
    have x6 := r1 k n
    have k0 := Nat.div_le_self k N2
    have k1 := Nat.div_le_self k n
    clear hz hqL d1 r1 hhit hmiss hlt
    generalize k / N3 = a at *
    generalize k / N2 = t1 at *
    generalize k / n = t2 at *
    generalize t1 % n = b at *
    generalize t2 % n = c at *
    generalize k % n = d at *
    (repeat' (first | refine a_seq ?_ | refine a_block ?_ | refine a_skip ?_ | refine a_region ?_ | refine l_nil ?_ | refine q_nil ?_ | ((first | apply w_q | apply w_qq); (focus (first | exact Q_move (by conv => lhs; whnf) | exact Q_assign (by conv => lhs; whnf) | exact Q_lss rfl rfl)); (focus exact rfl)) | (refine a_cond rfl ?_ ?_ <;> (intro h; (try (have hp := of_decide_eq_true h)); (try (have hp := of_decide_eq_false h)); (try contradiction); (try (exfalso; omega)))) | refine a_drawT (id := 8) 22 (by kernel_rfl) (by kernel_rfl) (by simp only [List.take_succ_cons, List.take_zero, List.drop_succ_cons, List.drop_zero]; exact rfl) (by simp only [List.take_succ_cons, List.take_zero, List.drop_succ_cons, List.drop_zero]; exact rfl) ?_ | refine w_lit_i4 rfl rfl rfl rfl KSl.h KMk.h (by first|(dsimp only[obA,obB,obD,obE,obF,obG,obI,List.map,AO.sh,AV.sh,AV.shl,Nat.reduceAdd];done)|exact rfl) (by first|(dsimp only[obA,obB,obD,obE,obF,obG,obI,List.map,AO.sh,AV.sh,AV.shl,Nat.reduceAdd];done)|exact rfl) rfl ?_ | (((first | apply w_q | apply w_qq); (focus exact Q_mulE rfl rfl (by omega) e2); (focus exact rfl))) | (((first | apply w_q | apply w_qq); (focus exact Q_mulE rfl rfl (by omega) e3); (focus exact rfl))) | (((first | apply w_q | apply w_qq); (focus exact Q_quoE rfl rfl (by omega) x1); (focus exact rfl))) | (((first | apply w_q | apply w_qq); (focus exact Q_quoE rfl rfl (by omega) x2); (focus exact rfl))) | (((first | apply w_q | apply w_qq); (focus exact Q_quoE rfl rfl (by omega) x3); (focus exact rfl))) | (((first | apply w_q | apply w_qq); (focus exact Q_remE rfl rfl (by omega) x4); (focus exact rfl))) | (((first | apply w_q | apply w_qq); (focus exact Q_remE rfl rfl (by omega) x5); (focus exact rfl))) | (((first | apply w_q | apply w_qq); (focus exact Q_remE rfl rfl (by omega) x6); (focus exact rfl))))); (try all_goals (try show retA _ _ _ _ _ _ _))
    all_goals first
      | (exfalso; omega)
      | skip
    first | refine w_freezeA 0 rfl (by simp only [frv_nil, frv_cons, frl_nil, frl_cons, fro_nil, fro_cons, fro_box, fro_row, fro_gone, fr_own, fr_val, fr_ro, fr_rpt, fr_ptr, fr_ept, fr_agg, fr_tup, fr_clo, fr_ints, fr_rows, fr_pairs, fr_ords, Nat.reduceEqDiff, ↓reduceIte, List.set_cons_zero, List.set_cons_succ]; exact rfl) (by simp only [frv_nil, frv_cons, frl_nil, frl_cons, fro_nil, fro_cons, fro_box, fro_row, fro_gone, fr_own, fr_val, fr_ro, fr_rpt, fr_ptr, fr_ept, fr_agg, fr_tup, fr_clo, fr_ints, fr_rows, fr_pairs, fr_ords, Nat.reduceEqDiff, ↓reduceIte, List.set_cons_zero, List.set_cons_succ]; exact rfl) ?_ | refine w_freezeAC 0 rfl (by simp only [frv_nil, frv_cons, frl_nil, frl_cons, fro_nil, fro_cons, fro_box, fro_row, fro_gone, fr_own, fr_val, fr_ro, fr_rpt, fr_ptr, fr_ept, fr_agg, fr_tup, fr_clo, fr_ints, fr_rows, fr_pairs, fr_ords, Nat.reduceEqDiff, ↓reduceIte, List.set_cons_zero, List.set_cons_succ]; exact rfl) (by simp only [frv_nil, frv_cons, frl_nil, frl_cons, fro_nil, fro_cons, fro_box, fro_row, fro_gone, fr_own, fr_val, fr_ro, fr_rpt, fr_ptr, fr_ept, fr_agg, fr_tup, fr_clo, fr_ints, fr_rows, fr_pairs, fr_ords, Nat.reduceEqDiff, ↓reduceIte, List.set_cons_zero, List.set_cons_succ]; exact rfl) ?_
    have hLv : intc [(a : Int), (b : Int), (c : Int), (d : Int)] = intc (nl [a, b, c, d]) := rfl
    rw [hLv]
    generalize hL : nl [a, b, c, d] = L at *
    cases hq : qdB n (zgQ ns) k with
    | false =>
      rw [hq] at hzk
      (repeat' (first | refine a_skip ?_ | refine a_region ?_ | refine l_nil ?_ | (apply w_q; (focus (first | exact Q_move (by conv => lhs; whnf) | exact Q_add rfl rfl (by omega) | exact Q_ld_rpa rfl KAg.h rfl rfl (by first | (dsimp only [List.drop_zero, List.drop_succ_cons, List.take_succ_cons, List.take_zero, List.map, ofD]; done) | exact rfl))); (focus exact rfl)) | (refine a_cond rfl ?_ ?_ <;> (intro h; (try (have hp := of_decide_eq_true h)); (try (have hp := of_decide_eq_false h)); (try contradiction); (try (exfalso; omega)))) | ((refine w_callV (.inl ⟨rfl, rfl⟩) (hzk) ?_ (by first | (dsimp only [AV.sh, AV.shl, sh_ints, sh_rows, sh_pairs, sh_ords]; done) | exact rfl) rfl ?_; rotate_left 0; (focus ((repeat' (first | exact trivial | exact Vs.val _ | exact Vs.ro _ | refine Vs.agg' ?_ | refine ⟨?_, ?_⟩)); done)); rotate_left 1; all_goals (try (skip)))))); (try all_goals (try show retA _ _ _ _ _ _ _))
      all_goals first
        | (exfalso; omega)
        | (try dsimp only [thenA, blockA]
           refine ⟨k + 1, [], ?_, ?_, ?_, rfl⟩ <;> (try dsimp only)
           · refine ⟨by show k + 1 ≤ _; omega, fun j hj => ?_⟩
             by_cases h : j = k
             · subst h; exact hq
             · exact hall j (by have : j < k + 1 := hj; omega)
           · show N4 - (k + 1) < N4 - k; omega
           · (refine St.le_mk rfl (VwOs.mk (by decide) ?_) ?_ <;> (repeat' (first | exact trivial | exact vwR rfl | refine ⟨?_, ?_⟩ ))))
        | (all_goals trace_state); fail
    | true =>
      rw [hq] at hzk
      rw [(hit hq).1, (hit hq).2, hL]
      (repeat' (first | refine a_seq ?_ | refine a_ret ?_ | refine a_region ?_ | refine l_nil ?_ | (apply w_q; (focus (first | exact Q_move (by conv => lhs; whnf) | exact Q_assign (by conv => lhs; whnf) | exact Q_ld_rpa rfl KAg.h rfl rfl (by first | (dsimp only [List.drop_zero, List.drop_succ_cons, List.take_succ_cons, List.take_zero, List.map, ofD]; done) | exact rfl))); (focus exact rfl)) | (refine a_cond rfl ?_ ?_ <;> (intro h; (try (have hp := of_decide_eq_true h)); (try (have hp := of_decide_eq_false h)); (try contradiction); (try (exfalso; omega)))) | ((refine w_callV (.inl ⟨rfl, rfl⟩) (hzk) ?_ (by first | (dsimp only [AV.sh, AV.shl, sh_ints, sh_rows, sh_pairs, sh_ords]; done) | exact rfl) rfl ?_; rotate_left 0; (focus ((repeat' (first | exact trivial | exact Vs.val _ | exact Vs.ro _ | refine Vs.agg' ?_ | refine ⟨?_, ?_⟩)); done)); rotate_left 1; all_goals (try (skip)))))); (try all_goals (try show retA _ _ _ _ _ _ _))
      all_goals first
        | (exfalso; omega)
        | (dsimp only [thenA, blockA]; refine ⟨[_, _, _], [], ⟨resV_tmp (by conv => lhs; whnf), resV_tmp (by conv => lhs; whnf), resV_tmp (by conv => lhs; whnf), trivial⟩, VwOs.mk (by decide) trivial, ?_, rfl⟩; (repeat' (first | exact vwRL rfl | exact Vw.ro _ | refine Vw.tup' ?_ | refine ⟨?_, ?_⟩ )); done)
        | (refine ⟨[_, _, _], [], ⟨resV_tmp (by conv => lhs; whnf), resV_tmp (by conv => lhs; whnf), resV_tmp (by conv => lhs; whnf), trivial⟩, VwOs.mk (by decide) trivial, ?_, rfl⟩; (repeat' (first | fail)); done)
        | (all_goals trace_state); fail
  · obtain rfl : k = N4 := by omega
    rw [(hmiss hall).1, (hmiss hall).2]
    (repeat' (first | refine a_seq ?_ | refine a_ret ?_ | refine a_exit ?_ | refine a_region ?_ | refine l_nil ?_ | (apply w_q; (focus (first | exact Q_assign (by conv => lhs; whnf) | exact Q_lss rfl rfl)); (focus exact rfl)) | (refine a_cond rfl ?_ ?_ <;> (intro h; (try (have hp := of_decide_eq_true h)); (try (have hp := of_decide_eq_false h)); (try contradiction); (try (exfalso; omega)))))); (try all_goals (try show retA _ _ _ _ _ _ _))
    all_goals first
      | (exfalso; omega)
      | (refine ⟨[_, _, _], [], ⟨resV_tmp (by conv => lhs; whnf), resV_tmp (by conv => lhs; whnf), resV_tmp (by conv => lhs; whnf), trivial⟩, VwOs.mk (by decide) trivial, ?_, rfl⟩; (repeat' (first | exact vwRL rfl | exact Vw.nilro _ | refine Vw.tup' ?_ | refine ⟨?_, ?_⟩ )); done)
      | (all_goals trace_state); fail
end Go.Proofs.YtbgecpjlopdkfaaDoor
