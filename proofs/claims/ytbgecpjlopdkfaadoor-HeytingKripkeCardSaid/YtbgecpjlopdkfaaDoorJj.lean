import Derived.Test.YtbgecpjlopdkfaaDoorIr
import Derived.Test.YtbgecpjlopdkfaaDoorJh
set_option linter.unusedSimpArgs false
set_option linter.unusedVariables false
set_option linter.unusedSectionVars false
set_option maxRecDepth 20000
namespace Go.Proofs.YtbgecpjlopdkfaaDoor
attribute [local irreducible] QOp aL aC qL
theorem sq_ex {n : Nat} {t : List (List Int)} (hf : formB n t = true) (hb : t.any (badR n) = false) : ∃ M, t = tn M ∧ Sq n M := sq_of hf fun x y hx hy => by
  obtain ⟨l1, l2⟩ := formB_iff.1 hf
  have hb' : ¬ t.any (badR n) = true := by rw [hb]; decide
  rw [bad_iff] at hb'
  have l3 := l2 x (by omega)
  by_cases hc : (t.getD x []).getD y 0 < 0 ∨ (n : Int) ≤ (t.getD x []).getD y 0
  · exact absurd ⟨x, by omega, y, by omega, hc⟩ hb'
  · omega
theorem lck_bad {n : Nat} {m j : List (List Int)} (h1 : 1 ≤ n) (h2 : n ≤ 40) (hm : formB n m = true) (hj : formB n j = true) (h : (m ++ j).any (badR n) = true) : lck n m j = 3 := by
  unfold lck
  rw [if_neg (by omega), hm, hj, if_neg (by decide), if_pos h]
theorem badI_iff {n : Nat} {x : Int} : badI n x = true ↔ x < 0 ∨ (n : Int) ≤ x := by unfold badI; rw [decide_eq_true_eq]
set_option maxHeartbeats 2000000 in
theorem LCheck_ac (N : Int) (m w : List (List Int)) (hm : m.length ≤ 9223372036854775807) (hj : w.length ≤ 9223372036854775807) (hmr : ∀ r ∈ m, r.length ≤ 9223372036854775807) (hjr : ∀ r ∈ w, r.length ≤ 9223372036854775807) : AC Tryd.prog 129 [latA N m w] [] (.val (.int .i64 (lck N m w))) [] := by
  have c1 := lrows_ac m N hm hmr
  have c2 := lrows_ac w N hj hjr
  generalize hfm : formB N m = b1 at c1
  generalize hfj : formB N w = b2 at c2
  have hA : N < 1 ∨ 40 < N → lck N m w = 2 := fun h => by unfold lck; rw [if_pos h]
  have hB : 1 ≤ N ∧ N ≤ 40 → (b1 && b2) = false → lck N m w = 1 := fun h1 h2 => by
    unfold lck; rw [if_neg (by omega), hfm, hfj, if_pos h2]
  have hC : 1 ≤ N ∧ N ≤ 40 → (b1 && b2) = true → m.length ≤ 40 ∧ w.length ≤ 40 ∧ 0 < m.length + w.length := fun h1 h2 => by
    rw [Bool.and_eq_true] at h2
    have := (formB_iff.1 (hfm.trans h2.1)).1
    have := (formB_iff.1 (hfj.trans h2.2)).1
    omega
  refine AC.mk (n := 59) (fn := Tryd.f129) Tryd.func129 (by kernel_rfl) rfl rfl rfl rfl (fun cx => ?_); dsimp only [argv, Nat.reduceAdd]
  cases b1 <;> cases b2
  all_goals
    (repeat' (first | refine a_seq ?_ | refine a_block ?_ | refine a_skip ?_ | refine a_ret ?_ | refine a_region ?_ | refine l_nil ?_ | (apply w_q; (focus (first | exact Q_move (by conv => lhs; whnf) | exact Q_assign (by conv => lhs; whnf) | exact Q_fieldAddr_ptr rfl KFl.h | exact Q_load_ptr rfl rfl rfl KSc.h | exact Q_lss rfl rfl | exact Q_gtr rfl rfl | exact Q_len_rows rfl KSl.h | exact Q_not rfl | exact Q_pick_t rfl (by assumption) (by conv => lhs; whnf) | exact Q_pick_f rfl (by assumption) (by conv => lhs; whnf) | exact Q_pick_t rfl rfl (by conv => lhs; whnf) | exact Q_pick_f rfl rfl (by conv => lhs; whnf))); (focus exact rfl)) | (refine a_cond rfl ?_ ?_ <;> (intro h; (try (have hp := of_decide_eq_true h)); (try (have hp := of_decide_eq_false h)); (try contradiction); (try (exfalso; omega)))) | refine w_guard_y rfl rfl rfl (by first | assumption | rfl) ?_ | refine w_guard_n rfl rfl rfl (by first | assumption | rfl) ?_ | (refine w_guard rfl rfl rfl ?_ ?_ <;> (intro h; (try (have hp := of_decide_eq_true h)); (try (have hp := of_decide_eq_false h)); (try contradiction); (try (exfalso; omega)))) | refine w_box rfl rfl (by first|(dsimp only[obA,obB,obD,obE,obF,obG,obI,List.map,AO.sh,AV.sh,AV.shl,Nat.reduceAdd];done)|exact rfl) (by first|(dsimp only[obA,obB,obD,obE,obF,obG,obI,List.map,AO.sh,AV.sh,AV.shl,Nat.reduceAdd];done)|exact rfl) rfl ?_ | (((first | apply w_q); (focus (refine Q_call (.inl ⟨rfl, rfl⟩) (c1) ?_; ((repeat' (first | exact vwRL rfl | exact Vw.ro _ | refine ⟨?_, ?_⟩ )); done))); (focus exact rfl))) | (((first | apply w_q); (focus (refine Q_call (.inl ⟨rfl, rfl⟩) (c2) ?_; ((repeat' (first | exact vwRL rfl | exact Vw.ro _ | refine ⟨?_, ?_⟩ )); done))); (focus exact rfl))) | (refine w_lit_tabs2 rfl rfl KSl.h KMk.h (by first|(dsimp only[obA,obB,obD,obE,obF,obG,obI,List.map,AO.sh,AV.sh,AV.shl,Nat.reduceAdd];done)|exact rfl) (by first|(dsimp only[obA,obB,obD,obE,obF,obG,obI,List.map,AO.sh,AV.sh,AV.shl,Nat.reduceAdd];done)|exact rfl) rfl ?_) | ((refine w_freezeA 1 rfl (by simp only [frv_nil, frv_cons, frl_nil, frl_cons, fro_nil, fro_cons, fro_box, fro_row, fro_gone, fr_own, fr_val, fr_ro, fr_rpt, fr_ptr, fr_ept, fr_agg, fr_tup, fr_clo, fr_ints, fr_rows, fr_pairs, fr_ords, Nat.reduceEqDiff, ↓reduceIte, List.set_cons_zero, List.set_cons_succ]; exact rfl) (by simp only [frv_nil, frv_cons, frl_nil, frl_cons, fro_nil, fro_cons, fro_box, fro_row, fro_gone, fr_own, fr_val, fr_ro, fr_rpt, fr_ptr, fr_ept, fr_agg, fr_tup, fr_clo, fr_ints, fr_rows, fr_pairs, fr_ords, Nat.reduceEqDiff, ↓reduceIte, List.set_cons_zero, List.set_cons_succ]; exact rfl) ?_; (refine w_callD (res := .own 0) (news := [.row 22 1 (rowc (m ++ w))]) (.inl ⟨rfl, rfl⟩) (Concat2_ac m w ?_ ?_ ?_) ?_ ?_ ?_ (by first | (dsimp only [List.cons_append, List.nil_append, List.append_nil, List.map, AO.sh, AV.sh, AV.shl, sh_ints, sh_rows, sh_pairs, sh_ords, List.length_cons, List.length_nil, Nat.reduceAdd, Nat.zero_add, Nat.add_zero]; done) | exact rfl) (by first | (dsimp only [AV.sh, AV.shl, sh_ints, sh_rows, sh_pairs, sh_ords, List.length_cons, List.length_nil, Nat.reduceAdd, Nat.zero_add, Nat.add_zero]; done) | exact rfl) rfl ?_; rotate_left 3; (focus exact rfl); (focus exact rfl); (focus ((repeat' (first | exact trivial | exact Vs.ro _ | refine ⟨?_, ?_⟩)); done)); rotate_left 1; all_goals (try ((have := hC (by omega) rfl; omega)))); refine w_freezeA 2 rfl (by simp only [frv_nil, frv_cons, frl_nil, frl_cons, fro_nil, fro_cons, fro_box, fro_row, fro_gone, fr_own, fr_val, fr_ro, fr_rpt, fr_ptr, fr_ept, fr_agg, fr_tup, fr_clo, fr_ints, fr_rows, fr_pairs, fr_ords, Nat.reduceEqDiff, ↓reduceIte, List.set_cons_zero, List.set_cons_succ]; exact rfl) (by simp only [frv_nil, frv_cons, frl_nil, frl_cons, fro_nil, fro_cons, fro_box, fro_row, fro_gone, fr_own, fr_val, fr_ro, fr_rpt, fr_ptr, fr_ept, fr_agg, fr_tup, fr_clo, fr_ints, fr_rows, fr_pairs, fr_ords, Nat.reduceEqDiff, ↓reduceIte, List.set_cons_zero, List.set_cons_succ]; exact rfl) ?_)))); (try all_goals (try show retA _ _ _ _ _ _ _))
    all_goals first
      | (refine ⟨[_], [], ⟨resV_tmp (by conv => lhs; whnf), trivial⟩, VwOs.mk (by decide) trivial, ?_, rfl⟩; rw [hA (by omega)]; exact Vw.val _)
      | (refine ⟨[_], [], ⟨resV_tmp (by conv => lhs; whnf), trivial⟩, VwOs.mk (by decide) trivial, ?_, rfl⟩; rw [hB (by omega) rfl]; exact Vw.val _)
      | skip
  obtain ⟨n, rfl⟩ : ∃ n : Nat, N = n := ⟨N.toNat, by omega⟩
  have hn1 : 1 ≤ n := by omega
  have hn2 : n ≤ 40 := by omega
  have lm := (formB_iff.1 hfm).1
  have lj := (formB_iff.1 hfj).1
  have hrl : ∀ k, k < (m ++ w).length → ((m ++ w).getD k []).length ≤ 40 := fun k hk => by
    rw [List.length_append] at hk
    rw [List.getD_eq_getElem?_getD]
    by_cases hkm : k < m.length
    · rw [List.getElem?_append_left hkm, ← List.getD_eq_getElem?_getD]
      have := (formB_iff.1 hfm).2 k hkm; omega
    · rw [List.getElem?_append_right (by omega), ← List.getD_eq_getElem?_getD]
      have := (formB_iff.1 hfj).2 (k - m.length) (by omega); omega
  have hapl : (m ++ w).length ≤ 80 := by rw [List.length_append]; omega
  (refine w_loop (X := Nat) [1, 34, 35] (by simp only [keepv, getv_cons, Nat.reduceEqDiff, ↓reduceIte]; exact rfl) (fun k => [(36, .val (.int .i64 (k : Int)))]) (fun _ => [.box [.val (.int .i64 n), rows m, rows w]]) (fun k => k ≤ (m ++ w).length ∧ ∀ j, j < k → (fun k => badR n ((m ++ w).getD k []) = false) j) (fun k => (m ++ w).length - k) (0) ([0]) ?_ ?_ rfl ?_ <;> (try dsimp only [List.cons_append, List.nil_append]); (focus exact ⟨Nat.zero_le _, fun j hj => absurd hj (Nat.not_lt_zero _)⟩); (focus (refine St.le_mk rfl (VwOs.mk (by decide) ?_) ?_ <;> (repeat' (first | exact trivial | exact vwR rfl | exact Vw.ro _ | exact Vw.ptr _ _ _ rfl | refine VwO.box' ?_ | refine ⟨⟨_, rfl, ?_⟩, ?_⟩ | refine ⟨?_, ?_⟩ )))); rintro k ⟨hk, hall⟩; try dsimp only at *)
  by_cases hk2 : k < (m ++ w).length
  · have hrk := hrl k hk2
    (repeat' (first | refine a_seq ?_ | refine a_block ?_ | refine a_skip ?_ | refine a_region ?_ | refine l_nil ?_ | (apply w_q; (focus (first | exact Q_move (by conv => lhs; whnf) | exact Q_assign (by conv => lhs; whnf) | exact Q_lss rfl rfl | exact Q_ix_rows rfl rfl rfl KSl.h (by omega) | exact Q_ld_rows rfl (by omega) KSc.h | exact Q_len_ints rfl KSl.h)); (focus exact rfl)) | (refine a_cond rfl ?_ ?_ <;> (intro h; (try (have hp := of_decide_eq_true h)); (try (have hp := of_decide_eq_false h)); (try contradiction); (try (exfalso; omega)))))); (try all_goals (try show retA _ _ _ _ _ _ _))
    generalize hr : (m ++ w).getD k [] = r at hrk ⊢
    (refine w_loop (X := Nat) [1, 34, 35, 36, 40, 41] (by simp only [keepv, getv_cons, Nat.reduceEqDiff, ↓reduceIte]; exact rfl) (fun k => [(42, .val (.int .i64 (k : Int)))]) (fun _ => [.box [.val (.int .i64 n), rows m, rows w]]) (fun k => k ≤ r.length ∧ ∀ j, j < k → (fun y => badI n (r.getD y 0) = false) j) (fun k => r.length - k) (0) ([0]) ?_ ?_ rfl ?_ <;> (try dsimp only [List.cons_append, List.nil_append]); (focus exact ⟨Nat.zero_le _, fun j hj => absurd hj (Nat.not_lt_zero _)⟩); (focus (refine St.le_mk rfl (VwOs.mk (by decide) ?_) ?_ <;> (repeat' (first | exact trivial | exact vwR rfl | exact Vw.ro _ | exact Vw.ptr _ _ _ rfl | refine VwO.box' ?_ | refine ⟨⟨_, rfl, ?_⟩, ?_⟩ | refine ⟨?_, ?_⟩ )))); rintro y ⟨hy, hy1⟩; try dsimp only at *)
    by_cases hy2 : y < r.length
    · (repeat' (first | refine a_seq ?_ | refine a_block ?_ | refine a_skip ?_ | refine a_ret ?_ | refine a_region ?_ | refine l_nil ?_ | (apply w_q; (focus (first | exact Q_move (by conv => lhs; whnf) | exact Q_assign (by conv => lhs; whnf) | exact Q_fieldAddr_ptr rfl KFl.h | exact Q_load_ptr rfl rfl rfl KSc.h | exact Q_lss rfl rfl | exact Q_geq rfl rfl | exact Q_add rfl rfl (by omega) | exact Q_ix_ints rfl rfl rfl KSl.h (by omega) | exact Q_ld_ints rfl (by omega) KSc.h | exact Q_pick_t rfl (by assumption) (by conv => lhs; whnf) | exact Q_pick_f rfl (by assumption) (by conv => lhs; whnf))); (focus exact rfl)) | (refine a_cond rfl ?_ ?_ <;> (intro h; (try (have hp := of_decide_eq_true h)); (try (have hp := of_decide_eq_false h)); (try contradiction); (try (exfalso; omega)))) | refine w_guard_y rfl rfl rfl (by first | assumption | rfl) ?_ | refine w_guard_n rfl rfl rfl (by first | assumption | rfl) ?_ | (refine w_guard rfl rfl rfl ?_ ?_ <;> (intro h; (try (have hp := of_decide_eq_true h)); (try (have hp := of_decide_eq_false h)); (try contradiction); (try (exfalso; omega)))))); (try all_goals (try show retA _ _ _ _ _ _ _))
      all_goals first
        | (refine ⟨[_], [], ⟨resV_tmp (by conv => lhs; whnf), trivial⟩, VwOs.mk (by decide) trivial, ?_, rfl⟩; rw [lck_bad hn1 hn2 hfm hfj (bad_iff.2 ⟨k, hk2, y, (by rw [hr]; exact hy2), (by rw [hr]; omega)⟩)]; exact Vw.val _)
        | ((refine ⟨y + 1, [0], ?_, ?_, ?_, rfl⟩ <;> (try dsimp only); (focus (refine ⟨by omega, fun j hj => ?_⟩; by_cases hq : j = y; (focus (subst hq; (exact Bool.eq_false_iff.2 fun hb => absurd (badI_iff.1 hb) (by omega)))); (focus exact hy1 j (by omega)))); (focus omega); (focus (refine St.le_mk rfl (VwOs.mk (by decide) ?_) ?_ <;> (repeat' (first | exact trivial | exact vwR rfl | exact Vw.ro _ | exact Vw.ptr _ _ _ rfl | refine VwO.box' ?_ | refine ⟨⟨_, rfl, ?_⟩, ?_⟩ | refine ⟨?_, ?_⟩ ))))); done)
    · (repeat' (first | refine a_seq ?_ | refine a_exit ?_ | refine a_region ?_ | refine l_nil ?_ | (apply w_q; (focus (first | exact Q_move (by conv => lhs; whnf) | exact Q_lss rfl rfl | exact Q_add rfl rfl (by omega))); (focus exact rfl)) | (refine a_cond rfl ?_ ?_ <;> (intro h; (try (have hp := of_decide_eq_true h)); (try (have hp := of_decide_eq_false h)); (try contradiction); (try (exfalso; omega)))))); (try all_goals (try show retA _ _ _ _ _ _ _))
      (refine ⟨k + 1, [0], ?_, ?_, ?_, rfl⟩ <;> (try dsimp only); (focus (refine ⟨by omega, fun j hj => ?_⟩; by_cases hq : j = k; (focus (subst hq; (rw [hr]; exact Bool.eq_false_iff.2 fun hb => absurd (badR_iff.1 hb) fun ⟨y', hy', hc⟩ => absurd (badI_iff.2 hc) (by rw [hy1 y' (by omega)]; decide)))); (focus exact hall j (by omega)))); (focus omega); (focus (refine St.le_mk rfl (VwOs.mk (by decide) ?_) ?_ <;> (repeat' (first | exact trivial | exact vwR rfl | exact Vw.ro _ | exact Vw.ptr _ _ _ rfl | refine VwO.box' ?_ | refine ⟨⟨_, rfl, ?_⟩, ?_⟩ | refine ⟨?_, ?_⟩ )))))
  · have hgood : (m ++ w).any (badR n) = false := Bool.eq_false_iff.2 fun hb => by
      rw [List.any_eq_true] at hb
      obtain ⟨r, hr1, hr2⟩ := hb
      obtain ⟨i, hi, rfl⟩ := List.getElem_of_mem hr1
      have := hall i (by omega)
      rw [List.getD_eq_getElem?_getD, List.getElem?_eq_getElem hi] at this
      exact absurd hr2 (by rw [show badR n (m ++ w)[i] = false from this]; decide)
    rw [List.any_append, Bool.or_eq_false_iff] at hgood
    obtain ⟨M, rfl, hM⟩ := sq_ex hfm hgood.1
    obtain ⟨J, rfl, hJ⟩ := sq_ex hfj hgood.2
    rw [lck_tn hn1 hn2 hM hJ]
    have hcall := laws_ac n M J hn2 hM hJ
    cases hL : lawB n (ta M) (ta J) <;> rw [hL] at hcall
    all_goals
      (repeat' (first | refine a_seq ?_ | refine a_skip ?_ | refine a_ret ?_ | refine a_exit ?_ | refine a_region ?_ | refine l_nil ?_ | (apply w_q; (focus (first | exact Q_assign (by conv => lhs; whnf) | exact Q_load_all rfl rfl KAg.h | exact Q_lss rfl rfl | exact Q_not rfl)); (focus exact rfl)) | (refine a_cond rfl ?_ ?_ <;> (intro h; (try (have hp := of_decide_eq_true h)); (try (have hp := of_decide_eq_false h)); (try contradiction); (try (exfalso; omega)))) | (((first | apply w_q); (focus (refine Q_call (.inl ⟨rfl, rfl⟩) (hcall) ?_; ((repeat' (first | exact trivial | exact vwR rfl | exact Vw.ro _ | refine Vw.agg' ?_ | refine ⟨?_, ?_⟩ )); done))); (focus exact rfl))))); (try all_goals (try show retA _ _ _ _ _ _ _))
      refine ⟨[_], [], ⟨resV_tmp (by conv => lhs; whnf), trivial⟩, VwOs.mk (by decide) trivial, ?_, rfl⟩
      exact Vw.val _
end Go.Proofs.YtbgecpjlopdkfaaDoor
set_option linter.unusedSimpArgs false
set_option linter.unusedVariables false
set_option linter.unusedSectionVars false
set_option maxRecDepth 20000
namespace Go.Proofs.YtbgecpjlopdkfaaDoor
attribute [local irreducible] QOp aL aC qL
theorem La.zero {n : Nat} {M J : List (List Nat)} (h : La n M J) : lck n (tn M) (tn J) = 0 := by
  rw [lck_tn h.n1 h.n2 h.sM h.sJ, if_pos]
  unfold lawB
  rw [Bool.and_eq_true, decide_eq_true_eq, decide_eq_true_eq]
  exact ⟨h.A.lf, h.A.lg⟩
theorem len_tn {n : Nat} {M : List (List Nat)} (h : Sq n M) (hn : n ≤ 40) : (tn M).length ≤ 9223372036854775807 := by rw [tn_len, h.len]; omega
theorem row_tn {n : Nat} {M : List (List Nat)} (h : Sq n M) (hn : n ≤ 40) : ∀ r ∈ tn M, r.length ≤ 9223372036854775807 := fun r hr => by
  obtain ⟨i, hi, rfl⟩ := List.getElem_of_mem hr
  have e : (tn M)[i] = (tn M).getD i [] := by rw [List.getD_eq_getElem?_getD, List.getElem?_eq_getElem hi]; rfl
  rw [e, tn_get, nl_len]
  rw [tn_len, h.len] at hi
  rw [h.row i hi]; omega
theorem La.chk {n : Nat} {M J : List (List Nat)} (h : La n M J) : AC Tryd.prog 129 [latA n (tn M) (tn J)] [] (.val (.int .i64 0)) [] := by
  have := LCheck_ac n (tn M) (tn J) (len_tn h.sM h.n2) (len_tn h.sJ h.n2) (row_tn h.sM h.n2) (row_tn h.sJ h.n2)
  rw [h.zero] at this
  exact this
/-- The numbers of the irreducible ones that are x, or below it, of the first k. -/
def psT (n : Nat) (M : List (List Nat)) (x : Nat) : Nat → Nat
  | 0 => 0
  | k + 1 => if ta M ((irT n M n).getD k 0) x = (irT n M n).getD k 0 then psT n M x k + 2 ^ k else psT n M x k
end Go.Proofs.YtbgecpjlopdkfaaDoor
