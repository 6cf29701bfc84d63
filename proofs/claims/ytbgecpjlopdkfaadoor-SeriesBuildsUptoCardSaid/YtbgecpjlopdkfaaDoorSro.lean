import Derived.Test.YtbgecpjlopdkfaaDoorSra
import Derived.Test.YtbgecpjlopdkfaaDoorFkb
import Derived.Test.YtbgecpjlopdkfaaDoorEngT
set_option linter.unusedSimpArgs false
set_option linter.unusedVariables false
set_option linter.unusedSectionVars false
set_option maxRecDepth 20000
namespace Go.Proofs.YtbgecpjlopdkfaaDoor
attribute [local irreducible] QOp aL aC qL
def wnZ (i k : Nat) : Bool := (decide (i = 0) && decide (k = 2)) || (decide (i = 1) && decide (2 ≤ k))
def zgG (ns L : List Nat) (i k : Nat) : Bool := decide (i = k) || (!decide (L.getD i 0 = L.getD k 0) && (lt ns (L.getD i 0) (L.getD k 0) == wnZ i k))
def zgA (ns L : List Nat) : Bool := (List.range L.length).all fun i => (List.range L.length).all fun k => zgG ns L i k
theorem zgA_no {ns L : List Nat} {i k : Nat} (hi : i < L.length) (hk : k < L.length) (h : zgG ns L i k = false) : zgA ns L = false := by
  cases hz : zgA ns L
  · rfl
  · unfold zgA at hz
    rw [List.all_eq_true] at hz
    have h1 := hz i (List.mem_range.2 hi)
    rw [List.all_eq_true] at h1
    rw [h1 k (List.mem_range.2 hk)] at h; cases h
theorem zgA_yes {ns L : List Nat} (h : ∀ i, i < L.length → ∀ k, k < L.length → zgG ns L i k = true) : zgA ns L = true := by
  unfold zgA
  rw [List.all_eq_true]
  intro i hi
  rw [List.all_eq_true]
  exact fun k hk => h i (List.mem_range.1 hi) k (List.mem_range.1 hk)
set_option maxRecDepth 20000 in
set_option maxHeartbeats 4000000 in
theorem zig_ac (n : Nat) (ns L : List Nat) (hn : ns.length = n) (hn10 : n ≤ 10) (hl : L.length ≤ 100) (hL : ∀ j, j < L.length → L.getD j 0 < n) : AC Tryd.prog 53 [ordv n (nl ns), ints (nl L)] [] (.val (.bool (zgA ns L))) [] := by
  have hnl : (nl L).length = L.length := by simp [nl]
  refine AC.mk (n := 56) (fn := Tryd.f53) Tryd.func53 (by kernel_rfl) rfl rfl rfl rfl (fun cx => ?_); dsimp only [argv, Nat.reduceAdd]
  (repeat' (first | refine a_seq ?_ | refine a_region ?_ | refine l_nil ?_ | (apply w_q; (focus (first | exact Q_assign (by conv => lhs; whnf))); (focus exact rfl)) | refine w_box rfl rfl (by first|(dsimp only[obA,obB,obD,obE,obF,obG,obI,List.map,AO.sh,AV.sh,AV.shl,Nat.reduceAdd];done)|exact rfl) (by first|(dsimp only[obA,obB,obD,obE,obF,obG,obI,List.map,AO.sh,AV.sh,AV.shl,Nat.reduceAdd];done)|exact rfl) rfl ?_)); (try all_goals (try show retA _ _ _ _ _ _ _))
  refine w_freezeB 0 [.val (.int .i64 n), .sl 1 (intc (nl ns))] rfl rfl (by simp only [fbv_nil, fbv_cons, fbl_nil, fbl_cons, fbo_nil, fbo_cons, fbo_box, fbo_row, fbo_gone, fb_own, fb_val, fb_ro, fb_rpt, fb_ptr, fb_ept, fb_agg, fb_tup, fb_clo, fb_ints, fb_rows, fb_pairs, fb_ords, Nat.reduceEqDiff, ↓reduceIte, List.set_cons_zero, List.set_cons_succ]; exact rfl) (by simp only [fbv_nil, fbv_cons, fbl_nil, fbl_cons, fbo_nil, fbo_cons, fbo_box, fbo_row, fbo_gone, fb_own, fb_val, fb_ro, fb_rpt, fb_ptr, fb_ept, fb_agg, fb_tup, fb_clo, fb_ints, fb_rows, fb_pairs, fb_ords, Nat.reduceEqDiff, ↓reduceIte, List.set_cons_zero, List.set_cons_succ]; exact rfl) ?_
  (repeat' (first | refine a_block ?_ | refine l_nil ?_ | (apply w_q; (focus (first | exact Q_move (by conv => lhs; whnf) | exact Q_len_nats rfl KSl.h)); (focus exact rfl)))); (try all_goals (try show retA _ _ _ _ _ _ _))
  refine w_loop (X := Nat) [1, 2, 10, 11] (by simp only [keepv, getv_cons, Nat.reduceEqDiff, ↓reduceIte]; exact rfl) (fun i => [(12, .val (.int .i64 (i : Nat)))]) (fun _ => []) (fun i => i ≤ L.length ∧ ∀ i', i' < i → ∀ k, k < L.length → zgG ns L i' k = true) (fun i => L.length - i) (0) ([]) ?_ ?_ rfl ?_ <;> (try dsimp only [List.cons_append, List.nil_append])
  · exact ⟨Nat.zero_le _, fun _ h => absurd h (Nat.not_lt_zero _)⟩
  · (refine St.le_mk rfl (VwOs.mk (by decide) ?_) ?_ <;> (repeat' (first | exact trivial | exact vwR rfl | exact Vw.ro _ | refine ⟨?_, ?_⟩ )))
  rintro i ⟨i1, i2⟩
  by_cases hi : i < L.length
  · have ex : (nl L).getD i 0 = ((L.getD i 0 : Nat) : Int) := by rw [nl_get]
    have hx := hL i hi
    (repeat' (first | refine a_seq ?_ | refine a_block ?_ | refine a_skip ?_ | refine a_region ?_ | refine l_nil ?_ | (apply w_q; (focus (first | exact Q_move (by conv => lhs; whnf) | exact Q_assign (by conv => lhs; whnf) | exact Q_lss rfl rfl | exact Q_ix_nats rfl rfl rfl KSl.h (by omega) | exact Q_ld_nats rfl (by omega) KSc.h | exact Q_len_nats rfl KSl.h)); (focus exact rfl)) | (refine a_cond rfl ?_ ?_ <;> (intro h; (try (have hp := of_decide_eq_true h)); (try (have hp := of_decide_eq_false h)); (try contradiction); (try (exfalso; omega)))))); (try all_goals (try show retA _ _ _ _ _ _ _))
    all_goals first
      | (exfalso; omega)
      | skip
    refine w_loop (X := Nat) [1, 2, 5, 6, 10, 11, 12, 17, 18] (by simp only [keepv, getv_cons, Nat.reduceEqDiff, ↓reduceIte]; exact rfl) (fun k => [(19, .val (.int .i64 (k : Nat)))]) (fun _ => []) (fun k => k ≤ L.length ∧ ∀ k', k' < k → zgG ns L i k' = true) (fun k => L.length - k) (0) ([]) ?_ ?_ rfl ?_ <;> (try dsimp only [List.cons_append, List.nil_append])
    · exact ⟨Nat.zero_le _, fun _ h => absurd h (Nat.not_lt_zero _)⟩
    · (refine St.le_mk rfl (VwOs.mk (by decide) ?_) ?_ <;> (repeat' (first | exact trivial | exact vwR rfl | exact Vw.ro _ | refine ⟨?_, ?_⟩ )))
    rintro k ⟨k1, k2⟩
    by_cases hk : k < L.length
    · have hy := hL k hk
      have kL := Lower_ac n ns (L.getD i 0) (L.getD k 0) (by omega) (by omega)
      have hno := zgA_no (ns := ns) hi hk
      have hG : zgG ns L i k = (decide (i = k) || (!decide (L.getD i 0 = L.getD k 0) && ((ns.getD (L.getD k 0) 0).testBit (L.getD i 0) == wnZ i k))) := rfl
      generalize (ns.getD (L.getD k 0) 0).testBit (L.getD i 0) = v at *
      (repeat' (first | refine a_seq ?_ | refine a_block ?_ | refine a_skip ?_ | refine a_ret ?_ | refine a_region ?_ | refine l_nil ?_ | (apply w_q; (focus (first | exact Q_move (by conv => lhs; whnf) | exact Q_assign (by conv => lhs; whnf) | exact Q_lss rfl rfl | exact Q_geq rfl rfl | exact Q_eql rfl rfl | exact Q_neq rfl rfl | exact Q_neqB rfl rfl KBo.h | exact Q_add rfl rfl (by omega) | exact Q_ix_nats rfl rfl rfl KSl.h (by omega) | exact Q_ld_rpa rfl KAg.h rfl rfl (by first | (dsimp only [List.drop_zero, List.drop_succ_cons, List.take_succ_cons, List.take_zero, List.map, ofD]; done) | exact rfl) | exact Q_ld_nats rfl (by omega) KSc.h | exact Q_pick_t rfl (by assumption) (by conv => lhs; whnf) | exact Q_pick_f rfl (by assumption) (by conv => lhs; whnf) | exact Q_pick_f rfl rfl (by conv => lhs; whnf))); (focus exact rfl)) | (refine a_cond rfl ?_ ?_ <;> (intro h; (try (have hp := of_decide_eq_true h)); (try (have hp := of_decide_eq_false h)); (try contradiction); (try (exfalso; omega)))) | refine w_guard_u rfl rfl rfl ?_ | refine w_guard_y rfl rfl rfl (by first | assumption | rfl) ?_ | refine w_guard_n rfl rfl rfl (by first | assumption | rfl) ?_ | (refine w_guard rfl rfl rfl ?_ ?_ <;> (intro h; (try (have hp := of_decide_eq_true h)); (try (have hp := of_decide_eq_false h)); (try contradiction); (try (exfalso; omega)))) | (((first | apply w_q); (focus (refine Q_call (.inl ⟨rfl, rfl⟩) (kL) ?_; ((repeat' (first | exact trivial | exact vwR rfl | exact vwRL rfl | exact Vw.ro _ | refine Vw.agg' ?_ | refine ⟨?_, ?_⟩ )); done))); (focus exact rfl))))); (try all_goals (try show retA _ _ _ _ _ _ _))
      all_goals first
        | (exfalso; omega)
        | (rw [hno (by
             clear i2 k2 kL hL hnl ex hno hn
             rw [hG]
             clear hG
             generalize L.getD i 0 = x at *
             generalize L.getD k 0 = y at *
             unfold wnZ
             cases v <;> simp_all <;> omega)]
           dsimp only [thenA, blockA]; refine ⟨[_], [], ⟨resV_tmp (by conv => lhs; whnf), trivial⟩, VwOs.mk (by decide) trivial, ?_, rfl⟩; (repeat' (first | exact vwR rfl)); done)
        | (have hyes : zgG ns L i k = true := by
             clear i2 k2 kL hL hnl ex hno hn
             rw [hG]
             clear hG
             generalize L.getD i 0 = x at *
             generalize L.getD k 0 = y at *
             unfold wnZ
             cases v <;> simp_all <;> omega
           dsimp only [thenA, blockA]
           refine ⟨k + 1, [], ?_, ?_, ?_, rfl⟩ <;> (try dsimp only)
           · exact ⟨by show k + 1 ≤ _; omega, fun k' hk' => by
               by_cases e : k' = k
               · subst e; exact hyes
               · exact k2 k' (by have : k' < k + 1 := hk'; omega)⟩
           · show L.length - (k + 1) < L.length - k; omega
           · (refine St.le_mk rfl (VwOs.mk (by decide) ?_) ?_ <;> (repeat' (first | exact trivial | exact vwR rfl | exact Vw.ro _ | refine ⟨?_, ?_⟩ ))))
        | (all_goals trace_state); fail
    · have hrow : ∀ i', i' < i + 1 → ∀ k, k < L.length → zgG ns L i' k = true := fun i' hi' k hk' => by
        by_cases e : i' = i
        · subst e; exact k2 k (by omega)
        · exact i2 i' (by omega) k hk'
      (repeat' (first | refine a_seq ?_ | refine a_exit ?_ | refine a_region ?_ | refine l_nil ?_ | (apply w_q; (focus (first | exact Q_move (by conv => lhs; whnf) | exact Q_lss rfl rfl | exact Q_add rfl rfl (by omega))); (focus exact rfl)) | (refine a_cond rfl ?_ ?_ <;> (intro h; (try (have hp := of_decide_eq_true h)); (try (have hp := of_decide_eq_false h)); (try contradiction); (try (exfalso; omega)))))); (try all_goals (try show retA _ _ _ _ _ _ _))
      all_goals first
        | (exfalso; omega)
        | (try dsimp only [thenA, blockA]
           refine ⟨i + 1, [], ?_, ?_, ?_, rfl⟩ <;> (try dsimp only)
           · exact ⟨by show i + 1 ≤ _; omega, hrow⟩
           · show L.length - (i + 1) < L.length - i; omega
           · (refine St.le_mk rfl (VwOs.mk (by decide) ?_) ?_ <;> (repeat' (first | exact trivial | exact vwR rfl | exact Vw.ro _ | refine ⟨?_, ?_⟩ ))))
        | (all_goals trace_state); fail
  · have hall := zgA_yes (ns := ns) (L := L) fun i' hi' k hk' => i2 i' (by omega) k hk'
    rw [hall]
    (repeat' (first | refine a_seq ?_ | refine a_ret ?_ | refine a_exit ?_ | refine a_region ?_ | refine l_nil ?_ | (apply w_q; (focus (first | exact Q_assign (by conv => lhs; whnf) | exact Q_lss rfl rfl)); (focus exact rfl)) | (refine a_cond rfl ?_ ?_ <;> (intro h; (try (have hp := of_decide_eq_true h)); (try (have hp := of_decide_eq_false h)); (try contradiction); (try (exfalso; omega)))))); (try all_goals (try show retA _ _ _ _ _ _ _))
    all_goals first
      | (exfalso; omega)
      | (refine ⟨[_], [], ⟨resV_tmp (by conv => lhs; whnf), trivial⟩, VwOs.mk (by decide) trivial, ?_, rfl⟩; (repeat' (first | exact vwR rfl)); done)
      | (all_goals trace_state); fail
end Go.Proofs.YtbgecpjlopdkfaaDoor
