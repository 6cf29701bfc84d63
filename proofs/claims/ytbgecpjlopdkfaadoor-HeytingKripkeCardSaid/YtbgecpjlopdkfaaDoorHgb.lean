import Derived.Test.YtbgecpjlopdkfaaDoorHga
import Derived.Test.YtbgecpjlopdkfaaDoorHeb
set_option linter.unusedSimpArgs false
set_option linter.unusedVariables false
set_option linter.unusedSectionVars false
set_option maxRecDepth 20000
namespace Go.Proofs.YtbgecpjlopdkfaaDoor
attribute [local irreducible] QOp aL aC qL
/-- With a point it has all above it. -/
def upB (n : Nat) (ns : List Nat) (s : Nat) : Bool := (List.range n).all fun p => decide (ns.getD p 0 &&& s = 0) || s.testBit p
def bdS (n : Nat) (x : Int) : Bool := decide (x < 0 ∨ ((2 ^ n : Nat) : Int) ≤ x)
/-- What is wrong with what Forces is handed, behind the formula. -/
def fcE (n : Nat) (ns : List Nat) (vars : List Int) (p : Int) : Int := if vars.length ≠ 3 then 1 else if p < 0 ∨ (n : Int) ≤ p ∨ vars.any (bdS n) = true then 3 else if (vars.any fun x => !upB n ns x.toNat) = true then 4 else 0
section
variable {n : Nat} {ns : List Nat} (hn : n ≤ 10) (hv : Vld n ns)
include hn hv
set_option maxRecDepth 20000 in
set_option maxHeartbeats 4000000 in
theorem upS_ac (s : Nat) (hs : s < 2 ^ n) : AC Tryd.prog 84 [ordv n (nl ns), .val (.int .i64 (s : Nat))] [] (.val (.bool (upB n ns s))) [] := by
  have hpn : 2 ^ n ≤ 1024 := Nat.pow_le_pow_right (n := 2) (by decide) hn
  have hl : ns.length = n := hv.1
  have hnl : (nl ns).length = n := by rw [nl_len]; exact hl
  have hbl := bel_lt hn hv
  have hyes : (∀ p, p < n → ns.getD p 0 &&& s = 0 ∨ s.testBit p = true) → upB n ns s = true := fun h => List.all_eq_true.2 fun p hp => by
    rcases h p (List.mem_range.1 hp) with e | e
    · rw [decide_eq_true e, Bool.true_or]
    · rw [e, Bool.or_true]
  have hno : ∀ p, p < n → ns.getD p 0 &&& s ≠ 0 → s.testBit p = false → upB n ns s = false := fun p hp h1 h2 => by
    rw [Bool.eq_false_iff]
    intro hq
    have := List.all_eq_true.1 hq p (List.mem_range.2 hp)
    rw [decide_eq_false h1, h2] at this
    cases this
  have hbz := fun p => bit_zero s p
  generalize upB n ns s = U at *
  refine AC.mk (n := 27) (fn := Tryd.f84) Tryd.func84 (by kernel_rfl) rfl rfl rfl rfl (fun cx => ?_); dsimp only [argv, Nat.reduceAdd]
  (repeat' (first | refine a_seq ?_ | refine a_block ?_ | refine a_region ?_ | refine l_nil ?_ | (apply w_q; (focus (first | exact Q_move (by conv => lhs; whnf) | exact Q_assign (by conv => lhs; whnf) | exact Q_fieldAddr_ptr rfl KFl.h | exact Q_load_ptr rfl rfl rfl KSc.h | exact Q_len_nats rfl KSl.h)); (focus exact rfl)) | refine w_box rfl rfl (by first|(dsimp only[obA,obB,obD,obE,obF,obG,obI,List.map,AO.sh,AV.sh,AV.shl,Nat.reduceAdd];done)|exact rfl) (by first|(dsimp only[obA,obB,obD,obE,obF,obG,obI,List.map,AO.sh,AV.sh,AV.shl,Nat.reduceAdd];done)|exact rfl) rfl ?_)); (try all_goals (try show retA _ _ _ _ _ _ _))
  all_goals first
    | (exfalso; omega)
    | skip
  refine w_loop (X := Nat) [1, 8, 9] (by simp only [keepv, getv_cons, Nat.reduceEqDiff, ↓reduceIte]; exact rfl) (fun p => [(10, .val (.int .i64 (p : Nat)))]) (fun _ => [.box [.val (.int .i64 n), ints (nl ns)]]) (fun p => p ≤ n ∧ ∀ q, q < p → ns.getD q 0 &&& s = 0 ∨ s.testBit q = true) (fun p => n - p) (0) ([0]) ?_ ?_ rfl ?_ <;> (try dsimp only [List.cons_append, List.nil_append])
  · exact ⟨Nat.zero_le _, fun _ h => by omega⟩
  · (refine St.le_mk rfl (VwOs.mk (by decide) ?_) ?_ <;> (repeat' (first | exact trivial | exact vwR rfl | exact Vw.ro _ | refine VwO.box' ?_ | refine ⟨⟨_, rfl, ?_⟩, ?_⟩ | refine ⟨?_, ?_⟩ )))
  rintro p ⟨hp, hall⟩
  by_cases hpn' : p < n
  · have h1 := hbl p
    have h2 := hno p hpn'
    have h3 := hbz p
    clear hbz hno hyes
    generalize hbq : ns.getD p 0 = bq at *
    have hcs : (bq &&& s = 0) ∨ (bq &&& s ≠ 0 ∧ s.testBit p = true) ∨ (bq &&& s ≠ 0 ∧ s.testBit p = false) := by
      by_cases h : bq &&& s = 0
      · exact .inl h
      · cases hb : s.testBit p
        · exact .inr (.inr ⟨h, rfl⟩)
        · exact .inr (.inl ⟨h, rfl⟩)
    rcases hcs with hc | ⟨hc, hd⟩ | ⟨hc, hd⟩
    · (repeat' (first | refine a_seq ?_ | refine a_block ?_ | refine a_skip ?_ | refine a_region ?_ | refine l_nil ?_ | (apply w_q; (focus (first | exact Q_move (by conv => lhs; whnf) | exact Q_assign (by conv => lhs; whnf) | exact Q_lss rfl rfl | exact Q_neq rfl rfl | exact Q_add rfl rfl (by omega) | exact Q_ix_nats rfl rfl rfl KSl.h (by omega) | exact Q_ld_nats rfl (by omega) KSc.h | exact Q_pick_f rfl (by assumption) (by conv => lhs; whnf))); (focus exact rfl)) | (refine a_cond rfl ?_ ?_ <;> (intro h; (try (have hp := of_decide_eq_true h)); (try (have hp := of_decide_eq_false h)); (try contradiction); (try (exfalso; omega)))) | refine w_guard_n rfl rfl rfl (by first | assumption | rfl) ?_ | (refine w_guard rfl rfl rfl ?_ ?_ <;> (intro h; (try (have hp := of_decide_eq_true h)); (try (have hp := of_decide_eq_false h)); (try contradiction); (try (exfalso; omega)))) | (((first | apply w_q); (focus exact Q_andN (m := bq) (n := s) (by first | rfl | (rw [← hbq]; rfl)) rfl (by omega) (by omega)); (focus exact rfl))))); (try all_goals (try show retA _ _ _ _ _ _ _))
      all_goals first
        | (exfalso; omega)
        | (exfalso; simp_all; done)
        | (try dsimp only [thenA, blockA]
           refine ⟨p + 1, [0], ?_, ?_, ?_, rfl⟩ <;> (try dsimp only)
           · refine ⟨by omega, fun q hq => ?_⟩
             by_cases e : q = p
             · subst e; rw [hbq]; exact .inl hc
             · exact hall q (by omega)
           · omega
           · (refine St.le_mk rfl (VwOs.mk (by decide) ?_) ?_ <;> (repeat' (first | exact trivial | exact vwR rfl | exact Vw.ro _ | refine VwO.box' ?_ | refine ⟨⟨_, rfl, ?_⟩, ?_⟩ | refine ⟨?_, ?_⟩ ))))
        | (all_goals trace_state); fail
    · rw [hd] at h3
      have h4 := of_decide_eq_false h3
      (repeat' (first | refine a_seq ?_ | refine a_block ?_ | refine a_skip ?_ | refine a_region ?_ | refine l_nil ?_ | (apply w_q; (focus (first | exact Q_move (by conv => lhs; whnf) | exact Q_assign (by conv => lhs; whnf) | exact Q_lss rfl rfl | exact Q_eql rfl rfl | exact Q_neq rfl rfl | exact Q_add rfl rfl (by omega) | exact Q_shrN rfl rfl (by omega) | exact Q_and1 rfl rfl | exact Q_ix_nats rfl rfl rfl KSl.h (by omega) | exact Q_ld_nats rfl (by omega) KSc.h | exact Q_pick_t rfl (by assumption) (by conv => lhs; whnf))); (focus exact rfl)) | (refine a_cond rfl ?_ ?_ <;> (intro h; (try (have hp := of_decide_eq_true h)); (try (have hp := of_decide_eq_false h)); (try contradiction); (try (exfalso; omega)))) | refine w_guard_y rfl rfl rfl (by first | assumption | rfl) ?_ | (refine w_guard rfl rfl rfl ?_ ?_ <;> (intro h; (try (have hp := of_decide_eq_true h)); (try (have hp := of_decide_eq_false h)); (try contradiction); (try (exfalso; omega)))) | (((first | apply w_q); (focus exact Q_andN (m := bq) (n := s) (by first | rfl | (rw [← hbq]; rfl)) rfl (by omega) (by omega)); (focus exact rfl))))); (try all_goals (try show retA _ _ _ _ _ _ _))
      all_goals first
        | (exfalso; omega)
        | (exfalso; simp_all; done)
        | (try dsimp only [thenA, blockA]
           refine ⟨p + 1, [0], ?_, ?_, ?_, rfl⟩ <;> (try dsimp only)
           · refine ⟨by omega, fun q hq => ?_⟩
             by_cases e : q = p
             · subst e; exact .inr hd
             · exact hall q (by omega)
           · omega
           · (refine St.le_mk rfl (VwOs.mk (by decide) ?_) ?_ <;> (repeat' (first | exact trivial | exact vwR rfl | exact Vw.ro _ | refine VwO.box' ?_ | refine ⟨⟨_, rfl, ?_⟩, ?_⟩ | refine ⟨?_, ?_⟩ ))))
        | (all_goals trace_state); fail
    · rw [hd] at h3
      have h4 := of_decide_eq_true h3
      rw [h2 hc hd]
      (repeat' (first | refine a_seq ?_ | refine a_block ?_ | refine a_skip ?_ | refine a_ret ?_ | refine a_region ?_ | refine l_nil ?_ | (apply w_q; (focus (first | exact Q_move (by conv => lhs; whnf) | exact Q_assign (by conv => lhs; whnf) | exact Q_lss rfl rfl | exact Q_eql rfl rfl | exact Q_neq rfl rfl | exact Q_shrN rfl rfl (by omega) | exact Q_and1 rfl rfl | exact Q_ix_nats rfl rfl rfl KSl.h (by omega) | exact Q_ld_nats rfl (by omega) KSc.h | exact Q_pick_t rfl (by assumption) (by conv => lhs; whnf))); (focus exact rfl)) | (refine a_cond rfl ?_ ?_ <;> (intro h; (try (have hp := of_decide_eq_true h)); (try (have hp := of_decide_eq_false h)); (try contradiction); (try (exfalso; omega)))) | refine w_guard_y rfl rfl rfl (by first | assumption | rfl) ?_ | (refine w_guard rfl rfl rfl ?_ ?_ <;> (intro h; (try (have hp := of_decide_eq_true h)); (try (have hp := of_decide_eq_false h)); (try contradiction); (try (exfalso; omega)))) | (((first | apply w_q); (focus exact Q_andN (m := bq) (n := s) (by first | rfl | (rw [← hbq]; rfl)) rfl (by omega) (by omega)); (focus exact rfl))))); (try all_goals (try show retA _ _ _ _ _ _ _))
      all_goals first
        | (exfalso; omega)
        | (exfalso; simp_all; done)
        | (refine ⟨[_], [], ⟨resV_tmp (by conv => lhs; whnf), trivial⟩, VwOs.mk (by decide) trivial, ?_, rfl⟩; (repeat' (first | exact vwR rfl)); done)
        | (all_goals trace_state); fail
  · rw [hyes fun q hq => hall q (by omega)]
    (repeat' (first | refine a_seq ?_ | refine a_ret ?_ | refine a_exit ?_ | refine a_region ?_ | refine l_nil ?_ | (apply w_q; (focus (first | exact Q_assign (by conv => lhs; whnf) | exact Q_lss rfl rfl)); (focus exact rfl)) | (refine a_cond rfl ?_ ?_ <;> (intro h; (try (have hp := of_decide_eq_true h)); (try (have hp := of_decide_eq_false h)); (try contradiction); (try (exfalso; omega)))))); (try all_goals (try show retA _ _ _ _ _ _ _))
    all_goals first
      | (exfalso; omega)
      | (refine ⟨[_], [], ⟨resV_tmp (by conv => lhs; whnf), trivial⟩, VwOs.mk (by decide) trivial, ?_, rfl⟩; (repeat' (first | exact vwR rfl)); done)
      | (all_goals trace_state); fail
set_option maxRecDepth 20000 in
theorem frcA_ac (x : Int) : AC Tryd.prog 82 [.val (.int .i64 x), .rpt [.val (.int .i64 n), .sl 1 (intc (nl ns))] 0] [] (.val (.bool (bdS n x))) [] := by
  have hpn : 2 ^ n ≤ 1024 := Nat.pow_le_pow_right (n := 2) (by decide) hn
  have hpp := Nat.two_pow_pos n
  unfold bdS
  rcases (show x < 0 ∨ 0 ≤ x by omega) with h | h
  · rw [decide_eq_true (show x < 0 ∨ ((2 ^ n : Nat) : Int) ≤ x from .inl h)]
    generalize 2 ^ n = p2 at *
    refine AC.mk (n := 13) (fn := Tryd.f82) Tryd.func82 (by kernel_rfl) rfl rfl rfl rfl (fun cx => ?_); dsimp only [argv, Nat.reduceAdd]
    (repeat' (first | refine a_seq ?_ | refine a_ret ?_ | refine a_region ?_ | refine l_nil ?_ | (apply w_q; (focus (first | exact Q_move (by conv => lhs; whnf) | exact Q_assign (by conv => lhs; whnf) | exact Q_lss rfl rfl | exact Q_pick_t rfl (by assumption) (by conv => lhs; whnf))); (focus exact rfl)) | refine w_guard_n rfl rfl rfl (by first | assumption | rfl) ?_ | (refine w_guard rfl rfl rfl ?_ ?_ <;> (intro h; (try (have hp := of_decide_eq_true h)); (try (have hp := of_decide_eq_false h)); (try contradiction); (try (exfalso; omega)))))); (try all_goals (try show retA _ _ _ _ _ _ _))
    all_goals first
      | (exfalso; omega)
      | (refine ⟨[_], [], ⟨resV_tmp (by conv => lhs; whnf), trivial⟩, VwOs.mk (by decide) trivial, ?_, rfl⟩; (repeat' (first | exact vwR rfl)); done)
      | (all_goals trace_state); fail
  · obtain ⟨m, rfl⟩ := Int.eq_ofNat_of_zero_le h
    have hq : m / 2 ^ n = 0 ↔ m < 2 ^ n := by
      rw [Nat.div_eq_zero_iff]
      omega
    have ht : decide ((m : Int) < 0 ∨ ((2 ^ n : Nat) : Int) ≤ (m : Int)) = decide (((m / 2 ^ n : Nat) : Int) ≠ 0) := by
      refine decide_eq_decide.2 ?_
      have : ((m / 2 ^ n : Nat) : Int) ≠ 0 ↔ ¬ m / 2 ^ n = 0 := by
        generalize m / 2 ^ n = q
        omega
      rw [this, hq]
      generalize 2 ^ n = p2
      omega
    rw [ht]
    clear ht hq
    refine AC.mk (n := 13) (fn := Tryd.f82) Tryd.func82 (by kernel_rfl) rfl rfl rfl rfl (fun cx => ?_); dsimp only [argv, Nat.reduceAdd]
    (repeat' (first | refine a_seq ?_ | refine a_ret ?_ | refine a_region ?_ | refine l_nil ?_ | (apply w_q; (focus (first | exact Q_move (by conv => lhs; whnf) | exact Q_assign (by conv => lhs; whnf) | exact Q_fieldAddr_rpt rfl KFl.h | exact Q_lss rfl rfl | exact Q_neq rfl rfl | exact Q_shrN rfl rfl (by omega) | exact Q_ld_rv rfl rfl KSc.h | exact Q_pick_f rfl rfl (by conv => lhs; whnf))); (focus exact rfl)) | refine w_guard_y rfl rfl rfl (by first | assumption | rfl) ?_)); (try all_goals (try show retA _ _ _ _ _ _ _))
    all_goals first
      | (exfalso; omega)
      | (refine ⟨[_], [], ⟨resV_tmp (by conv => lhs; whnf), trivial⟩, VwOs.mk (by decide) trivial, ?_, rfl⟩; (repeat' (first | exact vwR rfl)); done)
      | (refine ⟨[_], [], ⟨resV_tmp (by conv => lhs; whnf), trivial⟩, VwOs.mk (by decide) trivial, ?_, rfl⟩; exact Vw.bool' (by simp_all))
      | (all_goals trace_state); fail
theorem frcB_ac (s : Nat) (hs : s < 2 ^ n) : AC Tryd.prog 83 [.val (.int .i64 (s : Nat)), .rpt [.val (.int .i64 n), .sl 1 (intc (nl ns))] 0] [] (.val (.bool (!upB n ns s))) [] := by
  have k := upS_ac hn hv s hs
  generalize upB n ns s = b at *
  refine AC.mk (n := 8) (fn := Tryd.f83) Tryd.func83 (by kernel_rfl) rfl rfl rfl rfl (fun cx => ?_); dsimp only [argv, Nat.reduceAdd]
  (repeat' (first | refine a_seq ?_ | refine a_ret ?_ | refine a_region ?_ | refine l_nil ?_ | (apply w_q; (focus (first | exact Q_move (by conv => lhs; whnf) | exact Q_assign (by conv => lhs; whnf) | exact Q_ld_rpa rfl KAg.h rfl rfl (by first | (dsimp only [List.drop_zero, List.drop_succ_cons, List.take_succ_cons, List.take_zero, List.map, ofD]; done) | exact rfl) | exact Q_not rfl)); (focus exact rfl)) | (((first | apply w_q); (focus (refine Q_call (.inl ⟨rfl, rfl⟩) (k) ?_; ((repeat' (first | exact trivial | exact vwR rfl | exact vwRL rfl | exact Vw.ro _ | refine Vw.agg' ?_ | refine ⟨?_, ?_⟩ )); done))); (focus exact rfl))))); (try all_goals (try show retA _ _ _ _ _ _ _))
  all_goals first
    | (exfalso; omega)
    | (refine ⟨[_], [], ⟨resV_tmp (by conv => lhs; whnf), trivial⟩, VwOs.mk (by decide) trivial, ?_, rfl⟩; (repeat' (first | exact vwR rfl)); done)
    | (all_goals trace_state); fail
end
end Go.Proofs.YtbgecpjlopdkfaaDoor
