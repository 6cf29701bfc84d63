import Derived.Test.YtbgecpjlopdkfaaDoorSrg
import Derived.Test.YtbgecpjlopdkfaaDoorEngZzh
import Derived.Test.YtbgecpjlopdkfaaDoorEngZd
import Derived.Test.YtbgecpjlopdkfaaDoorEngZf
import Derived.Test.YtbgecpjlopdkfaaDoorGr
set_option linter.unusedSimpArgs false
set_option linter.unusedVariables false
set_option linter.unusedSectionVars false
set_option maxRecDepth 20000
namespace Go.Proofs.YtbgecpjlopdkfaaDoor
attribute [local irreducible] QOp aL aC qL
theorem iLen64_s0 : AC Tryd.prog 143 [.val (.int .u64 ((0 : Nat) : Int))] [] (.val (.int .i64 ((0 : Nat) : Int))) [] := by
  refine AC.mk (n := 25) (fn := Tryd.f143) Tryd.func143 (by kernel_rfl) rfl rfl rfl rfl (fun cx => ?_); dsimp only [argv, Nat.reduceAdd]
  (repeat' (first | refine a_seq ?_ | refine a_skip ?_ | refine a_ret ?_ | refine a_region ?_ | refine l_nil ?_ | (apply w_q; (focus (first | exact Q_move (by conv => lhs; whnf) | exact Q_assign (by conv => lhs; whnf) | exact Q_add rfl rfl (by omega))); (focus exact rfl)) | (refine a_cond rfl ?_ ?_ <;> (intro h; (try (have hp := of_decide_eq_true h)); (try (have hp := of_decide_eq_false h)); (try contradiction); (try (exfalso; omega)))) | (((first | apply w_q); (focus exact Q_ugeq rfl rfl); (focus exact rfl))) | (((first | apply w_q); (focus exact Q_conv (n := ((0 : Nat) : Int)) rfl Tryd.underlying158 Tryd.underlying5 rfl); (focus exact rfl))) | (((first | apply w_q); (focus exact Q_ixStr (b := 0) (i := 0) rfl rfl rfl (by kernel_rfl)); (focus exact rfl))) | (((first | apply w_q); (focus exact Q_conv (n := ((0 : Nat) : Int)) rfl Tryd.underlying5 Tryd.underlying3 rfl); (focus exact rfl))))); (try all_goals (try show retA _ _ _ _ _ _ _))
  all_goals first
    | (exfalso; omega)
    | (refine ⟨[_], [], ⟨resV_tmp (by conv => lhs; whnf), trivial⟩, VwOs.mk (by decide) trivial, ?_, rfl⟩; (repeat' (first | exact vwR rfl)); done)
    | (all_goals trace_state); fail
theorem iLen64_s1 : AC Tryd.prog 143 [.val (.int .u64 ((1 : Nat) : Int))] [] (.val (.int .i64 ((1 : Nat) : Int))) [] := by
  refine AC.mk (n := 25) (fn := Tryd.f143) Tryd.func143 (by kernel_rfl) rfl rfl rfl rfl (fun cx => ?_); dsimp only [argv, Nat.reduceAdd]
  (repeat' (first | refine a_seq ?_ | refine a_skip ?_ | refine a_ret ?_ | refine a_region ?_ | refine l_nil ?_ | (apply w_q; (focus (first | exact Q_move (by conv => lhs; whnf) | exact Q_assign (by conv => lhs; whnf) | exact Q_add rfl rfl (by omega))); (focus exact rfl)) | (refine a_cond rfl ?_ ?_ <;> (intro h; (try (have hp := of_decide_eq_true h)); (try (have hp := of_decide_eq_false h)); (try contradiction); (try (exfalso; omega)))) | (((first | apply w_q); (focus exact Q_ugeq rfl rfl); (focus exact rfl))) | (((first | apply w_q); (focus exact Q_conv (n := ((1 : Nat) : Int)) rfl Tryd.underlying158 Tryd.underlying5 rfl); (focus exact rfl))) | (((first | apply w_q); (focus exact Q_ixStr (b := 1) (i := 1) rfl rfl rfl (by kernel_rfl)); (focus exact rfl))) | (((first | apply w_q); (focus exact Q_conv (n := ((1 : Nat) : Int)) rfl Tryd.underlying5 Tryd.underlying3 rfl); (focus exact rfl))))); (try all_goals (try show retA _ _ _ _ _ _ _))
  all_goals first
    | (exfalso; omega)
    | (refine ⟨[_], [], ⟨resV_tmp (by conv => lhs; whnf), trivial⟩, VwOs.mk (by decide) trivial, ?_, rfl⟩; (repeat' (first | exact vwR rfl)); done)
    | (all_goals trace_state); fail
theorem iLen64_s3 : AC Tryd.prog 143 [.val (.int .u64 ((3 : Nat) : Int))] [] (.val (.int .i64 ((2 : Nat) : Int))) [] := by
  refine AC.mk (n := 25) (fn := Tryd.f143) Tryd.func143 (by kernel_rfl) rfl rfl rfl rfl (fun cx => ?_); dsimp only [argv, Nat.reduceAdd]
  (repeat' (first | refine a_seq ?_ | refine a_skip ?_ | refine a_ret ?_ | refine a_region ?_ | refine l_nil ?_ | (apply w_q; (focus (first | exact Q_move (by conv => lhs; whnf) | exact Q_assign (by conv => lhs; whnf) | exact Q_add rfl rfl (by omega))); (focus exact rfl)) | (refine a_cond rfl ?_ ?_ <;> (intro h; (try (have hp := of_decide_eq_true h)); (try (have hp := of_decide_eq_false h)); (try contradiction); (try (exfalso; omega)))) | (((first | apply w_q); (focus exact Q_ugeq rfl rfl); (focus exact rfl))) | (((first | apply w_q); (focus exact Q_conv (n := ((3 : Nat) : Int)) rfl Tryd.underlying158 Tryd.underlying5 rfl); (focus exact rfl))) | (((first | apply w_q); (focus exact Q_ixStr (b := 2) (i := 3) rfl rfl rfl (by kernel_rfl)); (focus exact rfl))) | (((first | apply w_q); (focus exact Q_conv (n := ((2 : Nat) : Int)) rfl Tryd.underlying5 Tryd.underlying3 rfl); (focus exact rfl))))); (try all_goals (try show retA _ _ _ _ _ _ _))
  all_goals first
    | (exfalso; omega)
    | (refine ⟨[_], [], ⟨resV_tmp (by conv => lhs; whnf), trivial⟩, VwOs.mk (by decide) trivial, ?_, rfl⟩; (repeat' (first | exact vwR rfl)); done)
    | (all_goals trace_state); fail
theorem iLen64_s4 : AC Tryd.prog 143 [.val (.int .u64 ((4 : Nat) : Int))] [] (.val (.int .i64 ((3 : Nat) : Int))) [] := by
  refine AC.mk (n := 25) (fn := Tryd.f143) Tryd.func143 (by kernel_rfl) rfl rfl rfl rfl (fun cx => ?_); dsimp only [argv, Nat.reduceAdd]
  (repeat' (first | refine a_seq ?_ | refine a_skip ?_ | refine a_ret ?_ | refine a_region ?_ | refine l_nil ?_ | (apply w_q; (focus (first | exact Q_move (by conv => lhs; whnf) | exact Q_assign (by conv => lhs; whnf) | exact Q_add rfl rfl (by omega))); (focus exact rfl)) | (refine a_cond rfl ?_ ?_ <;> (intro h; (try (have hp := of_decide_eq_true h)); (try (have hp := of_decide_eq_false h)); (try contradiction); (try (exfalso; omega)))) | (((first | apply w_q); (focus exact Q_ugeq rfl rfl); (focus exact rfl))) | (((first | apply w_q); (focus exact Q_conv (n := ((4 : Nat) : Int)) rfl Tryd.underlying158 Tryd.underlying5 rfl); (focus exact rfl))) | (((first | apply w_q); (focus exact Q_ixStr (b := 3) (i := 4) rfl rfl rfl (by kernel_rfl)); (focus exact rfl))) | (((first | apply w_q); (focus exact Q_conv (n := ((3 : Nat) : Int)) rfl Tryd.underlying5 Tryd.underlying3 rfl); (focus exact rfl))))); (try all_goals (try show retA _ _ _ _ _ _ _))
  all_goals first
    | (exfalso; omega)
    | (refine ⟨[_], [], ⟨resV_tmp (by conv => lhs; whnf), trivial⟩, VwOs.mk (by decide) trivial, ?_, rfl⟩; (repeat' (first | exact vwR rfl)); done)
    | (all_goals trace_state); fail
theorem iLen64_s5 : AC Tryd.prog 143 [.val (.int .u64 ((5 : Nat) : Int))] [] (.val (.int .i64 ((3 : Nat) : Int))) [] := by
  refine AC.mk (n := 25) (fn := Tryd.f143) Tryd.func143 (by kernel_rfl) rfl rfl rfl rfl (fun cx => ?_); dsimp only [argv, Nat.reduceAdd]
  (repeat' (first | refine a_seq ?_ | refine a_skip ?_ | refine a_ret ?_ | refine a_region ?_ | refine l_nil ?_ | (apply w_q; (focus (first | exact Q_move (by conv => lhs; whnf) | exact Q_assign (by conv => lhs; whnf) | exact Q_add rfl rfl (by omega))); (focus exact rfl)) | (refine a_cond rfl ?_ ?_ <;> (intro h; (try (have hp := of_decide_eq_true h)); (try (have hp := of_decide_eq_false h)); (try contradiction); (try (exfalso; omega)))) | (((first | apply w_q); (focus exact Q_ugeq rfl rfl); (focus exact rfl))) | (((first | apply w_q); (focus exact Q_conv (n := ((5 : Nat) : Int)) rfl Tryd.underlying158 Tryd.underlying5 rfl); (focus exact rfl))) | (((first | apply w_q); (focus exact Q_ixStr (b := 3) (i := 5) rfl rfl rfl (by kernel_rfl)); (focus exact rfl))) | (((first | apply w_q); (focus exact Q_conv (n := ((3 : Nat) : Int)) rfl Tryd.underlying5 Tryd.underlying3 rfl); (focus exact rfl))))); (try all_goals (try show retA _ _ _ _ _ _ _))
  all_goals first
    | (exfalso; omega)
    | (refine ⟨[_], [], ⟨resV_tmp (by conv => lhs; whnf), trivial⟩, VwOs.mk (by decide) trivial, ?_, rfl⟩; (repeat' (first | exact vwR rfl)); done)
    | (all_goals trace_state); fail
theorem iLen64_s6 : AC Tryd.prog 143 [.val (.int .u64 ((6 : Nat) : Int))] [] (.val (.int .i64 ((3 : Nat) : Int))) [] := by
  refine AC.mk (n := 25) (fn := Tryd.f143) Tryd.func143 (by kernel_rfl) rfl rfl rfl rfl (fun cx => ?_); dsimp only [argv, Nat.reduceAdd]
  (repeat' (first | refine a_seq ?_ | refine a_skip ?_ | refine a_ret ?_ | refine a_region ?_ | refine l_nil ?_ | (apply w_q; (focus (first | exact Q_move (by conv => lhs; whnf) | exact Q_assign (by conv => lhs; whnf) | exact Q_add rfl rfl (by omega))); (focus exact rfl)) | (refine a_cond rfl ?_ ?_ <;> (intro h; (try (have hp := of_decide_eq_true h)); (try (have hp := of_decide_eq_false h)); (try contradiction); (try (exfalso; omega)))) | (((first | apply w_q); (focus exact Q_ugeq rfl rfl); (focus exact rfl))) | (((first | apply w_q); (focus exact Q_conv (n := ((6 : Nat) : Int)) rfl Tryd.underlying158 Tryd.underlying5 rfl); (focus exact rfl))) | (((first | apply w_q); (focus exact Q_ixStr (b := 3) (i := 6) rfl rfl rfl (by kernel_rfl)); (focus exact rfl))) | (((first | apply w_q); (focus exact Q_conv (n := ((3 : Nat) : Int)) rfl Tryd.underlying5 Tryd.underlying3 rfl); (focus exact rfl))))); (try all_goals (try show retA _ _ _ _ _ _ _))
  all_goals first
    | (exfalso; omega)
    | (refine ⟨[_], [], ⟨resV_tmp (by conv => lhs; whnf), trivial⟩, VwOs.mk (by decide) trivial, ?_, rfl⟩; (repeat' (first | exact vwR rfl)); done)
    | (all_goals trace_state); fail
theorem iLen64_s7 : AC Tryd.prog 143 [.val (.int .u64 ((7 : Nat) : Int))] [] (.val (.int .i64 ((3 : Nat) : Int))) [] := by
  refine AC.mk (n := 25) (fn := Tryd.f143) Tryd.func143 (by kernel_rfl) rfl rfl rfl rfl (fun cx => ?_); dsimp only [argv, Nat.reduceAdd]
  (repeat' (first | refine a_seq ?_ | refine a_skip ?_ | refine a_ret ?_ | refine a_region ?_ | refine l_nil ?_ | (apply w_q; (focus (first | exact Q_move (by conv => lhs; whnf) | exact Q_assign (by conv => lhs; whnf) | exact Q_add rfl rfl (by omega))); (focus exact rfl)) | (refine a_cond rfl ?_ ?_ <;> (intro h; (try (have hp := of_decide_eq_true h)); (try (have hp := of_decide_eq_false h)); (try contradiction); (try (exfalso; omega)))) | (((first | apply w_q); (focus exact Q_ugeq rfl rfl); (focus exact rfl))) | (((first | apply w_q); (focus exact Q_conv (n := ((7 : Nat) : Int)) rfl Tryd.underlying158 Tryd.underlying5 rfl); (focus exact rfl))) | (((first | apply w_q); (focus exact Q_ixStr (b := 3) (i := 7) rfl rfl rfl (by kernel_rfl)); (focus exact rfl))) | (((first | apply w_q); (focus exact Q_conv (n := ((3 : Nat) : Int)) rfl Tryd.underlying5 Tryd.underlying3 rfl); (focus exact rfl))))); (try all_goals (try show retA _ _ _ _ _ _ _))
  all_goals first
    | (exfalso; omega)
    | (refine ⟨[_], [], ⟨resV_tmp (by conv => lhs; whnf), trivial⟩, VwOs.mk (by decide) trivial, ?_, rfl⟩; (repeat' (first | exact vwR rfl)); done)
    | (all_goals trace_state); fail
theorem iLen64_s8 : AC Tryd.prog 143 [.val (.int .u64 ((8 : Nat) : Int))] [] (.val (.int .i64 ((4 : Nat) : Int))) [] := by
  refine AC.mk (n := 25) (fn := Tryd.f143) Tryd.func143 (by kernel_rfl) rfl rfl rfl rfl (fun cx => ?_); dsimp only [argv, Nat.reduceAdd]
  (repeat' (first | refine a_seq ?_ | refine a_skip ?_ | refine a_ret ?_ | refine a_region ?_ | refine l_nil ?_ | (apply w_q; (focus (first | exact Q_move (by conv => lhs; whnf) | exact Q_assign (by conv => lhs; whnf) | exact Q_add rfl rfl (by omega))); (focus exact rfl)) | (refine a_cond rfl ?_ ?_ <;> (intro h; (try (have hp := of_decide_eq_true h)); (try (have hp := of_decide_eq_false h)); (try contradiction); (try (exfalso; omega)))) | (((first | apply w_q); (focus exact Q_ugeq rfl rfl); (focus exact rfl))) | (((first | apply w_q); (focus exact Q_conv (n := ((8 : Nat) : Int)) rfl Tryd.underlying158 Tryd.underlying5 rfl); (focus exact rfl))) | (((first | apply w_q); (focus exact Q_ixStr (b := 4) (i := 8) rfl rfl rfl (by kernel_rfl)); (focus exact rfl))) | (((first | apply w_q); (focus exact Q_conv (n := ((4 : Nat) : Int)) rfl Tryd.underlying5 Tryd.underlying3 rfl); (focus exact rfl))))); (try all_goals (try show retA _ _ _ _ _ _ _))
  all_goals first
    | (exfalso; omega)
    | (refine ⟨[_], [], ⟨resV_tmp (by conv => lhs; whnf), trivial⟩, VwOs.mk (by decide) trivial, ?_, rfl⟩; (repeat' (first | exact vwR rfl)); done)
    | (all_goals trace_state); fail
theorem iLen64_s9 : AC Tryd.prog 143 [.val (.int .u64 ((9 : Nat) : Int))] [] (.val (.int .i64 ((4 : Nat) : Int))) [] := by
  refine AC.mk (n := 25) (fn := Tryd.f143) Tryd.func143 (by kernel_rfl) rfl rfl rfl rfl (fun cx => ?_); dsimp only [argv, Nat.reduceAdd]
  (repeat' (first | refine a_seq ?_ | refine a_skip ?_ | refine a_ret ?_ | refine a_region ?_ | refine l_nil ?_ | (apply w_q; (focus (first | exact Q_move (by conv => lhs; whnf) | exact Q_assign (by conv => lhs; whnf) | exact Q_add rfl rfl (by omega))); (focus exact rfl)) | (refine a_cond rfl ?_ ?_ <;> (intro h; (try (have hp := of_decide_eq_true h)); (try (have hp := of_decide_eq_false h)); (try contradiction); (try (exfalso; omega)))) | (((first | apply w_q); (focus exact Q_ugeq rfl rfl); (focus exact rfl))) | (((first | apply w_q); (focus exact Q_conv (n := ((9 : Nat) : Int)) rfl Tryd.underlying158 Tryd.underlying5 rfl); (focus exact rfl))) | (((first | apply w_q); (focus exact Q_ixStr (b := 4) (i := 9) rfl rfl rfl (by kernel_rfl)); (focus exact rfl))) | (((first | apply w_q); (focus exact Q_conv (n := ((4 : Nat) : Int)) rfl Tryd.underlying5 Tryd.underlying3 rfl); (focus exact rfl))))); (try all_goals (try show retA _ _ _ _ _ _ _))
  all_goals first
    | (exfalso; omega)
    | (refine ⟨[_], [], ⟨resV_tmp (by conv => lhs; whnf), trivial⟩, VwOs.mk (by decide) trivial, ?_, rfl⟩; (repeat' (first | exact vwR rfl)); done)
    | (all_goals trace_state); fail
theorem iLen64_s10 : AC Tryd.prog 143 [.val (.int .u64 ((10 : Nat) : Int))] [] (.val (.int .i64 ((4 : Nat) : Int))) [] := by
  refine AC.mk (n := 25) (fn := Tryd.f143) Tryd.func143 (by kernel_rfl) rfl rfl rfl rfl (fun cx => ?_); dsimp only [argv, Nat.reduceAdd]
  (repeat' (first | refine a_seq ?_ | refine a_skip ?_ | refine a_ret ?_ | refine a_region ?_ | refine l_nil ?_ | (apply w_q; (focus (first | exact Q_move (by conv => lhs; whnf) | exact Q_assign (by conv => lhs; whnf) | exact Q_add rfl rfl (by omega))); (focus exact rfl)) | (refine a_cond rfl ?_ ?_ <;> (intro h; (try (have hp := of_decide_eq_true h)); (try (have hp := of_decide_eq_false h)); (try contradiction); (try (exfalso; omega)))) | (((first | apply w_q); (focus exact Q_ugeq rfl rfl); (focus exact rfl))) | (((first | apply w_q); (focus exact Q_conv (n := ((10 : Nat) : Int)) rfl Tryd.underlying158 Tryd.underlying5 rfl); (focus exact rfl))) | (((first | apply w_q); (focus exact Q_ixStr (b := 4) (i := 10) rfl rfl rfl (by kernel_rfl)); (focus exact rfl))) | (((first | apply w_q); (focus exact Q_conv (n := ((4 : Nat) : Int)) rfl Tryd.underlying5 Tryd.underlying3 rfl); (focus exact rfl))))); (try all_goals (try show retA _ _ _ _ _ _ _))
  all_goals first
    | (exfalso; omega)
    | (refine ⟨[_], [], ⟨resV_tmp (by conv => lhs; whnf), trivial⟩, VwOs.mk (by decide) trivial, ?_, rfl⟩; (repeat' (first | exact vwR rfl)); done)
    | (all_goals trace_state); fail
def blen : Nat → Nat
  | 0 => 0 | 1 => 1 | 2 => 2 | 3 => 2 | 4 => 3 | 5 => 3 | 6 => 3 | 7 => 3 | _ => 4
theorem iLen64_n (n : Nat) (h : n ≤ 10) : AC Tryd.prog 143 [.val (.int .u64 (n : Int))] [] (.val (.int .i64 (blen n : Int))) [] := by
  match n, h with
  | 0, _ => exact iLen64_s0
  | 1, _ => exact iLen64_s1
  | 2, _ => exact iLen64_2
  | 3, _ => exact iLen64_s3
  | 4, _ => exact iLen64_s4
  | 5, _ => exact iLen64_s5
  | 6, _ => exact iLen64_s6
  | 7, _ => exact iLen64_s7
  | 8, _ => exact iLen64_s8
  | 9, _ => exact iLen64_s9
  | 10, _ => exact iLen64_s10
  | n + 11, h => omega
theorem iLen_n (n : Nat) (h : n ≤ 10) : AC Tryd.prog 125 [.val (.int .u64 (n : Int))] [] (.val (.int .i64 (blen n : Int))) [] := by
  have k := iLen64_n n h
  refine AC.mk (n := 8) (fn := Tryd.f125) Tryd.func125 (by kernel_rfl) rfl rfl rfl rfl (fun cx => ?_); dsimp only [argv, Nat.reduceAdd]
  (repeat' (first | refine a_seq ?_ | refine a_skip ?_ | refine a_ret ?_ | refine a_region ?_ | refine l_nil ?_ | (apply w_q; (focus (first | exact Q_move (by conv => lhs; whnf) | exact Q_assign (by conv => lhs; whnf))); (focus exact rfl)) | (refine a_cond rfl ?_ ?_ <;> (intro h; (try (have hp := of_decide_eq_true h)); (try (have hp := of_decide_eq_false h)); (try contradiction); (try (exfalso; omega)))) | (((first | apply w_q); (focus (refine Q_call (.inl ⟨rfl, rfl⟩) (k) ?_; ((repeat' (first | exact vwRL rfl)); done))); (focus exact rfl))))); (try all_goals (try show retA _ _ _ _ _ _ _))
  all_goals first
    | (exfalso; omega)
    | (refine ⟨[_], [], ⟨resV_tmp (by conv => lhs; whnf), trivial⟩, VwOs.mk (by decide) trivial, ?_, rfl⟩; (repeat' (first | exact vwR rfl)); done)
    | (exfalso; simp_all; done)
    | (all_goals trace_state); fail
attribute [local irreducible] FOp POp hL xH
set_option maxRecDepth 20000 in
set_option maxHeartbeats 4000000 in
theorem PdqG_ac (l : List Int) (g : FuncId) (D : List Dat) (c : Int → Int → Int) (lim : Int) (hl : l.length ≤ 12) (hg : ∀ a, a ∈ l → ∀ b, b ∈ l → AC Tryd.prog g [.val (.int .i64 a), .val (.int .i64 b), .rpt D 0] [] (.val (.int .i64 (c a b))) []) :
    AC Tryd.prog 124 [.own 0, .val (.int .i64 0), .val (.int .i64 l.length), .val (.int .i64 lim), .clo g [.rpt D 0]] [.row 3 1 (intc l)] (.tup []) [.row 3 1 (intc (isF c l))] := by
  have k1 := Ins_ac l g D c (by omega) hg
  clear hg
  generalize isF c l = R at *
  refine AC.mk (n := 148) (fn := Tryd.f124) Tryd.func124 (by kernel_rfl) rfl rfl rfl rfl (fun cx => ?_); dsimp only [argv, Nat.reduceAdd]
  (repeat' (first | refine a_seq ?_ | refine a_block ?_ | refine a_region ?_ | refine l_nil ?_ | (apply w_q; (focus (first | exact Q_assign (by conv => lhs; whnf))); (focus exact rfl)))); (try all_goals (try show retA _ _ _ _ _ _ _))
  refine w_loop (X := Nat) [0, 4] (by simp only [keepv, getv_cons, Nat.reduceEqDiff, ↓reduceIte]; exact rfl) (fun i => [(1, .val (.int .i64 0)), (2, .val (.int .i64 l.length))]) (fun _ => [.row 3 1 (intc l)]) (fun _ => True) (fun _ => 0) (0) ([0]) ?_ ?_ rfl ?_ <;> (try dsimp only [List.cons_append, List.nil_append])
  · (refine St.le_mk rfl (VwOs.mk (by decide) ?_) ?_ <;> (repeat' (first | exact trivial | exact vwR rfl | exact Vw.own _ _ rfl | exact VwO.row _ _ _ | refine ⟨⟨_, rfl, ?_⟩, ?_⟩ | refine ⟨?_, ?_⟩ )))
  intro _ _
  (repeat' (first | refine a_seq ?_ | refine a_block ?_ | refine a_ret ?_ | refine a_region ?_ | refine l_nil ?_ | (apply w_q; (focus (first | exact Q_move (by conv => lhs; whnf) | exact Q_assign (by conv => lhs; whnf) | exact Q_leq rfl rfl | exact Q_sub rfl rfl (by omega))); (focus exact rfl)) | (refine a_cond rfl ?_ ?_ <;> (intro h; (try (have hp := of_decide_eq_true h)); (try (have hp := of_decide_eq_false h)); (try contradiction); (try (exfalso; omega)))) | ((refine w_callW (res := .tup []) (news := [.row 3 1 (intc R)]) [0] (.inl ⟨rfl, rfl⟩) (k1) ?_ ?_ rfl rfl (by decide) ?_ rfl rfl ?_ (by first | (dsimp only [List.map, putL, AO.rn, AV.rn, AV.rnl, rn_ints, rn_rows, rn_pairs, List.map_cons, List.map_nil, List.set_cons_zero, List.set_cons_succ, List.getD_cons_zero, List.getD_cons_succ]; done) | exact rfl) (by first | (dsimp only [List.map, putL, AO.rn, AV.rn, AV.rnl, rn_ints, rn_rows, rn_pairs, List.map_cons, List.map_nil, List.set_cons_zero, List.set_cons_succ, List.getD_cons_zero, List.getD_cons_succ]; done) | exact rfl) rfl ?_; rotate_left 0; (focus exact rfl); (focus exact rfl); (focus exact rfl); (focus exact rfl); rotate_left 1; all_goals (try (skip)))))); (try all_goals (try show retA _ _ _ _ _ _ _))
  all_goals first
    | (exfalso; omega)
    | (dsimp only [thenA, blockA]; refine ⟨[], [0], trivial, VwOs.mk (by decide) ⟨⟨_, rfl, .row _ _ _⟩, trivial⟩, ?_, rfl⟩; exact Vw.tup' trivial)
    | (refine ⟨[], [0], trivial, VwOs.mk (by decide) ⟨⟨_, rfl, .row _ _ _⟩, trivial⟩, ?_, rfl⟩; exact Vw.tup' trivial)
    | (all_goals trace_state); fail
theorem SortG_ac (l : List Int) (g : FuncId) (D : List Dat) (c : Int → Int → Int) (hl : l.length ≤ 10) (hg : ∀ a, a ∈ l → ∀ b, b ∈ l → AC Tryd.prog g [.val (.int .i64 a), .val (.int .i64 b), .rpt D 0] [] (.val (.int .i64 (c a b))) []) :
    AC Tryd.prog 104 [.own 0, .clo g [.rpt D 0]] [.row 3 1 (intc l)] (.tup []) [.row 3 1 (intc (isF c l))] := by
  have kP := PdqG_ac l g D c (blen l.length : Int) (by omega) hg
  have kL := iLen_n l.length hl
  clear hg
  generalize isF c l = R at *
  refine AC.mk (n := 14) (fn := Tryd.f104) Tryd.func104 (by kernel_rfl) rfl rfl rfl rfl (fun cx => ?_); dsimp only [argv, Nat.reduceAdd]
  (repeat' (first | refine a_seq ?_ | refine a_region ?_ | refine l_nil ?_ | (apply w_q; (focus (first | exact Q_move (by conv => lhs; whnf) | exact Q_assign (by conv => lhs; whnf) | exact Q_len_own' rfl rfl KSl.h)); (focus exact rfl)) | (((first | apply w_q); (focus exact Q_conv (n := (l.length : Int)) rfl Tryd.underlying3 Tryd.underlying150 (IntWalk.u64_in _ (by omega))); (focus exact rfl))) | (((first | apply w_q); (focus (refine Q_call (.inl ⟨rfl, rfl⟩) (kL) ?_; ((repeat' (first | exact vwRL rfl)); done))); (focus exact rfl))) | ((refine w_callW (res := .tup []) (news := [.row 3 1 (intc R)]) [0] (.inl ⟨rfl, rfl⟩) (kP) ?_ ?_ rfl rfl (by decide) ?_ rfl rfl ?_ (by first | (dsimp only [List.map, putL, AO.rn, AV.rn, AV.rnl, rn_ints, rn_rows, rn_pairs, List.map_cons, List.map_nil, List.set_cons_zero, List.set_cons_succ, List.getD_cons_zero, List.getD_cons_succ]; done) | exact rfl) (by first | (dsimp only [List.map, putL, AO.rn, AV.rn, AV.rnl, rn_ints, rn_rows, rn_pairs, List.map_cons, List.map_nil, List.set_cons_zero, List.set_cons_succ, List.getD_cons_zero, List.getD_cons_succ]; done) | exact rfl) rfl ?_; rotate_left 0; (focus exact rfl); (focus exact rfl); (focus exact rfl); (focus exact rfl); rotate_left 1; all_goals (try (skip)))))); (try all_goals (try show retA _ _ _ _ _ _ _))
  all_goals first
    | (exfalso; omega)
    | (dsimp only [thenA, blockA]; refine ⟨[], [0], trivial, VwOs.mk (by decide) ⟨⟨_, rfl, .row _ _ _⟩, trivial⟩, ?_, rfl⟩; exact Vw.tup' trivial)
    | (refine ⟨[], [0], trivial, VwOs.mk (by decide) ⟨⟨_, rfl, .row _ _ _⟩, trivial⟩, ?_, rfl⟩; exact Vw.tup' trivial)
    | (all_goals trace_state); fail
end Go.Proofs.YtbgecpjlopdkfaaDoor
