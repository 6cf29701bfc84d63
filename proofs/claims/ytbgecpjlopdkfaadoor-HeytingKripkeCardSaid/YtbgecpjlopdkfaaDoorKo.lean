import Derived.Test.YtbgecpjlopdkfaaDoorJh
import Derived.Test.YtbgecpjlopdkfaaDoorSra
import Derived.Test.YtbgecpjlopdkfaaDoorJj
set_option linter.unusedSimpArgs false
set_option linter.unusedVariables false
set_option linter.unusedSectionVars false
set_option maxRecDepth 20000
namespace Go.Proofs.YtbgecpjlopdkfaaDoor
attribute [local irreducible] QOp aL aC qL
set_option maxHeartbeats 2000000 in
theorem three_ac (n : Nat) (M J : List (List Nat)) (pr : Nat → Nat → Nat → Bool) (hn : n ≤ 40) {g : FuncId} {caps : List AV} [VwRL caps] (hg : ∀ x y z, x < n → y < n → z < n → AC Tryd.prog g (.val (.int .i64 x) :: .val (.int .i64 y) :: .val (.int .i64 z) :: caps) [] (.val (.bool (pr x y z))) []) :
    AC Tryd.prog 130 [latA n (tn M) (tn J), .clo g caps] [] (.tup [ints (nl (triL n pr)), .val (.bool (triB n pr))]) [] := by
  have hcl := isFn_clo g caps
  refine AC.mk (n := 36) (fn := Tryd.f130) Tryd.func130 (by kernel_rfl) rfl rfl rfl rfl (fun cx => ?_); dsimp only [argv, Nat.reduceAdd]
  (repeat' (first | refine a_seq ?_ | refine a_block ?_ | refine a_region ?_ | refine l_nil ?_ | (apply w_q; (focus (first | exact Q_move (by conv => lhs; whnf) | exact Q_assign (by conv => lhs; whnf) | exact Q_fieldAddr_ptr rfl KFl.h | exact Q_load_ptr rfl rfl rfl KSc.h)); (focus exact rfl)) | refine w_box rfl rfl (by first|(dsimp only[obA,obB,obD,obE,obF,obG,obI,List.map,AO.sh,AV.sh,AV.shl,Nat.reduceAdd];done)|exact rfl) (by first|(dsimp only[obA,obB,obD,obE,obF,obG,obI,List.map,AO.sh,AV.sh,AV.shl,Nat.reduceAdd];done)|exact rfl) rfl ?_)); (try all_goals (try show retA _ _ _ _ _ _ _))
  refine w_loop (X := Nat) [1, 2, 10] (by simp only [keepv, getv_cons, Nat.reduceEqDiff, ↓reduceIte]; exact rfl) (fun x => [(11, .val (.int .i64 (x : Int)))]) (fun _ => [.box [.val (.int .i64 n), rows (tn M), rows (tn J)]]) (fun x => x ≤ n ∧ ∀ j, j < x → tri1 n pr j = none) (fun x => n - x) (0) ([0]) ?_ ?_ rfl ?_ <;> (try dsimp only [List.cons_append, List.nil_append])
  · exact ⟨Nat.zero_le _, fun _ h => by omega⟩
  · (refine St.le_mk rfl (VwOs.mk (by decide) ?_) ?_ <;> (repeat' (first | exact trivial | exact vwR rfl | exact Vw.ro _ | exact Vw.ptr _ _ _ rfl | refine VwO.box' ?_ | refine ⟨⟨_, rfl, ?_⟩, ?_⟩ | refine ⟨?_, ?_⟩ )))
  rintro x ⟨hx, no1⟩
  by_cases hxn : x < n
  · (repeat' (first | refine a_seq ?_ | refine a_block ?_ | refine a_skip ?_ | refine a_region ?_ | refine l_nil ?_ | (apply w_q; (focus (first | exact Q_move (by conv => lhs; whnf) | exact Q_assign (by conv => lhs; whnf) | exact Q_fieldAddr_ptr rfl KFl.h | exact Q_load_ptr rfl rfl rfl KSc.h | exact Q_lss rfl rfl)); (focus exact rfl)) | (refine a_cond rfl ?_ ?_ <;> (intro h; (try (have hp := of_decide_eq_true h)); (try (have hp := of_decide_eq_false h)); (try contradiction); (try (exfalso; omega)))))); (try all_goals (try show retA _ _ _ _ _ _ _))
    refine w_loop (X := Nat) [1, 2, 6, 10, 11, 15] (by simp only [keepv, getv_cons, Nat.reduceEqDiff, ↓reduceIte]; exact rfl) (fun y => [(16, .val (.int .i64 (y : Int)))]) (fun _ => [.box [.val (.int .i64 n), rows (tn M), rows (tn J)]]) (fun y => y ≤ n ∧ ∀ j, j < y → tri2 n pr x j = none) (fun y => n - y) (0) ([0]) ?_ ?_ rfl ?_ <;> (try dsimp only [List.cons_append, List.nil_append])
    · exact ⟨Nat.zero_le _, fun _ h => by omega⟩
    · (refine St.le_mk rfl (VwOs.mk (by decide) ?_) ?_ <;> (repeat' (first | exact trivial | exact vwR rfl | exact Vw.ro _ | exact Vw.ptr _ _ _ rfl | refine VwO.box' ?_ | refine ⟨⟨_, rfl, ?_⟩, ?_⟩ | refine ⟨?_, ?_⟩ )))
    rintro y ⟨hy, no2⟩
    by_cases hyn : y < n
    · (repeat' (first | refine a_seq ?_ | refine a_block ?_ | refine a_skip ?_ | refine a_region ?_ | refine l_nil ?_ | (apply w_q; (focus (first | exact Q_move (by conv => lhs; whnf) | exact Q_assign (by conv => lhs; whnf) | exact Q_fieldAddr_ptr rfl KFl.h | exact Q_load_ptr rfl rfl rfl KSc.h | exact Q_lss rfl rfl)); (focus exact rfl)) | (refine a_cond rfl ?_ ?_ <;> (intro h; (try (have hp := of_decide_eq_true h)); (try (have hp := of_decide_eq_false h)); (try contradiction); (try (exfalso; omega)))))); (try all_goals (try show retA _ _ _ _ _ _ _))
      refine w_loop (X := Nat) [1, 2, 6, 7, 10, 11, 15, 16, 20] (by simp only [keepv, getv_cons, Nat.reduceEqDiff, ↓reduceIte]; exact rfl) (fun z => [(21, .val (.int .i64 (z : Int)))]) (fun _ => [.box [.val (.int .i64 n), rows (tn M), rows (tn J)]]) (fun z => z ≤ n ∧ ∀ j, j < z → tri3 pr x y j = none) (fun z => n - z) (0) ([0]) ?_ ?_ rfl ?_ <;> (try dsimp only [List.cons_append, List.nil_append])
      · exact ⟨Nat.zero_le _, fun _ h => by omega⟩
      · (refine St.le_mk rfl (VwOs.mk (by decide) ?_) ?_ <;> (repeat' (first | exact trivial | exact vwR rfl | exact Vw.ro _ | exact Vw.ptr _ _ _ rfl | refine VwO.box' ?_ | refine ⟨⟨_, rfl, ?_⟩, ?_⟩ | refine ⟨?_, ?_⟩ )))
      rintro z ⟨hz, no3⟩
      by_cases hzn : z < n
      · have k := hg x y z hxn hyn hzn
        have hit := tri_hit (h := pr) hxn hyn hzn no1 no2 no3
        have no4 : pr x y z = false → tri3 pr x y z = none := fun e => by unfold tri3; rw [e, if_neg Bool.false_ne_true]
        generalize pr x y z = b at k hit no4
        cases b
        · (repeat' (first | refine a_seq ?_ | refine a_block ?_ | refine a_skip ?_ | refine a_region ?_ | refine l_nil ?_ | (apply w_q; (focus (first | exact Q_move (by conv => lhs; whnf) | exact Q_assign (by conv => lhs; whnf) | exact Q_lss rfl rfl | exact Q_add rfl rfl (by omega))); (focus exact rfl)) | (refine a_cond rfl ?_ ?_ <;> (intro h; (try (have hp := of_decide_eq_true h)); (try (have hp := of_decide_eq_false h)); (try contradiction); (try (exfalso; omega)))) | (((first | apply w_q); (focus (refine Q_call (by exact callee_of (hcl) rfl) (k) ?_; ((repeat' (first | exact vwRL rfl)); done))); (focus exact rfl))))); (try all_goals (try show retA _ _ _ _ _ _ _))
          refine ⟨z + 1, [0], ?_, ?_, ?_, rfl⟩ <;> (try dsimp only)
          · refine ⟨by omega, fun j hj => ?_⟩
            by_cases e : j = z
            · subst e; exact no4 rfl
            · exact no3 j (by omega)
          · omega
          · (refine St.le_mk rfl (VwOs.mk (by decide) ?_) ?_ <;> (repeat' (first | exact trivial | exact vwR rfl | exact Vw.ro _ | exact Vw.ptr _ _ _ rfl | refine VwO.box' ?_ | refine ⟨⟨_, rfl, ?_⟩, ?_⟩ | refine ⟨?_, ?_⟩ )))
        · rw [(hit rfl).1, (hit rfl).2]
          (repeat' (first | refine a_seq ?_ | refine a_block ?_ | refine a_skip ?_ | refine a_ret ?_ | refine a_region ?_ | refine l_nil ?_ | (apply w_q; (focus (first | exact Q_move (by conv => lhs; whnf) | exact Q_assign (by conv => lhs; whnf) | exact Q_lss rfl rfl)); (focus exact rfl)) | (refine a_cond rfl ?_ ?_ <;> (intro h; (try (have hp := of_decide_eq_true h)); (try (have hp := of_decide_eq_false h)); (try contradiction); (try (exfalso; omega)))) | refine w_lit_i3 rfl rfl rfl KSl.h KMk.h (by first|(dsimp only[obA,obB,obD,obE,obF,obG,obI,List.map,AO.sh,AV.sh,AV.shl,Nat.reduceAdd];done)|exact rfl) (by first|(dsimp only[obA,obB,obD,obE,obF,obG,obI,List.map,AO.sh,AV.sh,AV.shl,Nat.reduceAdd];done)|exact rfl) rfl ?_ | (((first | apply w_q); (focus (refine Q_call (by exact callee_of (hcl) rfl) (k) ?_; ((repeat' (first | exact vwRL rfl)); done))); (focus exact rfl))))); (try all_goals (try show retA _ _ _ _ _ _ _))
          refine ⟨[_, _], [], ⟨resV_tmp (by conv => lhs; whnf), resV_tmp (by conv => lhs; whnf), trivial⟩, VwOs.mk (by decide) trivial, ?_, rfl⟩
          (repeat' (first | exact vwRL rfl | exact Vw.rowro _ _ _ _ rfl (by decide) | refine Vw.tup' ?_ | refine ⟨?_, ?_⟩ ))
      · obtain rfl : n = z := by omega
        (repeat' (first | refine a_seq ?_ | refine a_exit ?_ | refine a_region ?_ | refine l_nil ?_ | (apply w_q; (focus (first | exact Q_move (by conv => lhs; whnf) | exact Q_lss rfl rfl | exact Q_add rfl rfl (by omega))); (focus exact rfl)) | (refine a_cond rfl ?_ ?_ <;> (intro h; (try (have hp := of_decide_eq_true h)); (try (have hp := of_decide_eq_false h)); (try contradiction); (try (exfalso; omega)))))); (try all_goals (try show retA _ _ _ _ _ _ _))
        refine ⟨y + 1, [0], ?_, ?_, ?_, rfl⟩ <;> (try dsimp only)
        · refine ⟨by omega, fun j hj => ?_⟩
          by_cases e : j = y
          · subst e; exact fstK_none no3
          · exact no2 j (by omega)
        · omega
        · (refine St.le_mk rfl (VwOs.mk (by decide) ?_) ?_ <;> (repeat' (first | exact trivial | exact vwR rfl | exact Vw.ro _ | exact Vw.ptr _ _ _ rfl | refine VwO.box' ?_ | refine ⟨⟨_, rfl, ?_⟩, ?_⟩ | refine ⟨?_, ?_⟩ )))
    · obtain rfl : n = y := by omega
      (repeat' (first | refine a_seq ?_ | refine a_exit ?_ | refine a_region ?_ | refine l_nil ?_ | (apply w_q; (focus (first | exact Q_move (by conv => lhs; whnf) | exact Q_lss rfl rfl | exact Q_add rfl rfl (by omega))); (focus exact rfl)) | (refine a_cond rfl ?_ ?_ <;> (intro h; (try (have hp := of_decide_eq_true h)); (try (have hp := of_decide_eq_false h)); (try contradiction); (try (exfalso; omega)))))); (try all_goals (try show retA _ _ _ _ _ _ _))
      refine ⟨x + 1, [0], ?_, ?_, ?_, rfl⟩ <;> (try dsimp only)
      · refine ⟨by omega, fun j hj => ?_⟩
        by_cases e : j = x
        · subst e; exact fstK_none no2
        · exact no1 j (by omega)
      · omega
      · (refine St.le_mk rfl (VwOs.mk (by decide) ?_) ?_ <;> (repeat' (first | exact trivial | exact vwR rfl | exact Vw.ro _ | exact Vw.ptr _ _ _ rfl | refine VwO.box' ?_ | refine ⟨⟨_, rfl, ?_⟩, ?_⟩ | refine ⟨?_, ?_⟩ )))
  · obtain rfl : n = x := by omega
    have ms := tri_miss no1
    rw [ms.1, ms.2]
    (repeat' (first | refine a_seq ?_ | refine a_ret ?_ | refine a_exit ?_ | refine a_region ?_ | refine l_nil ?_ | (apply w_q; (focus (first | exact Q_assign (by conv => lhs; whnf) | exact Q_lss rfl rfl)); (focus exact rfl)) | (refine a_cond rfl ?_ ?_ <;> (intro h; (try (have hp := of_decide_eq_true h)); (try (have hp := of_decide_eq_false h)); (try contradiction); (try (exfalso; omega)))))); (try all_goals (try show retA _ _ _ _ _ _ _))
    refine ⟨[_, _], [], ⟨resV_tmp (by conv => lhs; whnf), resV_tmp (by conv => lhs; whnf), trivial⟩, VwOs.mk (by decide) trivial, ?_, rfl⟩
    (repeat' (first | exact vwRL rfl | exact Vw.nilro _ | refine Vw.tup' ?_ | refine ⟨?_, ?_⟩ ))
def disP (M J : List (List Nat)) (x y z : Nat) : Bool := decide (ta M x (ta J y z) ≠ ta J (ta M x y) (ta M x z))
theorem Dis1_ac (n : Nat) (M J : List (List Nat)) (hL : La n M J) (x y z : Nat) (hx : x < n) (hy : y < n) (hz : z < n) :
    AC Tryd.prog 131 [.val (.int .i64 x), .val (.int .i64 y), .val (.int .i64 z), .rpt [.val (.int .i64 n), .sl 1 (rowc (tn M)), .sl 1 (rowc (tn J))] 0] [] (.val (.bool (disP M J x y z))) [] := by
  have hM := hL.sM
  have hJ := hL.sJ
  have hn := hL.n2
  have b1 := hJ.lt y z hy hz
  have b2 := hM.lt x y hx hy
  have b3 := hM.lt x z hx hz
  unfold disP
  refine AC.mk (n := 46) (fn := Tryd.f131) Tryd.func131 (by kernel_rfl) rfl rfl rfl rfl (fun cx => ?_); dsimp only [argv, Nat.reduceAdd]
  (repeat' (first | ((first | apply w_q | apply w_qq); (focus (first | exact Q_ix_tn (by assumption) rfl rfl rfl KSl.h (by first | omega | exact Sq.lt (by assumption) _ _ (by omega) (by omega) | exact Mp.lt (by assumption) _ (by omega) | exact Sq.lt (by assumption) _ _ (by first | omega | exact Mp.lt (by assumption) _ (by omega)) (by first | omega | exact Mp.lt (by assumption) _ (by omega)) | exact Mp.lt (by assumption) _ (by first | exact Sq.lt (by assumption) _ _ (by omega) (by omega) | exact Mp.lt (by assumption) _ (by first | omega | exact Mp.lt (by assumption) _ (by omega)))) | exact Q_ld_tn (by assumption) rfl (by first | omega | exact Sq.lt (by assumption) _ _ (by omega) (by omega) | exact Mp.lt (by assumption) _ (by omega) | exact Sq.lt (by assumption) _ _ (by first | omega | exact Mp.lt (by assumption) _ (by omega)) (by first | omega | exact Mp.lt (by assumption) _ (by omega)) | exact Mp.lt (by assumption) _ (by first | exact Sq.lt (by assumption) _ _ (by omega) (by omega) | exact Mp.lt (by assumption) _ (by first | omega | exact Mp.lt (by assumption) _ (by omega)))) KSc.h | exact Q_ix_tr (by assumption) rfl rfl rfl KSl.h (by first | omega | exact Sq.lt (by assumption) _ _ (by omega) (by omega) | exact Mp.lt (by assumption) _ (by omega) | exact Sq.lt (by assumption) _ _ (by first | omega | exact Mp.lt (by assumption) _ (by omega)) (by first | omega | exact Mp.lt (by assumption) _ (by omega)) | exact Mp.lt (by assumption) _ (by first | exact Sq.lt (by assumption) _ _ (by omega) (by omega) | exact Mp.lt (by assumption) _ (by first | omega | exact Mp.lt (by assumption) _ (by omega)))) (by first | omega | exact Sq.lt (by assumption) _ _ (by omega) (by omega) | exact Mp.lt (by assumption) _ (by omega) | exact Sq.lt (by assumption) _ _ (by first | omega | exact Mp.lt (by assumption) _ (by omega)) (by first | omega | exact Mp.lt (by assumption) _ (by omega)) | exact Mp.lt (by assumption) _ (by first | exact Sq.lt (by assumption) _ _ (by omega) (by omega) | exact Mp.lt (by assumption) _ (by first | omega | exact Mp.lt (by assumption) _ (by omega)))) | exact Q_ld_ta (by assumption) rfl (by first | omega | exact Sq.lt (by assumption) _ _ (by omega) (by omega) | exact Mp.lt (by assumption) _ (by omega) | exact Sq.lt (by assumption) _ _ (by first | omega | exact Mp.lt (by assumption) _ (by omega)) (by first | omega | exact Mp.lt (by assumption) _ (by omega)) | exact Mp.lt (by assumption) _ (by first | exact Sq.lt (by assumption) _ _ (by omega) (by omega) | exact Mp.lt (by assumption) _ (by first | omega | exact Mp.lt (by assumption) _ (by omega)))) (by first | omega | exact Sq.lt (by assumption) _ _ (by omega) (by omega) | exact Mp.lt (by assumption) _ (by omega) | exact Sq.lt (by assumption) _ _ (by first | omega | exact Mp.lt (by assumption) _ (by omega)) (by first | omega | exact Mp.lt (by assumption) _ (by omega)) | exact Mp.lt (by assumption) _ (by first | exact Sq.lt (by assumption) _ _ (by omega) (by omega) | exact Mp.lt (by assumption) _ (by first | omega | exact Mp.lt (by assumption) _ (by omega)))) KSc.h)); (focus exact rfl)) | (first | refine a_seq ?_ | refine a_ret ?_ | refine a_region ?_ | refine l_nil ?_ | refine q_nil ?_ | ((first | apply w_q | apply w_qq); (focus (first | exact Q_move (by conv => lhs; whnf) | exact Q_assign (by conv => lhs; whnf) | exact Q_fieldAddr_rpt rfl KFl.h | exact Q_neq rfl rfl | exact Q_ld_rs rfl rfl KSc.h)); (focus exact rfl)) | refine a_draw (by kernel_rfl) (by kernel_rfl) ?_))); (try all_goals (try show retA _ _ _ _ _ _ _))
  refine ⟨[_], [], ⟨resV_tmp (by conv => lhs; whnf), trivial⟩, VwOs.mk (by decide) trivial, ?_, rfl⟩
  exact Vw.bool' (decide_eq_decide.2 (by omega))
end Go.Proofs.YtbgecpjlopdkfaaDoor
