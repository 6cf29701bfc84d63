import Derived.Test.YtbgecpjlopdkfaaDoorHeh
set_option linter.unusedSimpArgs false
set_option linter.unusedVariables false
set_option linter.unusedSectionVars false
set_option maxRecDepth 20000
namespace Go.Proofs.YtbgecpjlopdkfaaDoor
attribute [local irreducible] QOp aL aC qL
attribute [local irreducible] FOp POp hL xH
def ngV (n : Nat) (M J : List (List Nat)) (x : Nat) : Nat := impV n M J x (endE (ta M) n)
def rgT (n : Nat) (M J : List (List Nat)) (k : Nat) : List Nat := (List.range k).filter fun x => decide (ngV n M J (ngV n M J x) = x)
theorem rgT_succ (n : Nat) (M J : List (List Nat)) (k : Nat) : rgT n M J (k + 1) = if ngV n M J (ngV n M J k) = k then rgT n M J k ++ [k] else rgT n M J k := by
  unfold rgT
  rw [List.range_succ, List.filter_append, List.filter_cons]
  by_cases h : ngV n M J (ngV n M J k) = k
  · rw [if_pos (decide_eq_true h), if_pos h]; rfl
  · rw [if_neg (by simpa using h), if_neg h]; simp
theorem rgT_len (n : Nat) (M J : List (List Nat)) (k : Nat) : (rgT n M J k).length ≤ k := by
  have := List.length_filter_le (fun x => decide (ngV n M J (ngV n M J x) = x)) (List.range k)
  rwa [List.length_range] at this
set_option maxRecDepth 20000 in
set_option maxHeartbeats 4000000 in
theorem HReg_ok (n : Nat) (M J : List (List Nat)) (hL : La n M J) (hd : triB n (disP M J) = false) : AC Tryd.prog 76 [latA n (tn M) (tn J)] [] (.tup [.own 0, .val (.int .i64 0)]) [.row 3 1 (intc (nl (rgT n M J n)))] := by
  have hn2 := hL.n2
  have hn1' := hL.n1
  have k := newAlg_ok n M J hL hd
  have hng : ∀ x, ngV n M J x < n := fun x => impF_lt hL.A hL.n1 n (Nat.le_refl n)
  have k0 : ∀ x, x < n → AC Tryd.prog 114 [.ptr 0 0, .val (.int .i64 x)] (alg0 n M J) (.val (.int .i64 (ngV n M J x : Nat))) (alg1 n M J) := fun x hx => not_0 hL hx
  have k1 : ∀ x, x < n → AC Tryd.prog 114 [.ptr 0 0, .val (.int .i64 x)] (alg1 n M J) (.val (.int .i64 (ngV n M J x : Nat))) (alg1 n M J) := fun x hx => not_1 hL hx
  have hsu := rgT_succ n M J
  have hrl := rgT_len n M J
  have hr0 : rgT n M J 0 = [] := rfl
  unfold alg0 at k k0
  unfold alg1 at k0 k1
  unfold algC at k k0 k1
  generalize tn (impA n M J) = T at *
  generalize endE (ta M) n = lo at *
  generalize endE (ta J) n = hi at *
  refine AC.mk (n := 34) (fn := Tryd.f76) Tryd.func76 (by kernel_rfl) rfl rfl rfl rfl (fun cx => ?_); dsimp only [argv, Nat.reduceAdd]
  (repeat' (first | refine a_seq ?_ | refine a_block ?_ | refine a_skip ?_ | refine a_region ?_ | refine l_nil ?_ | (apply w_q; (focus (first | exact Q_move (by conv => lhs; whnf) | exact Q_assign (by conv => lhs; whnf) | exact Q_fieldAddr_ptr rfl KFl.h | exact Q_load_ptr rfl rfl rfl KSc.h | exact Q_load_all rfl rfl KAg.h | exact Q_neq rfl rfl | exact Q_extract rfl (by conv => lhs; whnf))); (focus exact rfl)) | (refine a_cond rfl ?_ ?_ <;> (intro h; (try (have hp := of_decide_eq_true h)); (try (have hp := of_decide_eq_false h)); (try contradiction); (try (exfalso; omega)))) | refine w_box rfl rfl (by first|(dsimp only[obA,obB,obD,obE,obF,obG,obI,List.map,AO.sh,AV.sh,AV.shl,Nat.reduceAdd];done)|exact rfl) (by first|(dsimp only[obA,obB,obD,obE,obF,obG,obI,List.map,AO.sh,AV.sh,AV.shl,Nat.reduceAdd];done)|exact rfl) rfl ?_ | ((refine w_callD (res := .tup [.ptr 0 0, .val (.int .i64 0)]) (news := [.box [.val (.int .i64 n), rows (tn M), rows (tn J), .val (.int .u32 0), .val (.int .i32 0), .val (.int .u32 0), .val (.slice none 0 0), .val (.int .i64 lo), .val (.int .i64 hi)]]) (.inl ⟨rfl, rfl⟩) (k) ?_ ?_ ?_ (by first | (dsimp only [List.cons_append, List.nil_append, List.append_nil, List.map, AO.sh, AV.sh, AV.shl, sh_ints, sh_rows, sh_pairs, sh_ords, List.length_cons, List.length_nil, Nat.reduceAdd, Nat.zero_add, Nat.add_zero]; done) | exact rfl) (by first | (dsimp only [AV.sh, AV.shl, sh_ints, sh_rows, sh_pairs, sh_ords, List.length_cons, List.length_nil, Nat.reduceAdd, Nat.zero_add, Nat.add_zero]; done) | exact rfl) rfl ?_; rotate_left 0; (focus exact rfl); (focus exact rfl); (focus ((repeat' (first | exact trivial | exact Vs.val _ | exact Vs.ro _ | refine Vs.agg' ?_ | refine ⟨?_, ?_⟩)); done)); rotate_left 1; all_goals (try (skip)))))); (try all_goals (try show retA _ _ _ _ _ _ _))
  all_goals first
    | (exfalso; omega)
    | skip
  refine w_nilownC 6 3 1 rfl (by first|(dsimp only[obA,obB,obD,obE,obF,obG,obI,List.map,AO.sh,AV.sh,AV.shl,Nat.reduceAdd];done)|exact rfl) rfl ?_
  refine w_loop (X := Nat) [4, 17] (by simp only [keepv, getv_cons, Nat.reduceEqDiff, ↓reduceIte]; exact rfl) (fun x => [(6, .own 2), (18, .val (.int .i64 (x : Nat)))]) (fun x => match x with | 0 => [.gone, .box [.val (.int .i64 n), rows (tn M), rows (tn J), .val (.int .u32 0), .val (.int .i32 0), .val (.int .u32 0), .val (.slice none 0 0), .val (.int .i64 lo), .val (.int .i64 hi)], .row 3 1 (intc (nl (rgT n M J 0)))] | x + 1 => [.gone, .box [.val (.int .i64 n), rows (tn M), rows (tn J), .val (.int .u32 1), .val (.int .i32 0), .val (.int .u32 0), .own 3, .val (.int .i64 lo), .val (.int .i64 hi)], .row 3 1 (intc (nl (rgT n M J (x + 1)))), .row 22 1 (rowc T)]) (fun x => x ≤ n) (fun x => n - x) (0) ([0, 1, 2]) ?_ ?_ rfl ?_ <;> (try dsimp only [List.cons_append, List.nil_append])
  · exact Nat.zero_le _
  · rw [hr0]
    (refine St.le_mk rfl (VwOs.mk (by decide) ?_) ?_ <;> (repeat' (first | exact trivial | exact vwR rfl | exact Vw.ro _ | exact Vw.own _ _ rfl | exact Vw.ptr _ _ _ rfl | exact VwO.row _ _ _ | refine VwO.box' ?_ | exact VwO.gone _ | refine ⟨⟨_, rfl, ?_⟩, ?_⟩ | refine ⟨?_, ?_⟩ )))
  rintro x hx
  cases x with
  | zero =>
    dsimp only
    have hs := hsu 0
    have a1 := k0 0 (by omega)
    have hn1 := hng 0
    have a2 := k1 _ hn1
    generalize ngV n M J (ngV n M J 0) = z at *
    generalize ngV n M J 0 = y at *
    by_cases hz : z = 0
    · subst hz
      rw [if_pos rfl] at hs
      have hr0l := hrl 0
      generalize rgT n M J 0 = r0 at *
      (repeat' (first | refine a_seq ?_ | refine a_block ?_ | refine a_skip ?_ | refine a_region ?_ | refine l_nil ?_ | (apply w_q; (focus (first | exact Q_move (by conv => lhs; whnf) | exact Q_assign (by conv => lhs; whnf) | exact Q_lss rfl rfl | exact Q_eql rfl rfl | exact Q_add rfl rfl (by omega))); (focus exact rfl)) | (refine a_cond rfl ?_ ?_ <;> (intro h; (try (have hp := of_decide_eq_true h)); (try (have hp := of_decide_eq_false h)); (try contradiction); (try (exfalso; omega)))) | refine w_ap_nats rfl rfl rfl rfl KSl.h KMk.h (by simp; omega) (by first|(dsimp only[obA,obB,obD,obE,obF,obG,obI,List.map,AO.sh,AV.sh,AV.shl,Nat.reduceAdd];done)|exact rfl) (by first|(dsimp only[obA,obB,obD,obE,obF,obG,obI,List.map,AO.sh,AV.sh,AV.shl,Nat.reduceAdd];done)|exact rfl) rfl ?_ | refine w_lit_nat rfl KSl.h KMk.h (by first|(dsimp only[obA,obB,obD,obE,obF,obG,obI,List.map,AO.sh,AV.sh,AV.shl,Nat.reduceAdd];done)|exact rfl) (by first|(dsimp only[obA,obB,obD,obE,obF,obG,obI,List.map,AO.sh,AV.sh,AV.shl,Nat.reduceAdd];done)|exact rfl) rfl ?_ | ((refine w_callN (res := .val (.int .i64 y)) (news := [.box [.val (.int .i64 n), rows (tn M), rows (tn J), .val (.int .u32 1), .val (.int .i32 0), .val (.int .u32 0), .own 1, .val (.int .i64 lo), .val (.int .i64 hi)], .row 22 1 (rowc T)]) (res' := .val (.int .i64 y)) (objs' := [.gone, .box [.val (.int .i64 n), rows (tn M), rows (tn J), .val (.int .u32 1), .val (.int .i32 0), .val (.int .u32 0), .own 3, .val (.int .i64 lo), .val (.int .i64 hi)], .row 3 1 (intc (nl r0)), .row 22 1 (rowc T)]) [1] 1 (.inl ⟨rfl, rfl⟩) (a1) ?_ ?_ rfl rfl (by decide) ?_ rfl rfl ?_ rfl rfl rfl ?_; rotate_left 0; (focus exact rfl); (focus exact rfl); (focus exact rfl); (focus exact rfl); rotate_left 1; all_goals (try (skip)))) | ((refine w_callW (res := .val (.int .i64 ((0 : Nat) : Int))) (news := [.box [.val (.int .i64 n), rows (tn M), rows (tn J), .val (.int .u32 1), .val (.int .i32 0), .val (.int .u32 0), .own 1, .val (.int .i64 lo), .val (.int .i64 hi)], .row 22 1 (rowc T)]) [1, 3] (.inl ⟨rfl, rfl⟩) (a2) ?_ ?_ rfl rfl (by decide) ?_ rfl rfl ?_ (by first | (dsimp only [List.map, putL, AO.rn, AV.rn, AV.rnl, rn_ints, rn_rows, rn_pairs, List.map_cons, List.map_nil, List.set_cons_zero, List.set_cons_succ, List.getD_cons_zero, List.getD_cons_succ]; done) | exact rfl) (by first | (dsimp only [List.map, putL, AO.rn, AV.rn, AV.rnl, rn_ints, rn_rows, rn_pairs, List.map_cons, List.map_nil, List.set_cons_zero, List.set_cons_succ, List.getD_cons_zero, List.getD_cons_succ]; done) | exact rfl) rfl ?_; rotate_left 0; (focus exact rfl); (focus exact rfl); (focus exact rfl); (focus exact rfl); rotate_left 1; all_goals (try (skip)))))); (try all_goals (try show retA _ _ _ _ _ _ _))
      all_goals first
        | (exfalso; omega)
        | (exfalso; simp at *; omega)
        | (refine ⟨0 + 1, [0, 1, 5, 3], ?_, ?_, ?_, rfl⟩ <;> (try dsimp only)
           · omega
           · omega
           · rw [hs]; (refine St.le_mk rfl (VwOs.mk (by decide) ?_) ?_ <;> (repeat' (first | exact trivial | exact vwR rfl | exact Vw.ro _ | exact Vw.own _ _ rfl | exact Vw.ptr _ _ _ rfl | exact VwO.row _ _ _ | refine VwO.box' ?_ | exact VwO.gone _ | refine ⟨⟨_, rfl, ?_⟩, ?_⟩ | refine ⟨?_, ?_⟩ ))))
        | (all_goals trace_state); fail
    · rw [if_neg hz] at hs
      have hr0l := hrl 0
      generalize rgT n M J 0 = r0 at *
      (repeat' (first | refine a_seq ?_ | refine a_block ?_ | refine a_skip ?_ | refine a_region ?_ | refine l_nil ?_ | (apply w_q; (focus (first | exact Q_move (by conv => lhs; whnf) | exact Q_assign (by conv => lhs; whnf) | exact Q_lss rfl rfl | exact Q_eql rfl rfl | exact Q_add rfl rfl (by omega))); (focus exact rfl)) | (refine a_cond rfl ?_ ?_ <;> (intro h; (try (have hp := of_decide_eq_true h)); (try (have hp := of_decide_eq_false h)); (try contradiction); (try (exfalso; omega)))) | ((refine w_callN (res := .val (.int .i64 y)) (news := [.box [.val (.int .i64 n), rows (tn M), rows (tn J), .val (.int .u32 1), .val (.int .i32 0), .val (.int .u32 0), .own 1, .val (.int .i64 lo), .val (.int .i64 hi)], .row 22 1 (rowc T)]) (res' := .val (.int .i64 y)) (objs' := [.gone, .box [.val (.int .i64 n), rows (tn M), rows (tn J), .val (.int .u32 1), .val (.int .i32 0), .val (.int .u32 0), .own 3, .val (.int .i64 lo), .val (.int .i64 hi)], .row 3 1 (intc (nl r0)), .row 22 1 (rowc T)]) [1] 1 (.inl ⟨rfl, rfl⟩) (a1) ?_ ?_ rfl rfl (by decide) ?_ rfl rfl ?_ rfl rfl rfl ?_; rotate_left 0; (focus exact rfl); (focus exact rfl); (focus exact rfl); (focus exact rfl); rotate_left 1; all_goals (try (skip)))) | ((refine w_callW (res := .val (.int .i64 z)) (news := [.box [.val (.int .i64 n), rows (tn M), rows (tn J), .val (.int .u32 1), .val (.int .i32 0), .val (.int .u32 0), .own 1, .val (.int .i64 lo), .val (.int .i64 hi)], .row 22 1 (rowc T)]) [1, 3] (.inl ⟨rfl, rfl⟩) (a2) ?_ ?_ rfl rfl (by decide) ?_ rfl rfl ?_ (by first | (dsimp only [List.map, putL, AO.rn, AV.rn, AV.rnl, rn_ints, rn_rows, rn_pairs, List.map_cons, List.map_nil, List.set_cons_zero, List.set_cons_succ, List.getD_cons_zero, List.getD_cons_succ]; done) | exact rfl) (by first | (dsimp only [List.map, putL, AO.rn, AV.rn, AV.rnl, rn_ints, rn_rows, rn_pairs, List.map_cons, List.map_nil, List.set_cons_zero, List.set_cons_succ, List.getD_cons_zero, List.getD_cons_succ]; done) | exact rfl) rfl ?_; rotate_left 0; (focus exact rfl); (focus exact rfl); (focus exact rfl); (focus exact rfl); rotate_left 1; all_goals (try (skip)))))); (try all_goals (try show retA _ _ _ _ _ _ _))
      all_goals first
        | (exfalso; omega)
        | (exfalso; simp at *; omega)
        | (refine ⟨0 + 1, [0, 1, 2, 3], ?_, ?_, ?_, rfl⟩ <;> (try dsimp only)
           · omega
           · omega
           · rw [hs]; (refine St.le_mk rfl (VwOs.mk (by decide) ?_) ?_ <;> (repeat' (first | exact trivial | exact vwR rfl | exact Vw.ro _ | exact Vw.own _ _ rfl | exact Vw.ptr _ _ _ rfl | exact VwO.row _ _ _ | refine VwO.box' ?_ | exact VwO.gone _ | refine ⟨⟨_, rfl, ?_⟩, ?_⟩ | refine ⟨?_, ?_⟩ ))))
        | (all_goals trace_state); fail
  | succ x =>
    dsimp only
    have hrx := hrl (x + 1)
    by_cases hxn : x + 1 < n
    · have hs := hsu (x + 1)
      have a1 := k1 (x + 1) hxn
      have hn1 := hng (x + 1)
      have a2 := k1 _ hn1
      generalize ngV n M J (ngV n M J (x + 1)) = z at *
      generalize ngV n M J (x + 1) = y at *
      by_cases hz : z = x + 1
      · rw [if_pos hz] at hs
        (repeat' (first | refine a_seq ?_ | refine a_block ?_ | refine a_skip ?_ | refine a_region ?_ | refine l_nil ?_ | (apply w_q; (focus (first | exact Q_move (by conv => lhs; whnf) | exact Q_assign (by conv => lhs; whnf) | exact Q_lss rfl rfl | exact Q_eql rfl rfl | exact Q_add rfl rfl (by omega))); (focus exact rfl)) | (refine a_cond rfl ?_ ?_ <;> (intro h; (try (have hp := of_decide_eq_true h)); (try (have hp := of_decide_eq_false h)); (try contradiction); (try (exfalso; omega)))) | refine w_ap_nats rfl rfl rfl rfl KSl.h KMk.h (by simp; omega) (by first|(dsimp only[obA,obB,obD,obE,obF,obG,obI,List.map,AO.sh,AV.sh,AV.shl,Nat.reduceAdd];done)|exact rfl) (by first|(dsimp only[obA,obB,obD,obE,obF,obG,obI,List.map,AO.sh,AV.sh,AV.shl,Nat.reduceAdd];done)|exact rfl) rfl ?_ | refine w_lit_nat rfl KSl.h KMk.h (by first|(dsimp only[obA,obB,obD,obE,obF,obG,obI,List.map,AO.sh,AV.sh,AV.shl,Nat.reduceAdd];done)|exact rfl) (by first|(dsimp only[obA,obB,obD,obE,obF,obG,obI,List.map,AO.sh,AV.sh,AV.shl,Nat.reduceAdd];done)|exact rfl) rfl ?_ | ((refine w_callW (res := .val (.int .i64 y)) (news := [.box [.val (.int .i64 n), rows (tn M), rows (tn J), .val (.int .u32 1), .val (.int .i32 0), .val (.int .u32 0), .own 1, .val (.int .i64 lo), .val (.int .i64 hi)], .row 22 1 (rowc T)]) [1, 3] (.inl ⟨rfl, rfl⟩) (a1) ?_ ?_ rfl rfl (by decide) ?_ rfl rfl ?_ (by first | (dsimp only [List.map, putL, AO.rn, AV.rn, AV.rnl, rn_ints, rn_rows, rn_pairs, List.map_cons, List.map_nil, List.set_cons_zero, List.set_cons_succ, List.getD_cons_zero, List.getD_cons_succ]; done) | exact rfl) (by first | (dsimp only [List.map, putL, AO.rn, AV.rn, AV.rnl, rn_ints, rn_rows, rn_pairs, List.map_cons, List.map_nil, List.set_cons_zero, List.set_cons_succ, List.getD_cons_zero, List.getD_cons_succ]; done) | exact rfl) rfl ?_; rotate_left 0; (focus exact rfl); (focus exact rfl); (focus exact rfl); (focus exact rfl); rotate_left 1; all_goals (try (skip)))) | ((refine w_callW (res := .val (.int .i64 z)) (news := [.box [.val (.int .i64 n), rows (tn M), rows (tn J), .val (.int .u32 1), .val (.int .i32 0), .val (.int .u32 0), .own 1, .val (.int .i64 lo), .val (.int .i64 hi)], .row 22 1 (rowc T)]) [1, 3] (.inl ⟨rfl, rfl⟩) (a2) ?_ ?_ rfl rfl (by decide) ?_ rfl rfl ?_ (by first | (dsimp only [List.map, putL, AO.rn, AV.rn, AV.rnl, rn_ints, rn_rows, rn_pairs, List.map_cons, List.map_nil, List.set_cons_zero, List.set_cons_succ, List.getD_cons_zero, List.getD_cons_succ]; done) | exact rfl) (by first | (dsimp only [List.map, putL, AO.rn, AV.rn, AV.rnl, rn_ints, rn_rows, rn_pairs, List.map_cons, List.map_nil, List.set_cons_zero, List.set_cons_succ, List.getD_cons_zero, List.getD_cons_succ]; done) | exact rfl) rfl ?_; rotate_left 0; (focus exact rfl); (focus exact rfl); (focus exact rfl); (focus exact rfl); rotate_left 1; all_goals (try (skip)))))); (try all_goals (try show retA _ _ _ _ _ _ _))
        all_goals first
          | (exfalso; omega)
          | (exfalso; simp at *; omega)
          | (refine ⟨x + 1 + 1, [0, 1, 5, 3], ?_, ?_, ?_, rfl⟩ <;> (try dsimp only)
             · omega
             · omega
             · rw [hs]; (refine St.le_mk rfl (VwOs.mk (by decide) ?_) ?_ <;> (repeat' (first | exact trivial | exact vwR rfl | exact Vw.ro _ | exact Vw.own _ _ rfl | exact Vw.ptr _ _ _ rfl | exact VwO.row _ _ _ | refine VwO.box' ?_ | exact VwO.gone _ | refine ⟨⟨_, rfl, ?_⟩, ?_⟩ | refine ⟨?_, ?_⟩ ))))
          | (all_goals trace_state); fail
      · rw [if_neg hz] at hs
        (repeat' (first | refine a_seq ?_ | refine a_block ?_ | refine a_skip ?_ | refine a_region ?_ | refine l_nil ?_ | (apply w_q; (focus (first | exact Q_move (by conv => lhs; whnf) | exact Q_assign (by conv => lhs; whnf) | exact Q_lss rfl rfl | exact Q_eql rfl rfl | exact Q_add rfl rfl (by omega))); (focus exact rfl)) | (refine a_cond rfl ?_ ?_ <;> (intro h; (try (have hp := of_decide_eq_true h)); (try (have hp := of_decide_eq_false h)); (try contradiction); (try (exfalso; omega)))) | ((refine w_callW (res := .val (.int .i64 y)) (news := [.box [.val (.int .i64 n), rows (tn M), rows (tn J), .val (.int .u32 1), .val (.int .i32 0), .val (.int .u32 0), .own 1, .val (.int .i64 lo), .val (.int .i64 hi)], .row 22 1 (rowc T)]) [1, 3] (.inl ⟨rfl, rfl⟩) (a1) ?_ ?_ rfl rfl (by decide) ?_ rfl rfl ?_ (by first | (dsimp only [List.map, putL, AO.rn, AV.rn, AV.rnl, rn_ints, rn_rows, rn_pairs, List.map_cons, List.map_nil, List.set_cons_zero, List.set_cons_succ, List.getD_cons_zero, List.getD_cons_succ]; done) | exact rfl) (by first | (dsimp only [List.map, putL, AO.rn, AV.rn, AV.rnl, rn_ints, rn_rows, rn_pairs, List.map_cons, List.map_nil, List.set_cons_zero, List.set_cons_succ, List.getD_cons_zero, List.getD_cons_succ]; done) | exact rfl) rfl ?_; rotate_left 0; (focus exact rfl); (focus exact rfl); (focus exact rfl); (focus exact rfl); rotate_left 1; all_goals (try (skip)))) | ((refine w_callW (res := .val (.int .i64 z)) (news := [.box [.val (.int .i64 n), rows (tn M), rows (tn J), .val (.int .u32 1), .val (.int .i32 0), .val (.int .u32 0), .own 1, .val (.int .i64 lo), .val (.int .i64 hi)], .row 22 1 (rowc T)]) [1, 3] (.inl ⟨rfl, rfl⟩) (a2) ?_ ?_ rfl rfl (by decide) ?_ rfl rfl ?_ (by first | (dsimp only [List.map, putL, AO.rn, AV.rn, AV.rnl, rn_ints, rn_rows, rn_pairs, List.map_cons, List.map_nil, List.set_cons_zero, List.set_cons_succ, List.getD_cons_zero, List.getD_cons_succ]; done) | exact rfl) (by first | (dsimp only [List.map, putL, AO.rn, AV.rn, AV.rnl, rn_ints, rn_rows, rn_pairs, List.map_cons, List.map_nil, List.set_cons_zero, List.set_cons_succ, List.getD_cons_zero, List.getD_cons_succ]; done) | exact rfl) rfl ?_; rotate_left 0; (focus exact rfl); (focus exact rfl); (focus exact rfl); (focus exact rfl); rotate_left 1; all_goals (try (skip)))))); (try all_goals (try show retA _ _ _ _ _ _ _))
        all_goals first
          | (exfalso; omega)
          | (exfalso; simp at *; omega)
          | (refine ⟨x + 1 + 1, [0, 1, 2, 3], ?_, ?_, ?_, rfl⟩ <;> (try dsimp only)
             · omega
             · omega
             · rw [hs]; (refine St.le_mk rfl (VwOs.mk (by decide) ?_) ?_ <;> (repeat' (first | exact trivial | exact vwR rfl | exact Vw.ro _ | exact Vw.own _ _ rfl | exact Vw.ptr _ _ _ rfl | exact VwO.row _ _ _ | refine VwO.box' ?_ | exact VwO.gone _ | refine ⟨⟨_, rfl, ?_⟩, ?_⟩ | refine ⟨?_, ?_⟩ ))))
          | (all_goals trace_state); fail
    · obtain rfl : n = x + 1 := by omega
      (repeat' (first | refine a_seq ?_ | refine a_ret ?_ | refine a_exit ?_ | refine a_region ?_ | refine l_nil ?_ | (apply w_q; (focus (first | exact Q_move (by conv => lhs; whnf) | exact Q_assign (by conv => lhs; whnf) | exact Q_lss rfl rfl)); (focus exact rfl)) | (refine a_cond rfl ?_ ?_ <;> (intro h; (try (have hp := of_decide_eq_true h)); (try (have hp := of_decide_eq_false h)); (try contradiction); (try (exfalso; omega)))))); (try all_goals (try show retA _ _ _ _ _ _ _))
      all_goals first
        | (exfalso; omega)
        | (refine ⟨[_, _], [2], ⟨resV_tmp (by conv => lhs; whnf), resV_tmp (by conv => lhs; whnf), trivial⟩, VwOs.mk (by decide) ⟨⟨_, rfl, .row _ _ _⟩, trivial⟩, ?_, rfl⟩; (repeat' (first | exact vwRL rfl | exact Vw.own _ _ rfl | refine Vw.tup' ?_ | refine ⟨?_, ?_⟩ )); done)
        | (all_goals trace_state); fail
end Go.Proofs.YtbgecpjlopdkfaaDoor
