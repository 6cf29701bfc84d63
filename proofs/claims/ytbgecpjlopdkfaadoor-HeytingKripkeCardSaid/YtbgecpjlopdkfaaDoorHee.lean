import Derived.Test.YtbgecpjlopdkfaaDoorIo
import Derived.Test.YtbgecpjlopdkfaaDoorHed
import Derived.Test.YtbgecpjlopdkfaaDoorIv
import Derived.Test.YtbgecpjlopdkfaaDoorEngZp
import Derived.Test.YtbgecpjlopdkfaaDoorEngZzd
set_option linter.unusedSimpArgs false
set_option linter.unusedVariables false
set_option linter.unusedSectionVars false
set_option maxRecDepth 20000
namespace Go.Proofs.YtbgecpjlopdkfaaDoor
attribute [local irreducible] QOp aL aC qL
attribute [local irreducible] FOp POp hL xH
/-- The cells of an algebra. -/
def algC (n : Nat) (M J : List (List Nat)) (dn st : Int) (tab : AV) (lo hi : Nat) : List AV := [.val (.int .i64 n), rows (tn M), rows (tn J), .val (.int .u32 dn), .val (.int .i32 st), .val (.int .u32 0), tab, .val (.int .i64 lo), .val (.int .i64 hi)]
set_option maxRecDepth 20000 in
set_option maxHeartbeats 4000000 in
theorem lay_ac (n : Nat) (M J : List (List Nat)) (hn : 1 ≤ n) (hn2 : n ≤ 40) (hM : Sq n M) (hJ : Sq n J) (hL : Lt n (ta M) (ta J)) (hi : Nat) :
    AC Tryd.prog 128 [.ptr 0 0] [.box (algC n M J 0 1 (.val (.slice none 0 0)) (endE (ta M) n) hi)] (.tup []) [.box (algC n M J 0 1 (.own 1) (endE (ta M) n) hi), .row 22 1 (rowc (tn (impT (ta M) (ta J) (endE (ta M) n) n n)))] := by
  have hlo := endE_lt hM.lt n (Nat.le_refl n) hn
  have hz := fun x y k hk => impF_lt hL hn (x := x) (y := y) k hk
  have hR := fun x k => impR_succ (ta M) (ta J) (endE (ta M) n) n x k
  have hT := fun k => impT_succ (ta M) (ta J) (endE (ta M) n) n k
  have hRl := fun x k => impR_len (ta M) (ta J) (endE (ta M) n) n x k
  have hTl := fun k => impT_len (ta M) (ta J) (endE (ta M) n) n k
  have hF : ∀ x y k, impF (ta M) (ta J) (endE (ta M) n) x y (k + 1) = if ta M (ta M k x) y = ta M k x then ta J (impF (ta M) (ta J) (endE (ta M) n) x y k) k else impF (ta M) (ta J) (endE (ta M) n) x y k := fun _ _ _ => rfl
  have hF0 : ∀ x y, impF (ta M) (ta J) (endE (ta M) n) x y 0 = endE (ta M) n := fun _ _ => rfl
  have hR0 : ∀ x, impR (ta M) (ta J) (endE (ta M) n) n x 0 = [] := fun _ => rfl
  have hT0 : impT (ta M) (ta J) (endE (ta M) n) n 0 = [] := rfl
  have hRR : ∀ x y, impR (ta M) (ta J) (endE (ta M) n) n x (y + 1) = impR (ta M) (ta J) (endE (ta M) n) n x y ++ [impF (ta M) (ta J) (endE (ta M) n) x y n] := fun x y => hR x y
  generalize endE (ta M) n = lo at *
  unfold algC
  refine AC.mk (n := 80) (fn := Tryd.f128) Tryd.func128 (by kernel_rfl) rfl rfl rfl rfl (fun cx => ?_); dsimp only [argv, Nat.reduceAdd]
  (repeat' (first | refine a_seq ?_ | refine a_block ?_ | refine a_region ?_ | refine l_nil ?_ | (apply w_q; (focus (first | exact Q_move (by conv => lhs; whnf) | exact Q_fieldAddr_ptr rfl KFl.h | exact Q_load_ptr rfl rfl rfl KSc.h | exact Q_nilCheck rfl)); (focus exact rfl)))); (try all_goals (try show retA _ _ _ _ _ _ _))
  all_goals first
    | (exfalso; omega)
    | skip
  refine w_nilboxC 0 6 22 1 rfl rfl (by first|(dsimp only[obA,obB,obD,obE,obF,obG,obI,List.map,AO.sh,AV.sh,AV.shl,Nat.reduceAdd];done)|exact rfl) ?_
  refine w_loop (X := Nat) [0, 11] (by simp only [keepv, getv_cons, Nat.reduceEqDiff, ↓reduceIte]; exact rfl) (fun x => [(12, .val (.int .i64 (x : Nat)))]) (fun x => [.box [.val (.int .i64 n), rows (tn M), rows (tn J), .val (.int .u32 0), .val (.int .i32 1), .val (.int .u32 0), .own 1, .val (.int .i64 lo), .val (.int .i64 hi)], .row 22 1 (rowc (tn (impT (ta M) (ta J) lo n x)))]) (fun x => x ≤ n) (fun x => n - x) (0) ([0, 1]) ?_ ?_ rfl ?_ <;> (try dsimp only [List.cons_append, List.nil_append])
  · exact Nat.zero_le _
  · rw [hT0]
    (refine St.le_mk rfl (VwOs.mk (by decide) ?_) ?_ <;> (repeat' (first | exact trivial | exact vwR rfl | exact Vw.ro _ | exact Vw.own _ _ rfl | exact Vw.ptr _ _ _ rfl | exact VwO.row _ _ _ | refine VwO.box' ?_ | refine ⟨⟨_, rfl, ?_⟩, ?_⟩ | refine ⟨?_, ?_⟩ )))
  rintro x hx
  have hTlx := hTl x
  by_cases hxn : x < n
  · (repeat' (first | refine a_seq ?_ | refine a_block ?_ | refine a_skip ?_ | refine a_region ?_ | refine l_nil ?_ | (apply w_q; (focus (first | exact Q_move (by conv => lhs; whnf) | exact Q_assign (by conv => lhs; whnf) | exact Q_fieldAddr_ptr rfl KFl.h | exact Q_load_ptr rfl rfl rfl KSc.h | exact Q_lss rfl rfl | exact Q_nilCheck rfl)); (focus exact rfl)) | (refine a_cond rfl ?_ ?_ <;> (intro h; (try (have hp := of_decide_eq_true h)); (try (have hp := of_decide_eq_false h)); (try contradiction); (try (exfalso; omega)))))); (try all_goals (try show retA _ _ _ _ _ _ _))
    all_goals first
      | (exfalso; omega)
      | skip
    refine w_nilownC 3 3 1 rfl (by first|(dsimp only[obA,obB,obD,obE,obF,obG,obI,List.map,AO.sh,AV.sh,AV.shl,Nat.reduceAdd];done)|exact rfl) rfl ?_
    refine w_loop (X := Nat) [0, 2, 11, 12, 19] (by simp only [keepv, getv_cons, Nat.reduceEqDiff, ↓reduceIte]; exact rfl) (fun y => [(3, .own 2), (20, .val (.int .i64 (y : Nat)))]) (fun y => [.box [.val (.int .i64 n), rows (tn M), rows (tn J), .val (.int .u32 0), .val (.int .i32 1), .val (.int .u32 0), .own 1, .val (.int .i64 lo), .val (.int .i64 hi)], .row 22 1 (rowc (tn (impT (ta M) (ta J) lo n x))), .row 3 1 (intc (nl (impR (ta M) (ta J) lo n x y)))]) (fun y => y ≤ n) (fun y => n - y) (0) ([0, 1, 2]) ?_ ?_ rfl ?_ <;> (try dsimp only [List.cons_append, List.nil_append])
    · exact Nat.zero_le _
    · rw [hR0]
      (refine St.le_mk rfl (VwOs.mk (by decide) ?_) ?_ <;> (repeat' (first | exact trivial | exact vwR rfl | exact Vw.ro _ | exact Vw.own _ _ rfl | exact Vw.ptr _ _ _ rfl | exact VwO.row _ _ _ | refine VwO.box' ?_ | refine ⟨⟨_, rfl, ?_⟩, ?_⟩ | refine ⟨?_, ?_⟩ )))
    rintro y hy
    have hRly := hRl x y
    by_cases hyn : y < n
    · (repeat' (first | refine a_seq ?_ | refine a_block ?_ | refine a_skip ?_ | refine a_region ?_ | refine l_nil ?_ | (apply w_q; (focus (first | exact Q_move (by conv => lhs; whnf) | exact Q_assign (by conv => lhs; whnf) | exact Q_fieldAddr_ptr rfl KFl.h | exact Q_load_ptr rfl rfl rfl KSc.h | exact Q_lss rfl rfl | exact Q_nilCheck rfl)); (focus exact rfl)) | (refine a_cond rfl ?_ ?_ <;> (intro h; (try (have hp := of_decide_eq_true h)); (try (have hp := of_decide_eq_false h)); (try contradiction); (try (exfalso; omega)))))); (try all_goals (try show retA _ _ _ _ _ _ _))
      all_goals first
        | (exfalso; omega)
        | skip
      refine w_loop (X := Nat) [0, 2, 3, 4, 11, 12, 19, 20, 31] (by simp only [keepv, getv_cons, Nat.reduceEqDiff, ↓reduceIte]; exact rfl) (fun u => [(5, .val (.int .i64 (impF (ta M) (ta J) lo x y u : Nat))), (32, .val (.int .i64 (u : Nat)))]) (fun _ => [.box [.val (.int .i64 n), rows (tn M), rows (tn J), .val (.int .u32 0), .val (.int .i32 1), .val (.int .u32 0), .own 1, .val (.int .i64 lo), .val (.int .i64 hi)], .row 22 1 (rowc (tn (impT (ta M) (ta J) lo n x))), .row 3 1 (intc (nl (impR (ta M) (ta J) lo n x y)))]) (fun u => u ≤ n) (fun u => n - u) (0) ([0, 1, 2]) ?_ ?_ rfl ?_ <;> (try dsimp only [List.cons_append, List.nil_append])
      · exact Nat.zero_le _
      · rw [hF0]
        (refine St.le_mk rfl (VwOs.mk (by decide) ?_) ?_ <;> (repeat' (first | exact trivial | exact vwR rfl | exact Vw.ro _ | exact Vw.own _ _ rfl | exact Vw.ptr _ _ _ rfl | exact VwO.row _ _ _ | refine VwO.box' ?_ | refine ⟨⟨_, rfl, ?_⟩, ?_⟩ | refine ⟨?_, ?_⟩ )))
      rintro u hu
      by_cases hun : u < n
      · have hzu := hz x y u hu
        have hm := hM.lt u x hun hxn
        have hFu := hF x y u
        have kL := LLower_ac n M J hM (ta M u x) y hm hyn
        generalize hF1 : impF (ta M) (ta J) lo x y (u + 1) = z1 at *
        generalize impF (ta M) (ta J) lo x y u = z at *
        obtain ⟨b, hb⟩ : ∃ b, decide (ta M (ta M u x) y = ta M u x) = b := ⟨_, rfl⟩
        rw [hb] at kL
        cases b
        · have hne := of_decide_eq_false hb
          rw [if_neg hne] at hFu
          
          (repeat' (first | ((first | apply w_q | apply w_qq); (focus (first | exact Q_ix_tn (by assumption) rfl rfl rfl KSl.h (by first | omega | exact Sq.lt (by assumption) _ _ (by omega) (by omega) | exact Mp.lt (by assumption) _ (by omega) | exact Sq.lt (by assumption) _ _ (by first | omega | exact Mp.lt (by assumption) _ (by omega)) (by first | omega | exact Mp.lt (by assumption) _ (by omega)) | exact Mp.lt (by assumption) _ (by first | exact Sq.lt (by assumption) _ _ (by omega) (by omega) | exact Mp.lt (by assumption) _ (by first | omega | exact Mp.lt (by assumption) _ (by omega)))) | exact Q_ld_tn (by assumption) rfl (by first | omega | exact Sq.lt (by assumption) _ _ (by omega) (by omega) | exact Mp.lt (by assumption) _ (by omega) | exact Sq.lt (by assumption) _ _ (by first | omega | exact Mp.lt (by assumption) _ (by omega)) (by first | omega | exact Mp.lt (by assumption) _ (by omega)) | exact Mp.lt (by assumption) _ (by first | exact Sq.lt (by assumption) _ _ (by omega) (by omega) | exact Mp.lt (by assumption) _ (by first | omega | exact Mp.lt (by assumption) _ (by omega)))) KSc.h | exact Q_ix_tr (by assumption) rfl rfl rfl KSl.h (by first | omega | exact Sq.lt (by assumption) _ _ (by omega) (by omega) | exact Mp.lt (by assumption) _ (by omega) | exact Sq.lt (by assumption) _ _ (by first | omega | exact Mp.lt (by assumption) _ (by omega)) (by first | omega | exact Mp.lt (by assumption) _ (by omega)) | exact Mp.lt (by assumption) _ (by first | exact Sq.lt (by assumption) _ _ (by omega) (by omega) | exact Mp.lt (by assumption) _ (by first | omega | exact Mp.lt (by assumption) _ (by omega)))) (by first | omega | exact Sq.lt (by assumption) _ _ (by omega) (by omega) | exact Mp.lt (by assumption) _ (by omega) | exact Sq.lt (by assumption) _ _ (by first | omega | exact Mp.lt (by assumption) _ (by omega)) (by first | omega | exact Mp.lt (by assumption) _ (by omega)) | exact Mp.lt (by assumption) _ (by first | exact Sq.lt (by assumption) _ _ (by omega) (by omega) | exact Mp.lt (by assumption) _ (by first | omega | exact Mp.lt (by assumption) _ (by omega)))) | exact Q_ld_ta (by assumption) rfl (by first | omega | exact Sq.lt (by assumption) _ _ (by omega) (by omega) | exact Mp.lt (by assumption) _ (by omega) | exact Sq.lt (by assumption) _ _ (by first | omega | exact Mp.lt (by assumption) _ (by omega)) (by first | omega | exact Mp.lt (by assumption) _ (by omega)) | exact Mp.lt (by assumption) _ (by first | exact Sq.lt (by assumption) _ _ (by omega) (by omega) | exact Mp.lt (by assumption) _ (by first | omega | exact Mp.lt (by assumption) _ (by omega)))) (by first | omega | exact Sq.lt (by assumption) _ _ (by omega) (by omega) | exact Mp.lt (by assumption) _ (by omega) | exact Sq.lt (by assumption) _ _ (by first | omega | exact Mp.lt (by assumption) _ (by omega)) (by first | omega | exact Mp.lt (by assumption) _ (by omega)) | exact Mp.lt (by assumption) _ (by first | exact Sq.lt (by assumption) _ _ (by omega) (by omega) | exact Mp.lt (by assumption) _ (by first | omega | exact Mp.lt (by assumption) _ (by omega)))) KSc.h)); (focus exact rfl)) | (first | refine a_seq ?_ | refine a_block ?_ | refine a_skip ?_ | refine a_region ?_ | refine l_nil ?_ | refine q_nil ?_ | ((first | apply w_q | apply w_qq); (focus (first | exact Q_move (by conv => lhs; whnf) | exact Q_assign (by conv => lhs; whnf) | exact Q_fieldAddr_ptr rfl KFl.h | exact Q_load_ptr rfl rfl rfl KSc.h | exact Q_lss rfl rfl | exact Q_add rfl rfl (by omega) | exact Q_nilCheck rfl)); (focus exact rfl)) | (refine a_cond rfl ?_ ?_ <;> (intro h; (try (have hp := of_decide_eq_true h)); (try (have hp := of_decide_eq_false h)); (try contradiction); (try (exfalso; omega)))) | refine a_draw (by kernel_rfl) (by kernel_rfl) ?_ | (((first | apply w_qq); (focus exact Q_load_ptr_agg rfl rfl rfl rfl KAg.h); (focus exact rfl))) | (((first | apply w_qq); (focus (refine Q_call (.inl ⟨rfl, rfl⟩) (kL) ?_; ((repeat' (first | exact trivial | exact vwR rfl | exact vwRL rfl | exact Vw.ro _ | refine Vw.agg' ?_ | refine ⟨?_, ?_⟩ )); done))); (focus exact rfl)))))); (try all_goals (try show retA _ _ _ _ _ _ _))
          all_goals first
            | (exfalso; omega)
            | (exfalso; simp at *; done)
            | (refine ⟨u + 1, [0, 1, 2], ?_, ?_, ?_, rfl⟩ <;> (try dsimp only)
               · omega
               · omega
               · rw [hF1, hFu]; (refine St.le_mk rfl (VwOs.mk (by decide) ?_) ?_ <;> (repeat' (first | exact trivial | exact vwR rfl | exact Vw.ro _ | exact Vw.own _ _ rfl | exact Vw.ptr _ _ _ rfl | exact VwO.row _ _ _ | refine VwO.box' ?_ | refine ⟨⟨_, rfl, ?_⟩, ?_⟩ | refine ⟨?_, ?_⟩ ))))
            | (all_goals trace_state); fail
        · have hye := of_decide_eq_true hb
          rw [if_pos hye] at hFu
          
          (repeat' (first | ((first | apply w_q | apply w_qq); (focus (first | exact Q_ix_tn (by assumption) rfl rfl rfl KSl.h (by first | omega | exact Sq.lt (by assumption) _ _ (by omega) (by omega) | exact Mp.lt (by assumption) _ (by omega) | exact Sq.lt (by assumption) _ _ (by first | omega | exact Mp.lt (by assumption) _ (by omega)) (by first | omega | exact Mp.lt (by assumption) _ (by omega)) | exact Mp.lt (by assumption) _ (by first | exact Sq.lt (by assumption) _ _ (by omega) (by omega) | exact Mp.lt (by assumption) _ (by first | omega | exact Mp.lt (by assumption) _ (by omega)))) | exact Q_ld_tn (by assumption) rfl (by first | omega | exact Sq.lt (by assumption) _ _ (by omega) (by omega) | exact Mp.lt (by assumption) _ (by omega) | exact Sq.lt (by assumption) _ _ (by first | omega | exact Mp.lt (by assumption) _ (by omega)) (by first | omega | exact Mp.lt (by assumption) _ (by omega)) | exact Mp.lt (by assumption) _ (by first | exact Sq.lt (by assumption) _ _ (by omega) (by omega) | exact Mp.lt (by assumption) _ (by first | omega | exact Mp.lt (by assumption) _ (by omega)))) KSc.h | exact Q_ix_tr (by assumption) rfl rfl rfl KSl.h (by first | omega | exact Sq.lt (by assumption) _ _ (by omega) (by omega) | exact Mp.lt (by assumption) _ (by omega) | exact Sq.lt (by assumption) _ _ (by first | omega | exact Mp.lt (by assumption) _ (by omega)) (by first | omega | exact Mp.lt (by assumption) _ (by omega)) | exact Mp.lt (by assumption) _ (by first | exact Sq.lt (by assumption) _ _ (by omega) (by omega) | exact Mp.lt (by assumption) _ (by first | omega | exact Mp.lt (by assumption) _ (by omega)))) (by first | omega | exact Sq.lt (by assumption) _ _ (by omega) (by omega) | exact Mp.lt (by assumption) _ (by omega) | exact Sq.lt (by assumption) _ _ (by first | omega | exact Mp.lt (by assumption) _ (by omega)) (by first | omega | exact Mp.lt (by assumption) _ (by omega)) | exact Mp.lt (by assumption) _ (by first | exact Sq.lt (by assumption) _ _ (by omega) (by omega) | exact Mp.lt (by assumption) _ (by first | omega | exact Mp.lt (by assumption) _ (by omega)))) | exact Q_ld_ta (by assumption) rfl (by first | omega | exact Sq.lt (by assumption) _ _ (by omega) (by omega) | exact Mp.lt (by assumption) _ (by omega) | exact Sq.lt (by assumption) _ _ (by first | omega | exact Mp.lt (by assumption) _ (by omega)) (by first | omega | exact Mp.lt (by assumption) _ (by omega)) | exact Mp.lt (by assumption) _ (by first | exact Sq.lt (by assumption) _ _ (by omega) (by omega) | exact Mp.lt (by assumption) _ (by first | omega | exact Mp.lt (by assumption) _ (by omega)))) (by first | omega | exact Sq.lt (by assumption) _ _ (by omega) (by omega) | exact Mp.lt (by assumption) _ (by omega) | exact Sq.lt (by assumption) _ _ (by first | omega | exact Mp.lt (by assumption) _ (by omega)) (by first | omega | exact Mp.lt (by assumption) _ (by omega)) | exact Mp.lt (by assumption) _ (by first | exact Sq.lt (by assumption) _ _ (by omega) (by omega) | exact Mp.lt (by assumption) _ (by first | omega | exact Mp.lt (by assumption) _ (by omega)))) KSc.h)); (focus exact rfl)) | (first | refine a_seq ?_ | refine a_block ?_ | refine a_skip ?_ | refine a_region ?_ | refine l_nil ?_ | refine q_nil ?_ | ((first | apply w_q | apply w_qq); (focus (first | exact Q_move (by conv => lhs; whnf) | exact Q_assign (by conv => lhs; whnf) | exact Q_fieldAddr_ptr rfl KFl.h | exact Q_load_ptr rfl rfl rfl KSc.h | exact Q_lss rfl rfl | exact Q_add rfl rfl (by omega) | exact Q_nilCheck rfl)); (focus exact rfl)) | (refine a_cond rfl ?_ ?_ <;> (intro h; (try (have hp := of_decide_eq_true h)); (try (have hp := of_decide_eq_false h)); (try contradiction); (try (exfalso; omega)))) | refine a_draw (by kernel_rfl) (by kernel_rfl) ?_ | (((first | apply w_qq); (focus exact Q_load_ptr_agg rfl rfl rfl rfl KAg.h); (focus exact rfl))) | (((first | apply w_qq); (focus (refine Q_call (.inl ⟨rfl, rfl⟩) (kL) ?_; ((repeat' (first | exact trivial | exact vwR rfl | exact vwRL rfl | exact Vw.ro _ | refine Vw.agg' ?_ | refine ⟨?_, ?_⟩ )); done))); (focus exact rfl)))))); (try all_goals (try show retA _ _ _ _ _ _ _))
          all_goals first
            | (exfalso; omega)
            | (exfalso; simp at *; done)
            | (refine ⟨u + 1, [0, 1, 2], ?_, ?_, ?_, rfl⟩ <;> (try dsimp only)
               · omega
               · omega
               · rw [hF1, hFu]; (refine St.le_mk rfl (VwOs.mk (by decide) ?_) ?_ <;> (repeat' (first | exact trivial | exact vwR rfl | exact Vw.ro _ | exact Vw.own _ _ rfl | exact Vw.ptr _ _ _ rfl | exact VwO.row _ _ _ | refine VwO.box' ?_ | refine ⟨⟨_, rfl, ?_⟩, ?_⟩ | refine ⟨?_, ?_⟩ ))))
            | (all_goals trace_state); fail
      · obtain rfl : u = n := by omega
        have hRy := hRR x y
        generalize impR (ta M) (ta J) lo u x y = ry at *
        generalize impF (ta M) (ta J) lo x y u = z at *
        (repeat' (first | refine a_seq ?_ | refine a_exit ?_ | refine a_region ?_ | refine l_nil ?_ | (apply w_q; (focus (first | exact Q_move (by conv => lhs; whnf) | exact Q_assign (by conv => lhs; whnf) | exact Q_lss rfl rfl | exact Q_add rfl rfl (by omega))); (focus exact rfl)) | (refine a_cond rfl ?_ ?_ <;> (intro h; (try (have hp := of_decide_eq_true h)); (try (have hp := of_decide_eq_false h)); (try contradiction); (try (exfalso; omega)))) | refine w_ap_nats rfl rfl rfl rfl KSl.h KMk.h (by simp; omega) (by first|(dsimp only[obA,obB,obD,obE,obF,obG,obI,List.map,AO.sh,AV.sh,AV.shl,Nat.reduceAdd];done)|exact rfl) (by first|(dsimp only[obA,obB,obD,obE,obF,obG,obI,List.map,AO.sh,AV.sh,AV.shl,Nat.reduceAdd];done)|exact rfl) rfl ?_ | refine w_lit_nat rfl KSl.h KMk.h (by first|(dsimp only[obA,obB,obD,obE,obF,obG,obI,List.map,AO.sh,AV.sh,AV.shl,Nat.reduceAdd];done)|exact rfl) (by first|(dsimp only[obA,obB,obD,obE,obF,obG,obI,List.map,AO.sh,AV.sh,AV.shl,Nat.reduceAdd];done)|exact rfl) rfl ?_)); (try all_goals (try show retA _ _ _ _ _ _ _))
        all_goals first
          | (exfalso; omega)
          | (refine ⟨y + 1, [0, 1, 4], ?_, ?_, ?_, rfl⟩ <;> (try dsimp only)
             · omega
             · omega
             · rw [hRy]; (refine St.le_mk rfl (VwOs.mk (by decide) ?_) ?_ <;> (repeat' (first | exact trivial | exact vwR rfl | exact Vw.ro _ | exact Vw.own _ _ rfl | exact Vw.ptr _ _ _ rfl | exact VwO.row _ _ _ | refine VwO.box' ?_ | refine ⟨⟨_, rfl, ?_⟩, ?_⟩ | refine ⟨?_, ?_⟩ ))))
          | (all_goals trace_state); fail
    · obtain rfl : y = n := by omega
      have hTx := hT x
      generalize impT (ta M) (ta J) lo y x = tx at *
      generalize impR (ta M) (ta J) lo y x y = ry at *
      have htn : tn (tx ++ [ry]) = tn tx ++ [nl ry] := by unfold tn; rw [List.map_append]; rfl
      have htl := tn_len tx
      (repeat' (first | refine a_seq ?_ | refine a_exit ?_ | refine a_region ?_ | refine l_nil ?_ | (apply w_q; (focus (first | exact Q_move (by conv => lhs; whnf) | exact Q_fieldAddr_ptr rfl KFl.h | exact Q_load_ptr rfl rfl rfl KSc.h | exact Q_lss rfl rfl | exact Q_add rfl rfl (by omega) | exact Q_nilCheck rfl)); (focus exact rfl)) | (refine a_cond rfl ?_ ?_ <;> (intro h; (try (have hp := of_decide_eq_true h)); (try (have hp := of_decide_eq_false h)); (try contradiction); (try (exfalso; omega)))) | refine w_store rfl rfl rfl (by conv => lhs; whnf) rfl KSz.h (by first|(dsimp only[obA,obB,obD,obE,obF,obG,obI,List.map,AO.sh,AV.sh,AV.shl,Nat.reduceAdd];done)|exact rfl) (by first|(dsimp only[obA,obB,obD,obE,obF,obG,obI,List.map,AO.sh,AV.sh,AV.shl,Nat.reduceAdd];done)|exact rfl) ?_ | refine w_lit_r1o rfl rfl KSl.h KMk.h (by first|(dsimp only[obA,obB,obD,obE,obF,obG,obI,List.map,AO.sh,AV.sh,AV.shl,Nat.reduceAdd];done)|exact rfl) (by first|(dsimp only[obA,obB,obD,obE,obF,obG,obI,List.map,AO.sh,AV.sh,AV.shl,Nat.reduceAdd];done)|exact rfl) (by first|(dsimp only[obA,obB,obD,obE,obF,obG,obI,List.map,AO.sh,AV.sh,AV.shl,Nat.reduceAdd];done)|exact rfl) rfl ?_ | refine w_ap_rows rfl rfl (by first | exact .inl rfl | exact .inr (.inl ⟨_, _, rfl, rfl⟩) | exact .inr (.inr ⟨rfl, rfl⟩)) KSl.h KMk.h (by simp; omega) (by first|(dsimp only[obA,obB,obD,obE,obF,obG,obI,List.map,AO.sh,AV.sh,AV.shl,Nat.reduceAdd];done)|exact rfl) (by first|(dsimp only[obA,obB,obD,obE,obF,obG,obI,List.map,AO.sh,AV.sh,AV.shl,Nat.reduceAdd];done)|exact rfl) rfl ?_)); (try all_goals (try show retA _ _ _ _ _ _ _))
      all_goals first
        | (exfalso; omega)
        | (refine ⟨x + 1, [0, 4], ?_, ?_, ?_, rfl⟩ <;> (try dsimp only)
           · omega
           · omega
           · rw [hTx, htn]; (refine St.le_mk rfl (VwOs.mk (by decide) ?_) ?_ <;> (repeat' (first | exact trivial | exact vwR rfl | exact Vw.ro _ | exact Vw.own _ _ rfl | exact Vw.ptr _ _ _ rfl | exact VwO.row _ _ _ | refine VwO.box' ?_ | refine ⟨⟨_, rfl, ?_⟩, ?_⟩ | refine ⟨?_, ?_⟩ ))))
        | (all_goals trace_state); fail
  · obtain rfl : x = n := by omega
    (repeat' (first | refine a_seq ?_ | refine a_exit ?_ | refine a_region ?_ | refine l_nil ?_ | (apply w_q; (focus (first | exact Q_lss rfl rfl)); (focus exact rfl)) | (refine a_cond rfl ?_ ?_ <;> (intro h; (try (have hp := of_decide_eq_true h)); (try (have hp := of_decide_eq_false h)); (try contradiction); (try (exfalso; omega)))))); (try all_goals (try show retA _ _ _ _ _ _ _))
    all_goals first
      | (exfalso; omega)
      | (refine ⟨[], [0, 1], trivial, VwOs.mk (by decide) ⟨⟨_, rfl, .box' ⟨.val _, .ro _, .ro _, .val _, .val _, .val _, .own _ _ rfl, .val _, .val _, trivial⟩⟩, ⟨⟨_, rfl, .row _ _ _⟩, trivial⟩⟩, ?_, rfl⟩; (repeat' (first | exact trivial | refine Vw.tup' ?_)); done)
      | (all_goals trace_state); fail
end Go.Proofs.YtbgecpjlopdkfaaDoor
