import Derived.Test.YtpfldhaaiglgdaaDoorSch
set_option linter.unusedSimpArgs false
set_option linter.unusedVariables false
set_option linter.unusedSectionVars false
set_option maxRecDepth 20000
namespace Go.Proofs.YtpfldhaaiglgdaaDoor
attribute [local irreducible] QOp aL aC qL
section
variable {P : Program} {k : Nat} {cx : Cx k} {ops : Array Oper} {Q : Exit → St → Prop} {rest : List Oper} {ty : TypeId} {pos : String} {af : Array Edge} {d : Option Tmp} {n : Nat} {vars : List (Nat × AV)} {objs objs' : List AO}
theorem w_callP1 [Zs] {g : Operand} {xs : Array Operand} {ats : Array TypeId} {f : FuncId} (i : Nat) (cs us : List Value) {v : Value} (hc : APn P f (.ptr 0 0 :: us.map .val) [.box (cs.map .val)] v) (hg : (⟨n, vars, objs⟩ : St).ev g = .val (.func (.func f) #[] #[]))
    (hv : evs ⟨n, vars, objs⟩ xs = .ptr i 0 :: us.map .val) (ho : objs[i]? = some (.box (cs.map .val))) (hobj : objs.set i .gone = objs')
    (hk : Q (.panic (pan v)) ⟨n, vars, objs'⟩) : aL P cx ops Q (⟨d, .call ⟨.value g, xs, ats⟩, ty, pos, af, none⟩ :: rest) ⟨n, vars, objs⟩ := by
  subst hobj; exact l_callP1 hc hg hv ho hk
end
theorem need_l (s : ByteArray) (p c : Nat) (hs : s.size ≤ 2000) (h1 : p ≤ s.size) (hc : ¬ (p < s.size ∧ bt s p = c)) : APn Tryd.prog 60 [.ptr 0 0, .val (.int .u8 (c : Nat))] [.box [.val (.string s), .val (.int .i64 (p : Nat))]] (flt 1 p) :=
  need_bad s p c hs h1 (by
    by_cases h : p = s.size
    · exact .inl h
    · exact .inr fun h2 => hc ⟨by omega, h2⟩)
set_option maxRecDepth 20000 in
set_option maxHeartbeats 2000000 in
theorem Read_bad (s : ByteArray) (c : Int) (q : Nat) (hr : rdR s = .inl (c, q)) : AC Tryd.prog 15 [.val (.string s)] [] (.tup [.agg [.val (.int .i64 0), .val (.slice none 0 0)], .agg [.val (.int .i64 c), .val (.int .i64 (q : Nat))]]) [] := by
  skip
  refine AC.mkP (n := 57) (fn := Tryd.f15) (vars0 := [(3, .ptr 1 0), (2, .ptr 0 0), (0, .val (.string s))]) (c1 := zc1) (c2 := zc2) (o1 := 2) (o2 := 3) Tryd.func15 (by kernel_rfl) rfl rfl rfl rfl rfl (fun cx => ?_) rfl rfl (read_catch c q) ?_ (fun cx D => ?_)
  · dsimp only [argv, Nat.reduceAdd]
    (repeat' (first | refine a_region ?_ | refine l_nil ?_ | refine w_alloc KMk.h (by first|(dsimp only[obA,obB,obD,obE,obF,obG,obI,List.map,AO.sh,AV.sh,AV.shl,Nat.reduceAdd];done)|exact rfl) rfl (by first|(dsimp only[obA,obB,obD,obE,obF,obG,obI,List.map,AO.sh,AV.sh,AV.shl,Nat.reduceAdd];done)|exact rfl) (by first|(dsimp only[obA,obB,obD,obE,obF,obG,obI,List.map,AO.sh,AV.sh,AV.shl,Nat.reduceAdd];done)|exact rfl) rfl ?_)); (try all_goals (try show retA _ _ _ _ _ _ _))
    all_goals first
      | exact rfl
      | (all_goals trace_state); fail
  · refine ⟨[_, _], [], ⟨resV_cell rfl rfl KAg.h, resV_cell rfl rfl KAg.h, trivial⟩, VwOs.mk (by decide) trivial, ?_, rfl⟩
    (repeat' (first | exact trivial | exact vwRL rfl | refine Vw.agg' ?_ | refine Vw.tup' ?_ | refine ⟨?_, ?_⟩ ))
  · unfold rdR at hr
    split at hr
    · rename_i h2000
      cases hr
      (repeat' (first | refine k_seq ?_ | refine k_region (by kernel_rfl) (fun _ h => h) ?_ | refine l_nil ?_ | (apply w_q; (focus (first | exact Q_move (by conv => lhs; whnf) | exact Q_gtr rfl rfl)); (focus exact rfl)) | (refine k_cond rfl ?_ ?_ <;> (intro h; (try (have hp := of_decide_eq_true h)); (try (have hp := of_decide_eq_false h)); (try contradiction); (try (exfalso; omega)))) | (((first | apply w_q); (focus exact Q_slen rfl (by kernel_rfl)); (focus exact rfl))) | ((refine l_callP0 (vs := [.int .i64 2, .int .i64 ((0 : Nat) : Int)]) (fail_ap 2 ((0 : Nat) : Int)) rfl rfl ?_; refine panD_intro ?_; (refine St.le_mk rfl (VwOs.mk (by decide) ?_) ?_ <;> (repeat' (first | exact trivial | exact vwR rfl | exact Vw.ptr _ _ _ rfl | refine VwO.box' ?_ | refine ⟨⟨_, rfl, ?_⟩, ?_⟩ | refine ⟨?_, ?_⟩ ))))))); (try all_goals (try show retA _ _ _ _ _ _ _))
      all_goals first
        | (exfalso; omega)
        | (all_goals trace_state); fail
    rename_i h2000
    have hs : s.size ≤ 2000 := by omega
    split at hr
    · rename_i x hnum
      cases hr
      have kP := number_l hs (Nat.zero_le _) hnum
      (repeat' (first | refine k_seq ?_ | refine k_skip ?_ | refine k_region (by kernel_rfl) (fun _ h => h) ?_ | refine l_nil ?_ | (apply w_q; (focus (first | exact Q_move (by conv => lhs; whnf) | exact Q_assign (by conv => lhs; whnf) | exact Q_gtr rfl rfl | exact Q_build1 KBd.h (by conv => lhs; whnf) (by conv => lhs; whnf) rfl rfl rfl (by simp only [List.map_cons, List.map_nil, List.take_succ_cons, List.take_zero, List.drop_succ_cons, List.drop_zero, List.drop_nil, List.nil_append, List.cons_append, List.append_nil, List.length_cons, List.length_nil, Nat.reduceAdd, Nat.reduceMul]; exact rfl))); (focus exact rfl)) | (refine k_cond rfl ?_ ?_ <;> (intro h; (try (have hp := of_decide_eq_true h)); (try (have hp := of_decide_eq_false h)); (try contradiction); (try (exfalso; omega)))) | refine w_box rfl rfl (by first|(dsimp only[obA,obB,obD,obE,obF,obG,obI,List.map,AO.sh,AV.sh,AV.shl,Nat.reduceAdd];done)|exact rfl) (by first|(dsimp only[obA,obB,obD,obE,obF,obG,obI,List.map,AO.sh,AV.sh,AV.shl,Nat.reduceAdd];done)|exact rfl) rfl ?_ | (((first | apply w_q); (focus exact Q_slen rfl (by kernel_rfl)); (focus exact rfl))) | ((refine w_callP1 2 [.string s, .int .i64 ((0 : Nat) : Int)] [.int .i64 10, .int .i64 2] kP rfl rfl rfl (by first|(dsimp only[obA,obB,obD,obE,obF,obG,obI,List.map,AO.sh,AV.sh,AV.shl,Nat.reduceAdd];done)|exact rfl) ?_; refine panD_intro ?_; (refine St.le_mk rfl (VwOs.mk (by decide) ?_) ?_ <;> (repeat' (first | exact trivial | exact vwR rfl | exact Vw.ptr _ _ _ rfl | refine VwO.box' ?_ | refine ⟨⟨_, rfl, ?_⟩, ?_⟩ | refine ⟨?_, ?_⟩ ))))))); (try all_goals (try show retA _ _ _ _ _ _ _))
      all_goals first
        | (exfalso; omega)
        | (all_goals trace_state); fail
    rename_i n' e0 hnum
    have b0 := numR_end (Nat.zero_le _) hnum
    have k1 := number_r hs (Nat.zero_le _) hnum
    rw [show ((0 : Nat) : Int) = 0 from rfl] at k1
    clear hnum
    split at hr
    rotate_left 1
    · rename_i hcol
      cases hr
      have kP := need_l s _ 58 hs b0.2.1 hcol
      (repeat' (first | refine k_seq ?_ | refine k_skip ?_ | refine k_region (by kernel_rfl) (fun _ h => h) ?_ | refine l_nil ?_ | (apply w_q; (focus (first | exact Q_move (by conv => lhs; whnf) | exact Q_assign (by conv => lhs; whnf) | exact Q_gtr rfl rfl | exact Q_build1 KBd.h (by conv => lhs; whnf) (by conv => lhs; whnf) rfl rfl rfl (by simp only [List.map_cons, List.map_nil, List.take_succ_cons, List.take_zero, List.drop_succ_cons, List.drop_zero, List.drop_nil, List.nil_append, List.cons_append, List.append_nil, List.length_cons, List.length_nil, Nat.reduceAdd, Nat.reduceMul]; exact rfl))); (focus exact rfl)) | (refine k_cond rfl ?_ ?_ <;> (intro h; (try (have hp := of_decide_eq_true h)); (try (have hp := of_decide_eq_false h)); (try contradiction); (try (exfalso; omega)))) | refine w_box rfl rfl (by first|(dsimp only[obA,obB,obD,obE,obF,obG,obI,List.map,AO.sh,AV.sh,AV.shl,Nat.reduceAdd];done)|exact rfl) (by first|(dsimp only[obA,obB,obD,obE,obF,obG,obI,List.map,AO.sh,AV.sh,AV.shl,Nat.reduceAdd];done)|exact rfl) rfl ?_ | (((first | apply w_q); (focus exact Q_slen rfl (by kernel_rfl)); (focus exact rfl))) | ((refine w_callW (res := .val (.int .i64 (n' : Nat))) (news := [.box [.val (.string s), .val (.int .i64 (q : Nat))]]) [2] (.inl ⟨rfl, rfl⟩) (k1) ?_ ?_ rfl rfl (by decide) ?_ rfl rfl ?_ (by first | (dsimp only [List.map, putL, AO.rn, AV.rn, AV.rnl, rn_ints, rn_rows, rn_pairs, List.map_cons, List.map_nil, List.set_cons_zero, List.set_cons_succ, List.getD_cons_zero, List.getD_cons_succ]; done) | exact rfl) (by first | (dsimp only [List.map, putL, AO.rn, AV.rn, AV.rnl, rn_ints, rn_rows, rn_pairs, List.map_cons, List.map_nil, List.set_cons_zero, List.set_cons_succ, List.getD_cons_zero, List.getD_cons_succ]; done) | exact rfl) rfl ?_; rotate_left 0; (focus exact rfl); (focus exact rfl); (focus exact rfl); (focus exact rfl); rotate_left 1; all_goals (try (skip)))) | ((refine w_callP1 2 [.string s, .int .i64 (q : Nat)] [.int .u8 58] kP rfl rfl rfl (by first|(dsimp only[obA,obB,obD,obE,obF,obG,obI,List.map,AO.sh,AV.sh,AV.shl,Nat.reduceAdd];done)|exact rfl) ?_; refine panD_intro ?_; (refine St.le_mk rfl (VwOs.mk (by decide) ?_) ?_ <;> (repeat' (first | exact trivial | exact vwR rfl | exact Vw.ptr _ _ _ rfl | refine VwO.box' ?_ | refine ⟨⟨_, rfl, ?_⟩, ?_⟩ | refine ⟨?_, ?_⟩ ))))))); (try all_goals (try show retA _ _ _ _ _ _ _))
      all_goals first
        | (exfalso; omega)
        | (all_goals trace_state); fail
    · rename_i hcol
      obtain ⟨he0, hs0⟩ := hcol
      have k2 := need_r s e0 58 hs he0 hs0
      split at hr
      rotate_left 1
      · cases hr
      rename_i x hprs
      cases hr
      (repeat' (first | refine k_seq ?_ | refine k_block ?_ | refine k_skip ?_ | refine k_region (by kernel_rfl) (fun _ h => h) ?_ | refine l_nil ?_ | (apply w_q; (focus (first | exact Q_move (by conv => lhs; whnf) | exact Q_assign (by conv => lhs; whnf) | exact Q_gtr rfl rfl | exact Q_build1 KBd.h (by conv => lhs; whnf) (by conv => lhs; whnf) rfl rfl rfl (by simp only [List.map_cons, List.map_nil, List.take_succ_cons, List.take_zero, List.drop_succ_cons, List.drop_zero, List.drop_nil, List.nil_append, List.cons_append, List.append_nil, List.length_cons, List.length_nil, Nat.reduceAdd, Nat.reduceMul]; exact rfl))); (focus exact rfl)) | (refine k_cond rfl ?_ ?_ <;> (intro h; (try (have hp := of_decide_eq_true h)); (try (have hp := of_decide_eq_false h)); (try contradiction); (try (exfalso; omega)))) | refine w_box rfl rfl (by first|(dsimp only[obA,obB,obD,obE,obF,obG,obI,List.map,AO.sh,AV.sh,AV.shl,Nat.reduceAdd];done)|exact rfl) (by first|(dsimp only[obA,obB,obD,obE,obF,obG,obI,List.map,AO.sh,AV.sh,AV.shl,Nat.reduceAdd];done)|exact rfl) rfl ?_ | (((first | apply w_q); (focus exact Q_slen rfl (by kernel_rfl)); (focus exact rfl))) | ((refine w_callW (res := .val (.int .i64 (n' : Nat))) (news := [.box [.val (.string s), .val (.int .i64 (e0 : Nat))]]) [2] (.inl ⟨rfl, rfl⟩) (k1) ?_ ?_ rfl rfl (by decide) ?_ rfl rfl ?_ (by first | (dsimp only [List.map, putL, AO.rn, AV.rn, AV.rnl, rn_ints, rn_rows, rn_pairs, List.map_cons, List.map_nil, List.set_cons_zero, List.set_cons_succ, List.getD_cons_zero, List.getD_cons_succ]; done) | exact rfl) (by first | (dsimp only [List.map, putL, AO.rn, AV.rn, AV.rnl, rn_ints, rn_rows, rn_pairs, List.map_cons, List.map_nil, List.set_cons_zero, List.set_cons_succ, List.getD_cons_zero, List.getD_cons_succ]; done) | exact rfl) rfl ?_; rotate_left 0; (focus exact rfl); (focus exact rfl); (focus exact rfl); (focus exact rfl); rotate_left 1; all_goals (try (skip)))) | ((refine w_callW (res := .tup []) (news := [.box [.val (.string s), .val (.int .i64 ((e0 + 1 : Nat) : Int))]]) [2] (.inl ⟨rfl, rfl⟩) (k2) ?_ ?_ rfl rfl (by decide) ?_ rfl rfl ?_ (by first | (dsimp only [List.map, putL, AO.rn, AV.rn, AV.rnl, rn_ints, rn_rows, rn_pairs, List.map_cons, List.map_nil, List.set_cons_zero, List.set_cons_succ, List.getD_cons_zero, List.getD_cons_succ]; done) | exact rfl) (by first | (dsimp only [List.map, putL, AO.rn, AV.rn, AV.rnl, rn_ints, rn_rows, rn_pairs, List.map_cons, List.map_nil, List.set_cons_zero, List.set_cons_succ, List.getD_cons_zero, List.getD_cons_succ]; done) | exact rfl) rfl ?_; rotate_left 0; (focus exact rfl); (focus exact rfl); (focus exact rfl); (focus exact rfl); rotate_left 1; all_goals (try (skip)))))); (try all_goals (try show retA _ _ _ _ _ _ _))
      all_goals first
        | (exfalso; omega)
        | skip
      refine k_nilownC 6 86 2 rfl (by first|(dsimp only[obA,obB,obD,obE,obF,obG,obI,List.map,AO.sh,AV.sh,AV.shl,Nat.reduceAdd];done)|exact rfl) rfl ?_
      (repeat' (first | fail)); (try all_goals (try show retA _ _ _ _ _ _ _))
      refine k_wloop (X := Nat × List (Nat × Nat) × Nat) [0, 2, 3, 4, 5] (by simp only [keepv, getv_cons, Nat.reduceEqDiff, ↓reduceIte]; exact rfl) (fun _ => [(6, .own 3)]) (fun x => [.box zc1, .box zc2, .box [.val (.string s), .val (.int .i64 (x.1 : Nat))], .row 86 2 (pairc (pn x.2.1))]) (fun x => prR s n' x.2.2 x.1 x.2.1 = .inl (c, q) ∧ x.1 ≤ s.size ∧ s.size < x.1 + x.2.2 ∧ x.2.1.length ≤ x.1) (fun x => x.2.2) ((e0 + 1, [], s.size - e0)) ([0, 1, 2, 3]) ?_ ?_ rfl ?_ <;> (try dsimp only [List.cons_append, List.nil_append])
      · exact ⟨hprs, by omega, by show s.size < e0 + 1 + (s.size - e0); omega, Nat.zero_le _⟩
      · (refine St.le_mk rfl (VwOs.mk (by decide) ?_) ?_ <;> (repeat' (first | exact trivial | exact vwR rfl | exact Vw.own _ _ rfl | exact Vw.ptr _ _ _ rfl | exact VwO.row _ _ _ | refine VwO.box' ?_ | refine ⟨⟨_, rfl, ?_⟩, ?_⟩ | refine ⟨?_, ?_⟩ )))
      rintro ⟨p, M, f⟩ ⟨i1, i2, i3, i4⟩
      dsimp only at i1 i2 i3 i4 ⊢
      clear hprs k1 k2
      rcases f with _ | f
      · omega
      unfold prR at i1
      split at i1
      rotate_left 1
      · cases i1
      rename_i hpl
      split at i1
      rotate_left 1
      · rename_i hsp
        cases i1
        have kP := need_l s _ 32 hs i2 (fun h => hsp h.2)
        (repeat' (first | refine k_seq ?_ | refine k_block ?_ | refine k_skip ?_ | refine k_region (by kernel_rfl) (fun _ h => h) ?_ | refine l_nil ?_ | (apply w_q; (focus (first | exact Q_move (by conv => lhs; whnf) | exact Q_fieldAddr_ptr rfl KFl.h | exact Q_load_ptr rfl rfl rfl KSc.h | exact Q_lss rfl rfl | exact Q_nilCheck rfl)); (focus exact rfl)) | (refine k_cond rfl ?_ ?_ <;> (intro h; (try (have hp := of_decide_eq_true h)); (try (have hp := of_decide_eq_false h)); (try contradiction); (try (exfalso; omega)))) | (((first | apply w_q); (focus exact Q_slen rfl (by kernel_rfl)); (focus exact rfl))) | ((refine w_callP1 2 [.string s, .int .i64 (q : Nat)] [.int .u8 32] kP rfl rfl rfl (by first|(dsimp only[obA,obB,obD,obE,obF,obG,obI,List.map,AO.sh,AV.sh,AV.shl,Nat.reduceAdd];done)|exact rfl) ?_; refine panD_intro ?_; (refine St.le_mk rfl (VwOs.mk (by decide) ?_) ?_ <;> (repeat' (first | exact trivial | exact vwR rfl | exact Vw.ptr _ _ _ rfl | refine VwO.box' ?_ | refine ⟨⟨_, rfl, ?_⟩, ?_⟩ | refine ⟨?_, ?_⟩ ))))))); (try all_goals (try show retA _ _ _ _ _ _ _))
        all_goals first
          | (exfalso; omega)
          | (all_goals trace_state); fail
      rename_i hsp
      have k3 := need_r s p 32 hs hpl hsp
      split at i1
      · rename_i x hn1
        cases i1
        have kP := number_l hs (show p + 1 ≤ s.size by omega) hn1
        (repeat' (first | refine k_seq ?_ | refine k_block ?_ | refine k_skip ?_ | refine k_region (by kernel_rfl) (fun _ h => h) ?_ | refine l_nil ?_ | (apply w_q; (focus (first | exact Q_move (by conv => lhs; whnf) | exact Q_fieldAddr_ptr rfl KFl.h | exact Q_load_ptr rfl rfl rfl KSc.h | exact Q_lss rfl rfl | exact Q_sub rfl rfl (by omega) | exact Q_nilCheck rfl)); (focus exact rfl)) | (refine k_cond rfl ?_ ?_ <;> (intro h; (try (have hp := of_decide_eq_true h)); (try (have hp := of_decide_eq_false h)); (try contradiction); (try (exfalso; omega)))) | (((first | apply w_q); (focus exact Q_slen rfl (by kernel_rfl)); (focus exact rfl))) | ((refine w_callW (res := .tup []) (news := [.box [.val (.string s), .val (.int .i64 ((p + 1 : Nat) : Int))]]) [2] (.inl ⟨rfl, rfl⟩) (k3) ?_ ?_ rfl rfl (by decide) ?_ rfl rfl ?_ (by first | (dsimp only [List.map, putL, AO.rn, AV.rn, AV.rnl, rn_ints, rn_rows, rn_pairs, List.map_cons, List.map_nil, List.set_cons_zero, List.set_cons_succ, List.getD_cons_zero, List.getD_cons_succ]; done) | exact rfl) (by first | (dsimp only [List.map, putL, AO.rn, AV.rn, AV.rnl, rn_ints, rn_rows, rn_pairs, List.map_cons, List.map_nil, List.set_cons_zero, List.set_cons_succ, List.getD_cons_zero, List.getD_cons_succ]; done) | exact rfl) rfl ?_; rotate_left 0; (focus exact rfl); (focus exact rfl); (focus exact rfl); (focus exact rfl); rotate_left 1; all_goals (try (skip)))) | ((refine w_callP1 2 [.string s, .int .i64 ((p + 1 : Nat) : Int)] [.int .i64 ((n' : Int) - 1), .int .i64 3] kP rfl rfl rfl (by first|(dsimp only[obA,obB,obD,obE,obF,obG,obI,List.map,AO.sh,AV.sh,AV.shl,Nat.reduceAdd];done)|exact rfl) ?_; refine panD_intro ?_; (refine St.le_mk rfl (VwOs.mk (by decide) ?_) ?_ <;> (repeat' (first | exact trivial | exact vwR rfl | exact Vw.ptr _ _ _ rfl | refine VwO.box' ?_ | refine ⟨⟨_, rfl, ?_⟩, ?_⟩ | refine ⟨?_, ?_⟩ ))))))); (try all_goals (try show retA _ _ _ _ _ _ _))
        all_goals first
          | (exfalso; omega)
          | (all_goals trace_state); fail
      rename_i a e1 hn1
      have c1 := numR_end (show p + 1 ≤ s.size by omega) hn1
      have k4 := number_r hs (show p + 1 ≤ s.size by omega) hn1
      clear hn1
      split at i1
      rotate_left 1
      · rename_i hlt
        cases i1
        have kP := need_l s _ 60 hs c1.2.1 hlt
        (repeat' (first | refine k_seq ?_ | refine k_block ?_ | refine k_skip ?_ | refine k_region (by kernel_rfl) (fun _ h => h) ?_ | refine l_nil ?_ | (apply w_q; (focus (first | exact Q_move (by conv => lhs; whnf) | exact Q_assign (by conv => lhs; whnf) | exact Q_fieldAddr_ptr rfl KFl.h | exact Q_load_ptr rfl rfl rfl KSc.h | exact Q_lss rfl rfl | exact Q_sub rfl rfl (by omega) | exact Q_nilCheck rfl)); (focus exact rfl)) | (refine k_cond rfl ?_ ?_ <;> (intro h; (try (have hp := of_decide_eq_true h)); (try (have hp := of_decide_eq_false h)); (try contradiction); (try (exfalso; omega)))) | (((first | apply w_q); (focus exact Q_slen rfl (by kernel_rfl)); (focus exact rfl))) | ((refine w_callW (res := .tup []) (news := [.box [.val (.string s), .val (.int .i64 ((p + 1 : Nat) : Int))]]) [2] (.inl ⟨rfl, rfl⟩) (k3) ?_ ?_ rfl rfl (by decide) ?_ rfl rfl ?_ (by first | (dsimp only [List.map, putL, AO.rn, AV.rn, AV.rnl, rn_ints, rn_rows, rn_pairs, List.map_cons, List.map_nil, List.set_cons_zero, List.set_cons_succ, List.getD_cons_zero, List.getD_cons_succ]; done) | exact rfl) (by first | (dsimp only [List.map, putL, AO.rn, AV.rn, AV.rnl, rn_ints, rn_rows, rn_pairs, List.map_cons, List.map_nil, List.set_cons_zero, List.set_cons_succ, List.getD_cons_zero, List.getD_cons_succ]; done) | exact rfl) rfl ?_; rotate_left 0; (focus exact rfl); (focus exact rfl); (focus exact rfl); (focus exact rfl); rotate_left 1; all_goals (try (skip)))) | ((refine w_callW (res := .val (.int .i64 (a : Nat))) (news := [.box [.val (.string s), .val (.int .i64 (q : Nat))]]) [2] (.inl ⟨rfl, rfl⟩) (k4) ?_ ?_ rfl rfl (by decide) ?_ rfl rfl ?_ (by first | (dsimp only [List.map, putL, AO.rn, AV.rn, AV.rnl, rn_ints, rn_rows, rn_pairs, List.map_cons, List.map_nil, List.set_cons_zero, List.set_cons_succ, List.getD_cons_zero, List.getD_cons_succ]; done) | exact rfl) (by first | (dsimp only [List.map, putL, AO.rn, AV.rn, AV.rnl, rn_ints, rn_rows, rn_pairs, List.map_cons, List.map_nil, List.set_cons_zero, List.set_cons_succ, List.getD_cons_zero, List.getD_cons_succ]; done) | exact rfl) rfl ?_; rotate_left 0; (focus exact rfl); (focus exact rfl); (focus exact rfl); (focus exact rfl); rotate_left 1; all_goals (try (skip)))) | ((refine w_callP1 2 [.string s, .int .i64 (q : Nat)] [.int .u8 60] kP rfl rfl rfl (by first|(dsimp only[obA,obB,obD,obE,obF,obG,obI,List.map,AO.sh,AV.sh,AV.shl,Nat.reduceAdd];done)|exact rfl) ?_; refine panD_intro ?_; (refine St.le_mk rfl (VwOs.mk (by decide) ?_) ?_ <;> (repeat' (first | exact trivial | exact vwR rfl | exact Vw.ptr _ _ _ rfl | refine VwO.box' ?_ | refine ⟨⟨_, rfl, ?_⟩, ?_⟩ | refine ⟨?_, ?_⟩ ))))))); (try all_goals (try show retA _ _ _ _ _ _ _))
        all_goals first
          | (exfalso; omega)
          | (all_goals trace_state); fail
      rename_i hlt
      obtain ⟨hl1, hl2⟩ := hlt
      have k5 := need_r s e1 60 hs hl1 hl2
      split at i1
      · rename_i x hn2
        cases i1
        have kP := number_l hs (show e1 + 1 ≤ s.size by omega) hn2
        (repeat' (first | refine k_seq ?_ | refine k_block ?_ | refine k_skip ?_ | refine k_region (by kernel_rfl) (fun _ h => h) ?_ | refine l_nil ?_ | (apply w_q; (focus (first | exact Q_move (by conv => lhs; whnf) | exact Q_assign (by conv => lhs; whnf) | exact Q_fieldAddr_ptr rfl KFl.h | exact Q_load_ptr rfl rfl rfl KSc.h | exact Q_lss rfl rfl | exact Q_sub rfl rfl (by omega) | exact Q_nilCheck rfl)); (focus exact rfl)) | (refine k_cond rfl ?_ ?_ <;> (intro h; (try (have hp := of_decide_eq_true h)); (try (have hp := of_decide_eq_false h)); (try contradiction); (try (exfalso; omega)))) | (((first | apply w_q); (focus exact Q_slen rfl (by kernel_rfl)); (focus exact rfl))) | ((refine w_callW (res := .tup []) (news := [.box [.val (.string s), .val (.int .i64 ((p + 1 : Nat) : Int))]]) [2] (.inl ⟨rfl, rfl⟩) (k3) ?_ ?_ rfl rfl (by decide) ?_ rfl rfl ?_ (by first | (dsimp only [List.map, putL, AO.rn, AV.rn, AV.rnl, rn_ints, rn_rows, rn_pairs, List.map_cons, List.map_nil, List.set_cons_zero, List.set_cons_succ, List.getD_cons_zero, List.getD_cons_succ]; done) | exact rfl) (by first | (dsimp only [List.map, putL, AO.rn, AV.rn, AV.rnl, rn_ints, rn_rows, rn_pairs, List.map_cons, List.map_nil, List.set_cons_zero, List.set_cons_succ, List.getD_cons_zero, List.getD_cons_succ]; done) | exact rfl) rfl ?_; rotate_left 0; (focus exact rfl); (focus exact rfl); (focus exact rfl); (focus exact rfl); rotate_left 1; all_goals (try (skip)))) | ((refine w_callW (res := .val (.int .i64 (a : Nat))) (news := [.box [.val (.string s), .val (.int .i64 (e1 : Nat))]]) [2] (.inl ⟨rfl, rfl⟩) (k4) ?_ ?_ rfl rfl (by decide) ?_ rfl rfl ?_ (by first | (dsimp only [List.map, putL, AO.rn, AV.rn, AV.rnl, rn_ints, rn_rows, rn_pairs, List.map_cons, List.map_nil, List.set_cons_zero, List.set_cons_succ, List.getD_cons_zero, List.getD_cons_succ]; done) | exact rfl) (by first | (dsimp only [List.map, putL, AO.rn, AV.rn, AV.rnl, rn_ints, rn_rows, rn_pairs, List.map_cons, List.map_nil, List.set_cons_zero, List.set_cons_succ, List.getD_cons_zero, List.getD_cons_succ]; done) | exact rfl) rfl ?_; rotate_left 0; (focus exact rfl); (focus exact rfl); (focus exact rfl); (focus exact rfl); rotate_left 1; all_goals (try (skip)))) | ((refine w_callW (res := .tup []) (news := [.box [.val (.string s), .val (.int .i64 ((e1 + 1 : Nat) : Int))]]) [2] (.inl ⟨rfl, rfl⟩) (k5) ?_ ?_ rfl rfl (by decide) ?_ rfl rfl ?_ (by first | (dsimp only [List.map, putL, AO.rn, AV.rn, AV.rnl, rn_ints, rn_rows, rn_pairs, List.map_cons, List.map_nil, List.set_cons_zero, List.set_cons_succ, List.getD_cons_zero, List.getD_cons_succ]; done) | exact rfl) (by first | (dsimp only [List.map, putL, AO.rn, AV.rn, AV.rnl, rn_ints, rn_rows, rn_pairs, List.map_cons, List.map_nil, List.set_cons_zero, List.set_cons_succ, List.getD_cons_zero, List.getD_cons_succ]; done) | exact rfl) rfl ?_; rotate_left 0; (focus exact rfl); (focus exact rfl); (focus exact rfl); (focus exact rfl); rotate_left 1; all_goals (try (skip)))) | ((refine w_callP1 2 [.string s, .int .i64 ((e1 + 1 : Nat) : Int)] [.int .i64 ((n' : Int) - 1), .int .i64 3] kP rfl rfl rfl (by first|(dsimp only[obA,obB,obD,obE,obF,obG,obI,List.map,AO.sh,AV.sh,AV.shl,Nat.reduceAdd];done)|exact rfl) ?_; refine panD_intro ?_; (refine St.le_mk rfl (VwOs.mk (by decide) ?_) ?_ <;> (repeat' (first | exact trivial | exact vwR rfl | exact Vw.ptr _ _ _ rfl | refine VwO.box' ?_ | refine ⟨⟨_, rfl, ?_⟩, ?_⟩ | refine ⟨?_, ?_⟩ ))))))); (try all_goals (try show retA _ _ _ _ _ _ _))
        all_goals first
          | (exfalso; omega)
          | (all_goals trace_state); fail
      rename_i b e2 hn2
      have c2 := numR_end (show e1 + 1 ≤ s.size by omega) hn2
      have k6 := number_r hs (show e1 + 1 ≤ s.size by omega) hn2
      have e7 : pn M ++ [((a : Int), (b : Int))] = pn (M ++ [(a, b)]) := by simp [pn]
      have hML := pn_len M
      clear hn2
      (repeat' (first | refine k_seq ?_ | refine k_block ?_ | refine k_skip ?_ | refine k_region (by kernel_rfl) (fun _ h => h) ?_ | refine l_nil ?_ | (apply w_q; (focus (first | exact Q_move (by conv => lhs; whnf) | exact Q_assign (by conv => lhs; whnf) | exact Q_fieldAddr_ptr rfl KFl.h | exact Q_load_ptr rfl rfl rfl KSc.h | exact Q_lss rfl rfl | exact Q_sub rfl rfl (by omega) | exact Q_build2 KBd.h (by conv => lhs; whnf) (by conv => lhs; whnf) rfl rfl rfl (by simp only [List.map_cons, List.map_nil, List.take_succ_cons, List.take_zero, List.drop_succ_cons, List.drop_zero, List.drop_nil, List.nil_append, List.cons_append, List.append_nil, List.length_cons, List.length_nil, Nat.reduceAdd, Nat.reduceMul]; exact rfl) (by conv => lhs; whnf) (by conv => lhs; whnf) rfl rfl rfl (by simp only [List.map_cons, List.map_nil, List.take_succ_cons, List.take_zero, List.drop_succ_cons, List.drop_zero, List.drop_nil, List.nil_append, List.cons_append, List.append_nil, List.length_cons, List.length_nil, Nat.reduceAdd, Nat.reduceMul]; exact rfl) | exact Q_nilCheck rfl)); (focus exact rfl)) | (refine k_cond rfl ?_ ?_ <;> (intro h; (try (have hp := of_decide_eq_true h)); (try (have hp := of_decide_eq_false h)); (try contradiction); (try (exfalso; omega)))) | refine w_lit_pair rfl KSl.h KMk.h (by first|(dsimp only[obA,obB,obD,obE,obF,obG,obI,List.map,AO.sh,AV.sh,AV.shl,Nat.reduceAdd];done)|exact rfl) (by first|(dsimp only[obA,obB,obD,obE,obF,obG,obI,List.map,AO.sh,AV.sh,AV.shl,Nat.reduceAdd];done)|exact rfl) rfl ?_ | refine w_ap_pairs rfl rfl rfl rfl KSl.h KMk.h (by simp; omega) (by first|(dsimp only[obA,obB,obD,obE,obF,obG,obI,List.map,AO.sh,AV.sh,AV.shl,Nat.reduceAdd];done)|exact rfl) (by first|(dsimp only[obA,obB,obD,obE,obF,obG,obI,List.map,AO.sh,AV.sh,AV.shl,Nat.reduceAdd];done)|exact rfl) rfl ?_ | (((first | apply w_q); (focus exact Q_slen rfl (by kernel_rfl)); (focus exact rfl))) | ((refine w_callW (res := .tup []) (news := [.box [.val (.string s), .val (.int .i64 ((p + 1 : Nat) : Int))]]) [2] (.inl ⟨rfl, rfl⟩) (k3) ?_ ?_ rfl rfl (by decide) ?_ rfl rfl ?_ (by first | (dsimp only [List.map, putL, AO.rn, AV.rn, AV.rnl, rn_ints, rn_rows, rn_pairs, List.map_cons, List.map_nil, List.set_cons_zero, List.set_cons_succ, List.getD_cons_zero, List.getD_cons_succ]; done) | exact rfl) (by first | (dsimp only [List.map, putL, AO.rn, AV.rn, AV.rnl, rn_ints, rn_rows, rn_pairs, List.map_cons, List.map_nil, List.set_cons_zero, List.set_cons_succ, List.getD_cons_zero, List.getD_cons_succ]; done) | exact rfl) rfl ?_; rotate_left 0; (focus exact rfl); (focus exact rfl); (focus exact rfl); (focus exact rfl); rotate_left 1; all_goals (try (skip)))) | ((refine w_callW (res := .val (.int .i64 (a : Nat))) (news := [.box [.val (.string s), .val (.int .i64 (e1 : Nat))]]) [2] (.inl ⟨rfl, rfl⟩) (k4) ?_ ?_ rfl rfl (by decide) ?_ rfl rfl ?_ (by first | (dsimp only [List.map, putL, AO.rn, AV.rn, AV.rnl, rn_ints, rn_rows, rn_pairs, List.map_cons, List.map_nil, List.set_cons_zero, List.set_cons_succ, List.getD_cons_zero, List.getD_cons_succ]; done) | exact rfl) (by first | (dsimp only [List.map, putL, AO.rn, AV.rn, AV.rnl, rn_ints, rn_rows, rn_pairs, List.map_cons, List.map_nil, List.set_cons_zero, List.set_cons_succ, List.getD_cons_zero, List.getD_cons_succ]; done) | exact rfl) rfl ?_; rotate_left 0; (focus exact rfl); (focus exact rfl); (focus exact rfl); (focus exact rfl); rotate_left 1; all_goals (try (skip)))) | ((refine w_callW (res := .tup []) (news := [.box [.val (.string s), .val (.int .i64 ((e1 + 1 : Nat) : Int))]]) [2] (.inl ⟨rfl, rfl⟩) (k5) ?_ ?_ rfl rfl (by decide) ?_ rfl rfl ?_ (by first | (dsimp only [List.map, putL, AO.rn, AV.rn, AV.rnl, rn_ints, rn_rows, rn_pairs, List.map_cons, List.map_nil, List.set_cons_zero, List.set_cons_succ, List.getD_cons_zero, List.getD_cons_succ]; done) | exact rfl) (by first | (dsimp only [List.map, putL, AO.rn, AV.rn, AV.rnl, rn_ints, rn_rows, rn_pairs, List.map_cons, List.map_nil, List.set_cons_zero, List.set_cons_succ, List.getD_cons_zero, List.getD_cons_succ]; done) | exact rfl) rfl ?_; rotate_left 0; (focus exact rfl); (focus exact rfl); (focus exact rfl); (focus exact rfl); rotate_left 1; all_goals (try (skip)))) | ((refine w_callW (res := .val (.int .i64 (b : Nat))) (news := [.box [.val (.string s), .val (.int .i64 (e2 : Nat))]]) [2] (.inl ⟨rfl, rfl⟩) (k6) ?_ ?_ rfl rfl (by decide) ?_ rfl rfl ?_ (by first | (dsimp only [List.map, putL, AO.rn, AV.rn, AV.rnl, rn_ints, rn_rows, rn_pairs, List.map_cons, List.map_nil, List.set_cons_zero, List.set_cons_succ, List.getD_cons_zero, List.getD_cons_succ]; done) | exact rfl) (by first | (dsimp only [List.map, putL, AO.rn, AV.rn, AV.rnl, rn_ints, rn_rows, rn_pairs, List.map_cons, List.map_nil, List.set_cons_zero, List.set_cons_succ, List.getD_cons_zero, List.getD_cons_succ]; done) | exact rfl) rfl ?_; rotate_left 0; (focus exact rfl); (focus exact rfl); (focus exact rfl); (focus exact rfl); rotate_left 1; all_goals (try (skip)))))); (try all_goals (try show retA _ _ _ _ _ _ _))
      all_goals first
        | (exfalso; omega)
        | (rw [e7]
           try dsimp only [thenA, blockA]
           refine ⟨(e2, M ++ [(a, b)], f), [0, 1, 2, 5], ?_, ?_, ?_, rfl⟩ <;> (try dsimp only)
           · refine ⟨i1, c2.2.1, by show s.size < e2 + f; omega, ?_⟩
             show (M ++ [(a, b)]).length ≤ e2
             rw [List.length_append]; show M.length + 1 ≤ e2
             omega
           · show f < f + 1
             omega
           · (refine St.le_mk rfl (VwOs.mk (by decide) ?_) ?_ <;> (repeat' (first | exact trivial | exact vwR rfl | exact Vw.own _ _ rfl | exact Vw.ptr _ _ _ rfl | exact VwO.row _ _ _ | refine VwO.box' ?_ | refine ⟨⟨_, rfl, ?_⟩, ?_⟩ | refine ⟨?_, ?_⟩ ))))
        | (all_goals trace_state); fail
set_option maxRecDepth 20000 in
set_option maxHeartbeats 2000000 in
/-- What is read is no order. -/
theorem Read_mk (s : ByteArray) (n : Nat) (L : List (Nat × Nat)) (e : Int) (hr : rdR s = .inr (n, L)) (hm : mkE n (pn L) = e) (he : e ≠ 0) : AC Tryd.prog 15 [.val (.string s)] [] (.tup [.agg [.val (.int .i64 0), .val (.slice none 0 0)], .agg [.val (.int .i64 e), .val (.int .i64 0)]]) [] := by
  skip
  refine AC.mkP (n := 57) (fn := Tryd.f15) (vars0 := [(3, .ptr 1 0), (2, .ptr 0 0), (0, .val (.string s))]) (c1 := zc1) (c2 := zc2) (o1 := 2) (o2 := 3) Tryd.func15 (by kernel_rfl) rfl rfl rfl rfl rfl (fun cx => ?_) rfl rfl (read_catch e 0) ?_ (fun cx D => ?_)
  · dsimp only [argv, Nat.reduceAdd]
    (repeat' (first | refine a_region ?_ | refine l_nil ?_ | refine w_alloc KMk.h (by first|(dsimp only[obA,obB,obD,obE,obF,obG,obI,List.map,AO.sh,AV.sh,AV.shl,Nat.reduceAdd];done)|exact rfl) rfl (by first|(dsimp only[obA,obB,obD,obE,obF,obG,obI,List.map,AO.sh,AV.sh,AV.shl,Nat.reduceAdd];done)|exact rfl) (by first|(dsimp only[obA,obB,obD,obE,obF,obG,obI,List.map,AO.sh,AV.sh,AV.shl,Nat.reduceAdd];done)|exact rfl) rfl ?_)); (try all_goals (try show retA _ _ _ _ _ _ _))
    all_goals first
      | exact rfl
      | (all_goals trace_state); fail
  · refine ⟨[_, _], [], ⟨resV_cell rfl rfl KAg.h, resV_cell rfl rfl KAg.h, trivial⟩, VwOs.mk (by decide) trivial, ?_, rfl⟩
    (repeat' (first | exact trivial | exact vwRL rfl | refine Vw.agg' ?_ | refine Vw.tup' ?_ | refine ⟨?_, ?_⟩ ))
  · have hrd := hr
    unfold rdR at hr
    split at hr
    · cases hr
    rename_i h2000
    have hs : s.size ≤ 2000 := by omega
    split at hr
    · cases hr
    rename_i n' e0 hnum
    split at hr
    rotate_left 1
    · cases hr
    rename_i hcol
    split at hr
    · cases hr
    rename_i L' hprs
    cases hr
    obtain ⟨he0, hs0⟩ := hcol
    have b0 := numR_end (Nat.zero_le _) hnum
    have k1 := number_r hs (Nat.zero_le _) hnum
    rw [show ((0 : Nat) : Int) = 0 from rfl] at k1
    have k2 := need_r s e0 58 hs he0 hs0
    clear hrd hnum
    (repeat' (first | refine k_seq ?_ | refine k_block ?_ | refine k_skip ?_ | refine k_region (by kernel_rfl) (fun _ h => h) ?_ | refine l_nil ?_ | (apply w_q; (focus (first | exact Q_move (by conv => lhs; whnf) | exact Q_assign (by conv => lhs; whnf) | exact Q_gtr rfl rfl | exact Q_build1 KBd.h (by conv => lhs; whnf) (by conv => lhs; whnf) rfl rfl rfl (by simp only [List.map_cons, List.map_nil, List.take_succ_cons, List.take_zero, List.drop_succ_cons, List.drop_zero, List.drop_nil, List.nil_append, List.cons_append, List.append_nil, List.length_cons, List.length_nil, Nat.reduceAdd, Nat.reduceMul]; exact rfl))); (focus exact rfl)) | (refine k_cond rfl ?_ ?_ <;> (intro h; (try (have hp := of_decide_eq_true h)); (try (have hp := of_decide_eq_false h)); (try contradiction); (try (exfalso; omega)))) | refine w_box rfl rfl (by first|(dsimp only[obA,obB,obD,obE,obF,obG,obI,List.map,AO.sh,AV.sh,AV.shl,Nat.reduceAdd];done)|exact rfl) (by first|(dsimp only[obA,obB,obD,obE,obF,obG,obI,List.map,AO.sh,AV.sh,AV.shl,Nat.reduceAdd];done)|exact rfl) rfl ?_ | (((first | apply w_q); (focus exact Q_slen rfl (by kernel_rfl)); (focus exact rfl))) | ((refine w_callW (res := .val (.int .i64 (n : Nat))) (news := [.box [.val (.string s), .val (.int .i64 (e0 : Nat))]]) [2] (.inl ⟨rfl, rfl⟩) (k1) ?_ ?_ rfl rfl (by decide) ?_ rfl rfl ?_ (by first | (dsimp only [List.map, putL, AO.rn, AV.rn, AV.rnl, rn_ints, rn_rows, rn_pairs, List.map_cons, List.map_nil, List.set_cons_zero, List.set_cons_succ, List.getD_cons_zero, List.getD_cons_succ]; done) | exact rfl) (by first | (dsimp only [List.map, putL, AO.rn, AV.rn, AV.rnl, rn_ints, rn_rows, rn_pairs, List.map_cons, List.map_nil, List.set_cons_zero, List.set_cons_succ, List.getD_cons_zero, List.getD_cons_succ]; done) | exact rfl) rfl ?_; rotate_left 0; (focus exact rfl); (focus exact rfl); (focus exact rfl); (focus exact rfl); rotate_left 1; all_goals (try (skip)))) | ((refine w_callW (res := .tup []) (news := [.box [.val (.string s), .val (.int .i64 ((e0 + 1 : Nat) : Int))]]) [2] (.inl ⟨rfl, rfl⟩) (k2) ?_ ?_ rfl rfl (by decide) ?_ rfl rfl ?_ (by first | (dsimp only [List.map, putL, AO.rn, AV.rn, AV.rnl, rn_ints, rn_rows, rn_pairs, List.map_cons, List.map_nil, List.set_cons_zero, List.set_cons_succ, List.getD_cons_zero, List.getD_cons_succ]; done) | exact rfl) (by first | (dsimp only [List.map, putL, AO.rn, AV.rn, AV.rnl, rn_ints, rn_rows, rn_pairs, List.map_cons, List.map_nil, List.set_cons_zero, List.set_cons_succ, List.getD_cons_zero, List.getD_cons_succ]; done) | exact rfl) rfl ?_; rotate_left 0; (focus exact rfl); (focus exact rfl); (focus exact rfl); (focus exact rfl); rotate_left 1; all_goals (try (skip)))))); (try all_goals (try show retA _ _ _ _ _ _ _))
    all_goals first
      | (exfalso; omega)
      | skip
    refine k_nilownC 6 86 2 rfl (by first|(dsimp only[obA,obB,obD,obE,obF,obG,obI,List.map,AO.sh,AV.sh,AV.shl,Nat.reduceAdd];done)|exact rfl) rfl ?_
    (repeat' (first | fail)); (try all_goals (try show retA _ _ _ _ _ _ _))
    refine k_wloop (X := Nat × List (Nat × Nat) × Nat) [0, 2, 3, 4, 5] (by simp only [keepv, getv_cons, Nat.reduceEqDiff, ↓reduceIte]; exact rfl) (fun _ => [(6, .own 3)]) (fun x => [.box zc1, .box zc2, .box [.val (.string s), .val (.int .i64 (x.1 : Nat))], .row 86 2 (pairc (pn x.2.1))]) (fun x => prR s n x.2.2 x.1 x.2.1 = .inr L ∧ x.1 ≤ s.size ∧ s.size < x.1 + x.2.2 ∧ x.2.1.length ≤ x.1) (fun x => x.2.2) ((e0 + 1, [], s.size - e0)) ([0, 1, 2, 3]) ?_ ?_ rfl ?_ <;> (try dsimp only [List.cons_append, List.nil_append])
    · exact ⟨hprs, by omega, by show s.size < e0 + 1 + (s.size - e0); omega, Nat.zero_le _⟩
    · (refine St.le_mk rfl (VwOs.mk (by decide) ?_) ?_ <;> (repeat' (first | exact trivial | exact vwR rfl | exact Vw.own _ _ rfl | exact Vw.ptr _ _ _ rfl | exact VwO.row _ _ _ | refine VwO.box' ?_ | refine ⟨⟨_, rfl, ?_⟩, ?_⟩ | refine ⟨?_, ?_⟩ )))
    rintro ⟨p, M, f⟩ ⟨i1, i2, i3, i4⟩
    dsimp only at i1 i2 i3 i4 ⊢
    rcases f with _ | f
    · omega
    by_cases hpl : p < s.size
    · unfold prR at i1
      rw [if_pos hpl] at i1
      split at i1
      rotate_left 1
      · cases i1
      rename_i hsp
      split at i1
      · cases i1
      rename_i a e1 hn1
      split at i1
      rotate_left 1
      · cases i1
      rename_i hlt
      split at i1
      · cases i1
      rename_i b e2 hn2
      obtain ⟨hl1, hl2⟩ := hlt
      have c1 := numR_end (by omega) hn1
      have c2 := numR_end (by omega) hn2
      have k3 := need_r s p 32 hs hpl hsp
      have k4 := number_r hs (by omega) hn1
      have k5 := need_r s e1 60 hs hl1 hl2
      have k6 := number_r hs (by omega) hn2
      have e7 : pn M ++ [((a : Int), (b : Int))] = pn (M ++ [(a, b)]) := by simp [pn]
      have hML := pn_len M
      clear hn1 hn2 hprs k1 k2
      (repeat' (first | refine k_seq ?_ | refine k_block ?_ | refine k_skip ?_ | refine k_region (by kernel_rfl) (fun _ h => h) ?_ | refine l_nil ?_ | (apply w_q; (focus (first | exact Q_move (by conv => lhs; whnf) | exact Q_assign (by conv => lhs; whnf) | exact Q_fieldAddr_ptr rfl KFl.h | exact Q_load_ptr rfl rfl rfl KSc.h | exact Q_lss rfl rfl | exact Q_sub rfl rfl (by omega) | exact Q_build2 KBd.h (by conv => lhs; whnf) (by conv => lhs; whnf) rfl rfl rfl (by simp only [List.map_cons, List.map_nil, List.take_succ_cons, List.take_zero, List.drop_succ_cons, List.drop_zero, List.drop_nil, List.nil_append, List.cons_append, List.append_nil, List.length_cons, List.length_nil, Nat.reduceAdd, Nat.reduceMul]; exact rfl) (by conv => lhs; whnf) (by conv => lhs; whnf) rfl rfl rfl (by simp only [List.map_cons, List.map_nil, List.take_succ_cons, List.take_zero, List.drop_succ_cons, List.drop_zero, List.drop_nil, List.nil_append, List.cons_append, List.append_nil, List.length_cons, List.length_nil, Nat.reduceAdd, Nat.reduceMul]; exact rfl) | exact Q_nilCheck rfl)); (focus exact rfl)) | (refine k_cond rfl ?_ ?_ <;> (intro h; (try (have hp := of_decide_eq_true h)); (try (have hp := of_decide_eq_false h)); (try contradiction); (try (exfalso; omega)))) | refine w_lit_pair rfl KSl.h KMk.h (by first|(dsimp only[obA,obB,obD,obE,obF,obG,obI,List.map,AO.sh,AV.sh,AV.shl,Nat.reduceAdd];done)|exact rfl) (by first|(dsimp only[obA,obB,obD,obE,obF,obG,obI,List.map,AO.sh,AV.sh,AV.shl,Nat.reduceAdd];done)|exact rfl) rfl ?_ | refine w_ap_pairs rfl rfl rfl rfl KSl.h KMk.h (by simp; omega) (by first|(dsimp only[obA,obB,obD,obE,obF,obG,obI,List.map,AO.sh,AV.sh,AV.shl,Nat.reduceAdd];done)|exact rfl) (by first|(dsimp only[obA,obB,obD,obE,obF,obG,obI,List.map,AO.sh,AV.sh,AV.shl,Nat.reduceAdd];done)|exact rfl) rfl ?_ | (((first | apply w_q); (focus exact Q_slen rfl (by kernel_rfl)); (focus exact rfl))) | ((refine w_callW (res := .tup []) (news := [.box [.val (.string s), .val (.int .i64 ((p + 1 : Nat) : Int))]]) [2] (.inl ⟨rfl, rfl⟩) (k3) ?_ ?_ rfl rfl (by decide) ?_ rfl rfl ?_ (by first | (dsimp only [List.map, putL, AO.rn, AV.rn, AV.rnl, rn_ints, rn_rows, rn_pairs, List.map_cons, List.map_nil, List.set_cons_zero, List.set_cons_succ, List.getD_cons_zero, List.getD_cons_succ]; done) | exact rfl) (by first | (dsimp only [List.map, putL, AO.rn, AV.rn, AV.rnl, rn_ints, rn_rows, rn_pairs, List.map_cons, List.map_nil, List.set_cons_zero, List.set_cons_succ, List.getD_cons_zero, List.getD_cons_succ]; done) | exact rfl) rfl ?_; rotate_left 0; (focus exact rfl); (focus exact rfl); (focus exact rfl); (focus exact rfl); rotate_left 1; all_goals (try (skip)))) | ((refine w_callW (res := .val (.int .i64 (a : Nat))) (news := [.box [.val (.string s), .val (.int .i64 (e1 : Nat))]]) [2] (.inl ⟨rfl, rfl⟩) (k4) ?_ ?_ rfl rfl (by decide) ?_ rfl rfl ?_ (by first | (dsimp only [List.map, putL, AO.rn, AV.rn, AV.rnl, rn_ints, rn_rows, rn_pairs, List.map_cons, List.map_nil, List.set_cons_zero, List.set_cons_succ, List.getD_cons_zero, List.getD_cons_succ]; done) | exact rfl) (by first | (dsimp only [List.map, putL, AO.rn, AV.rn, AV.rnl, rn_ints, rn_rows, rn_pairs, List.map_cons, List.map_nil, List.set_cons_zero, List.set_cons_succ, List.getD_cons_zero, List.getD_cons_succ]; done) | exact rfl) rfl ?_; rotate_left 0; (focus exact rfl); (focus exact rfl); (focus exact rfl); (focus exact rfl); rotate_left 1; all_goals (try (skip)))) | ((refine w_callW (res := .tup []) (news := [.box [.val (.string s), .val (.int .i64 ((e1 + 1 : Nat) : Int))]]) [2] (.inl ⟨rfl, rfl⟩) (k5) ?_ ?_ rfl rfl (by decide) ?_ rfl rfl ?_ (by first | (dsimp only [List.map, putL, AO.rn, AV.rn, AV.rnl, rn_ints, rn_rows, rn_pairs, List.map_cons, List.map_nil, List.set_cons_zero, List.set_cons_succ, List.getD_cons_zero, List.getD_cons_succ]; done) | exact rfl) (by first | (dsimp only [List.map, putL, AO.rn, AV.rn, AV.rnl, rn_ints, rn_rows, rn_pairs, List.map_cons, List.map_nil, List.set_cons_zero, List.set_cons_succ, List.getD_cons_zero, List.getD_cons_succ]; done) | exact rfl) rfl ?_; rotate_left 0; (focus exact rfl); (focus exact rfl); (focus exact rfl); (focus exact rfl); rotate_left 1; all_goals (try (skip)))) | ((refine w_callW (res := .val (.int .i64 (b : Nat))) (news := [.box [.val (.string s), .val (.int .i64 (e2 : Nat))]]) [2] (.inl ⟨rfl, rfl⟩) (k6) ?_ ?_ rfl rfl (by decide) ?_ rfl rfl ?_ (by first | (dsimp only [List.map, putL, AO.rn, AV.rn, AV.rnl, rn_ints, rn_rows, rn_pairs, List.map_cons, List.map_nil, List.set_cons_zero, List.set_cons_succ, List.getD_cons_zero, List.getD_cons_succ]; done) | exact rfl) (by first | (dsimp only [List.map, putL, AO.rn, AV.rn, AV.rnl, rn_ints, rn_rows, rn_pairs, List.map_cons, List.map_nil, List.set_cons_zero, List.set_cons_succ, List.getD_cons_zero, List.getD_cons_succ]; done) | exact rfl) rfl ?_; rotate_left 0; (focus exact rfl); (focus exact rfl); (focus exact rfl); (focus exact rfl); rotate_left 1; all_goals (try (skip)))))); (try all_goals (try show retA _ _ _ _ _ _ _))
      all_goals first
        | (exfalso; omega)
        | (rw [e7]
           try dsimp only [thenA, blockA]
           refine ⟨(e2, M ++ [(a, b)], f), [0, 1, 2, 5], ?_, ?_, ?_, rfl⟩ <;> (try dsimp only)
           · refine ⟨i1, c2.2.1, by show s.size < e2 + f; omega, ?_⟩
             show (M ++ [(a, b)]).length ≤ e2
             rw [List.length_append]; show M.length + 1 ≤ e2
             omega
           · show f < f + 1
             omega
           · (refine St.le_mk rfl (VwOs.mk (by decide) ?_) ?_ <;> (repeat' (first | exact trivial | exact vwR rfl | exact Vw.own _ _ rfl | exact Vw.ptr _ _ _ rfl | exact VwO.row _ _ _ | refine VwO.box' ?_ | refine ⟨⟨_, rfl, ?_⟩, ?_⟩ | refine ⟨?_, ?_⟩ ))))
        | (all_goals trace_state); fail
    · unfold prR at i1
      rw [if_neg hpl] at i1
      cases i1
      have hL : (pn L).length ≤ 9223372036854775807 := by rw [pn_len]; omega
      have kM : AC Tryd.prog 61 [.val (.int .i64 (n : Nat)), pairs (pn L)] [] (.tup [.agg [.val (.int .i64 0), .val (.slice none 0 0)], .val (.int .i64 e)]) [] := by
        have := Make_ac n (pn L) hL e hm
        unfold mkA mkO at this
        rw [decide_eq_false he] at this
        exact this
      clear hprs k1 k2
      (repeat' (first | refine k_seq ?_ | refine k_exit ?_ | refine k_region (by kernel_rfl) (fun _ h => h) ?_ | refine l_nil ?_ | (apply w_q; (focus (first | exact Q_move (by conv => lhs; whnf) | exact Q_assign (by conv => lhs; whnf) | exact Q_fieldAddr_ptr rfl KFl.h | exact Q_load_ptr rfl rfl rfl KSc.h | exact Q_lss rfl rfl | exact Q_neq rfl rfl | exact Q_extract rfl (by conv => lhs; whnf) | exact Q_nilCheck rfl)); (focus exact rfl)) | (refine k_cond rfl ?_ ?_ <;> (intro h; (try (have hp := of_decide_eq_true h)); (try (have hp := of_decide_eq_false h)); (try contradiction); (try (exfalso; omega)))) | refine w_store_all rfl rfl rfl rfl rfl KSz.h (by first|(dsimp only[obA,obB,obD,obE,obF,obG,obI,List.map,AO.sh,AV.sh,AV.shl,Nat.reduceAdd];done)|exact rfl) ?_ | (((first | apply w_q); (focus exact Q_slen rfl (by kernel_rfl)); (focus exact rfl))) | ((refine w_callR (res := .tup [.agg [.val (.int .i64 0), .val (.slice none 0 0)], .val (.int .i64 e)]) (news := []) (.inl ⟨rfl, rfl⟩) (kM) ?_ ?_ ?_ rfl (by repeat' (first | exact trivial)) (by first|(dsimp only[obA,obB,obD,obE,obF,obG,obI,List.map,AO.sh,AV.sh,AV.shl,Nat.reduceAdd];done)|exact rfl) (by first|(dsimp only[obA,obB,obD,obE,obF,obG,obI,List.map,AO.sh,AV.sh,AV.shl,Nat.reduceAdd];done)|exact rfl) rfl ?_; rotate_left 0; (focus exact rfl); (focus exact rfl); (focus ((repeat' (first | exact trivial | exact vwR rfl | exact Vw.rowro _ _ _ _ rfl (by decide) | refine ⟨?_, ?_⟩ )); done)); rotate_left 1; all_goals (try (skip)))) | ((refine l_callP0 (vs := [.int .i64 e, .int .i64 0]) (fail_ap e 0) rfl rfl ?_; refine panD_intro ?_; (refine St.le_mk rfl (VwOs.mk (by decide) ?_) ?_ <;> (repeat' (first | exact trivial | exact vwR rfl | exact Vw.ptr _ _ _ rfl | refine VwO.box' ?_ | refine ⟨⟨_, rfl, ?_⟩, ?_⟩ | refine ⟨?_, ?_⟩ ))))))); (try all_goals (try show retA _ _ _ _ _ _ _))
      all_goals first
        | (exfalso; omega)
        | (all_goals trace_state); fail
end Go.Proofs.YtpfldhaaiglgdaaDoor
