import Derived.Test.YtbgecpjlopdkfaaDoorFe
set_option linter.unusedSimpArgs false
set_option linter.unusedVariables false
set_option linter.unusedSectionVars false
set_option maxRecDepth 20000
namespace Go.Proofs.YtbgecpjlopdkfaaDoor
attribute [local irreducible] QOp aL aC qL
def stA (l : List (Nat × Nat)) (i : Nat) (ns : List Nat) : List Nat := ns.set (l.getD i (0, 0)).2 (ns.getD (l.getD i (0, 0)).2 0 ||| 2 ^ (l.getD i (0, 0)).1)
def stB (k b : Nat) (ns : List Nat) : List Nat := if lt ns k b = true then ns.set b (ns.getD b 0 ||| ns.getD k 0) else ns
def rowB (n k : Nat) (ns : List Nat) : List Nat := iterN n (stB k) ns
def clos (n : Nat) (l : List (Nat × Nat)) : List Nat := iterN n (rowB n) (iterN l.length (stA l) (List.replicate n 0))
def irr (n : Nat) (ns : List Nat) : Bool := (List.range n).all fun b => !lt ns b b

theorem stA_vld {n i : Nat} {l : List (Nat × Nat)} {ns : List Nat} (hl : ∀ p ∈ l, p.1 < n ∧ p.2 < n) (hi : i < l.length) (h : Vld n ns) : Vld n (stA l i ns) := by
  refine h.set (Nat.or_lt_two_pow (h.get _) (Nat.pow_lt_pow_right (by decide) ?_))
  rw [List.getD_eq_getElem?_getD, List.getElem?_eq_getElem hi]
  exact (hl _ (List.getElem_mem hi)).1
theorem stB_vld {n k b : Nat} {ns : List Nat} (h : Vld n ns) : Vld n (stB k b ns) := by
  unfold stB
  split
  · exact h.set (Nat.or_lt_two_pow (h.get _) (h.get _))
  · exact h
theorem rowB_vld {n k b : Nat} {ns : List Nat} (h : Vld n ns) : Vld n (iterN b (stB k) ns) := iterN_inv b h fun _ _ _ h => stB_vld h

theorem Close_ac (n : Nat) (hn : n ≤ 10) (l : List (Nat × Nat)) (hL : l.length ≤ 9223372036854775807) (hl : ∀ p ∈ l, p.1 < n ∧ p.2 < n) (b : Bool) (hb : irr n (clos n l) = b) :
    AC Tryd.prog 109 [.val (.int .i64 n), pairs (pn l)] [] (bif b then .tup [.agg [.val (.int .i64 n), .own 0], .val (.bool true)] else .tup [.agg [.val (.int .i64 0), .val (.slice none 0 0)], .val (.bool false)])
      (bif b then [.row 3 1 (intc (nl (clos n l)))] else []) := by
  have hlen : ∀ k, k < l.length → (l.getD k (0, 0)).1 < n ∧ (l.getD k (0, 0)).2 < n := fun k hk => by
    rw [List.getD_eq_getElem?_getD, List.getElem?_eq_getElem hk]
    exact hl _ (List.getElem_mem hk)
  have hA : ∀ k, k ≤ l.length → Vld n (iterN k (stA l) (List.replicate n 0)) := fun k hk => iterN_inv k (Vld.rep n) fun i y hi hy => stA_vld hl (by omega) hy
  have hp : 2 ^ n ≤ 2 ^ 10 := Nat.pow_le_pow_right (by decide) hn
  refine AC.mk (n := 71) (fn := Tryd.f109) Tryd.func109 (by kernel_rfl) rfl rfl rfl rfl (fun cx => ?_); dsimp only [argv, Nat.reduceAdd]
  (repeat' (first | refine a_seq ?_ | refine a_block ?_ | refine a_region ?_ | refine l_nil ?_ | ((first | apply w_q); (focus (first | exact Q_move (by conv => lhs; whnf) | exact Q_assign (by conv => lhs; whnf) | exact Q_build2 KBd.h (by conv => lhs; whnf) (by conv => lhs; whnf) rfl rfl rfl (by simp only [List.map_cons, List.map_nil, List.take_succ_cons, List.take_zero, List.drop_succ_cons, List.drop_zero, List.drop_nil, List.nil_append, List.cons_append, List.append_nil, List.length_cons, List.length_nil, Nat.reduceAdd, Nat.reduceMul]; exact rfl) (by conv => lhs; whnf) (by conv => lhs; whnf) rfl rfl rfl (by simp only [List.map_cons, List.map_nil, List.take_succ_cons, List.take_zero, List.drop_succ_cons, List.drop_zero, List.drop_nil, List.nil_append, List.cons_append, List.append_nil, List.length_cons, List.length_nil, Nat.reduceAdd, Nat.reduceMul]; exact rfl) | exact Q_len_pairsN rfl KSl.h)); (focus exact rfl)) | refine w_alloc KMk.h (by first|(dsimp only[obA,obB,obD,obE,obF,obG,obI,List.map,AO.sh,AV.sh,AV.shl,Nat.reduceAdd];done)|exact rfl) rfl (by first|(dsimp only[obA,obB,obD,obE,obF,obG,obI,List.map,AO.sh,AV.sh,AV.shl,Nat.reduceAdd];done)|exact rfl) (by first|(dsimp only[obA,obB,obD,obE,obF,obG,obI,List.map,AO.sh,AV.sh,AV.shl,Nat.reduceAdd];done)|exact rfl) rfl ?_ | refine w_store_all rfl rfl rfl rfl rfl KSz.h (by first|(dsimp only[obA,obB,obD,obE,obF,obG,obI,List.map,AO.sh,AV.sh,AV.shl,Nat.reduceAdd];done)|exact rfl) ?_ | refine w_mk_nats rfl rfl rfl KSl.h KMk.h (by omega) (by first|(dsimp only[obA,obB,obD,obE,obF,obG,obI,List.map,AO.sh,AV.sh,AV.shl,Nat.reduceAdd];done)|exact rfl) (by first|(dsimp only[obA,obB,obD,obE,obF,obG,obI,List.map,AO.sh,AV.sh,AV.shl,Nat.reduceAdd];done)|exact rfl) rfl ?_)); (try all_goals (try show retA _ _ _ _ _ _ _))
  refine w_loop (X := Nat) [0, 4, 6, 16, 17] (by simp only [keepv, getv_cons, Nat.reduceEqDiff, ↓reduceIte]; exact rfl) (fun k => [(18, .val (.int .i64 (k : Int)))]) (fun k => [.box [.val (.int .i64 0), .val (.slice none 0 0)], .row 3 1 (intc (nl (iterN k (stA l) (List.replicate n 0)))), .box [.val (.int .i64 n), .own 1]]) (fun k => k ≤ l.length) (fun k => l.length - k) (0) ([0, 1, 2]) ?_ ?_ rfl ?_ <;> (try dsimp only [List.cons_append, List.nil_append])
  · exact Nat.zero_le _
  · (refine St.le_mk rfl (VwOs.mk (by decide) ?_) ?_ <;> (repeat' (first | exact trivial | exact vwR rfl | exact Vw.own _ _ rfl | exact Vw.ptr _ _ _ rfl | exact VwO.row _ _ _ | refine VwO.box' ?_ | refine ⟨⟨_, rfl, ?_⟩, ?_⟩ | refine ⟨?_, ?_⟩ )))
  rintro k hk
  have h2 := hlen k
  have h3 := (hA k hk).1
  have h4 := (hA k hk).get (l.getD k (0, 0)).2
  have h5 : 2 ^ (l.getD k (0, 0)).1 ≤ 2 ^ 10 := Nat.pow_le_pow_right (by decide) (by
    by_cases h : k < l.length
    · have := h2 h; omega
    · rw [List.getD_eq_getElem?_getD, List.getElem?_eq_none (by omega)]; decide)
  (repeat' (first | refine a_seq ?_ | refine a_block ?_ | refine a_skip ?_ | refine a_exit ?_ | refine a_region ?_ | refine l_nil ?_ | refine q_nil ?_ | ((first | apply w_q | apply w_qq); (focus (first | exact Q_move (by conv => lhs; whnf) | exact Q_fieldAddr_ptr rfl KFl.h | exact Q_load_ptr rfl rfl rfl KSc.h | exact Q_lss rfl rfl | exact Q_add rfl rfl (by omega) | exact Q_bit rfl rfl (by omega) | exact Q_ix_ownN rfl rfl rfl rfl KSl.h (by omega) | exact Q_ix_pairsN rfl rfl rfl KSl.h (by omega) | exact Q_ix_arr rfl rfl rfl KAr.h (by first | decide | omega) | exact Q_ld_ownN rfl rfl (by omega) KSc.h | exact Q_ld_pairN rfl (by omega) KAg.h)); (focus exact rfl)) | (refine a_cond rfl ?_ ?_ <;> (intro h; (try (have hp := of_decide_eq_true h)); (try (have hp := of_decide_eq_false h)); (try contradiction); (try (exfalso; omega)))) | refine a_drawT (id := 5) 11 (by kernel_rfl) (by kernel_rfl) (by simp only [List.take_succ_cons, List.take_zero, List.drop_succ_cons, List.drop_zero]; exact rfl) (by simp only [List.take_succ_cons, List.take_zero, List.drop_succ_cons, List.drop_zero]; exact rfl) ?_ | refine w_alloc KMk.h (by first|(dsimp only[obA,obB,obD,obE,obF,obG,obI,List.map,AO.sh,AV.sh,AV.shl,Nat.reduceAdd];done)|exact rfl) rfl (by first|(dsimp only[obA,obB,obD,obE,obF,obG,obI,List.map,AO.sh,AV.sh,AV.shl,Nat.reduceAdd];done)|exact rfl) (by first|(dsimp only[obA,obB,obD,obE,obF,obG,obI,List.map,AO.sh,AV.sh,AV.shl,Nat.reduceAdd];done)|exact rfl) rfl ?_ | refine w_store_all rfl rfl rfl rfl rfl KSz.h (by first|(dsimp only[obA,obB,obD,obE,obF,obG,obI,List.map,AO.sh,AV.sh,AV.shl,Nat.reduceAdd];done)|exact rfl) ?_ | refine w_st_nats rfl rfl rfl KSz.h (by omega) (by first|(dsimp only[obA,obB,obD,obE,obF,obG,obI,List.map,AO.sh,AV.sh,AV.shl,Nat.reduceAdd];done)|exact rfl) ?_ | (((first | apply w_qq); (focus exact Q_orN rfl rfl (by omega) (by omega)); (focus exact rfl))))); (try all_goals (try show retA _ _ _ _ _ _ _))
  · refine ⟨k + 1, [0, 1, 2], ?_, ?_, ?_, rfl⟩ <;> (try dsimp only)
    · omega
    · omega
    · (refine St.le_mk rfl (VwOs.mk (by decide) ?_) ?_ <;> (repeat' (first | exact trivial | exact vwR rfl | exact Vw.own _ _ rfl | exact Vw.ptr _ _ _ rfl | exact VwO.row _ _ _ | refine VwO.box' ?_ | refine ⟨⟨_, rfl, ?_⟩, ?_⟩ | refine ⟨?_, ?_⟩ )))
  obtain rfl : k = l.length := by omega
  have hB0 := hA l.length (Nat.le_refl _)
  generalize hns : iterN l.length (stA l) (List.replicate n 0) = ns0 at hB0
  have hB : ∀ k, Vld n (iterN k (rowB n) ns0) := fun k => iterN_inv k hB0 fun i y hi hy => rowB_vld hy
  refine w_loop (X := Nat) [0, 4, 6, 34] (by simp only [keepv, getv_cons, Nat.reduceEqDiff, ↓reduceIte]; exact rfl) (fun k => [(35, .val (.int .i64 (k : Int)))]) (fun k => [.box [.val (.int .i64 0), .val (.slice none 0 0)], .row 3 1 (intc (nl (iterN k (rowB n) ns0))), .box [.val (.int .i64 n), .own 1]]) (fun k => k ≤ n) (fun k => n - k) (0) ([0, 1, 2]) ?_ ?_ rfl ?_ <;> (try dsimp only [List.cons_append, List.nil_append])
  · exact Nat.zero_le _
  · (refine St.le_mk rfl (VwOs.mk (by decide) ?_) ?_ <;> (repeat' (first | exact trivial | exact vwR rfl | exact Vw.own _ _ rfl | exact Vw.ptr _ _ _ rfl | exact VwO.row _ _ _ | refine VwO.box' ?_ | refine ⟨⟨_, rfl, ?_⟩, ?_⟩ | refine ⟨?_, ?_⟩ )))
  rintro k hk2
  (repeat' (first | refine a_seq ?_ | refine a_block ?_ | refine a_skip ?_ | refine a_exit ?_ | refine a_region ?_ | refine l_nil ?_ | ((first | apply w_q); (focus (first | exact Q_move (by conv => lhs; whnf) | exact Q_assign (by conv => lhs; whnf) | exact Q_lss rfl rfl)); (focus exact rfl)) | (refine a_cond rfl ?_ ?_ <;> (intro h; (try (have hp := of_decide_eq_true h)); (try (have hp := of_decide_eq_false h)); (try contradiction); (try (exfalso; omega)))))); (try all_goals (try show retA _ _ _ _ _ _ _))
  · generalize hns1 : iterN k (rowB n) ns0 = ns1
    have hV1 : Vld n ns1 := hns1 ▸ hB k
    refine w_loop (X := Nat) [0, 4, 6, 9, 34, 35, 38] (by simp only [keepv, getv_cons, Nat.reduceEqDiff, ↓reduceIte]; exact rfl) (fun b => [(39, .val (.int .i64 (b : Int)))]) (fun b => [.box [.val (.int .i64 0), .val (.slice none 0 0)], .row 3 1 (intc (nl (iterN b (stB k) ns1))), .box [.val (.int .i64 n), .own 1]]) (fun b => b ≤ n) (fun b => n - b) (0) ([0, 1, 2]) ?_ ?_ rfl ?_ <;> (try dsimp only [List.cons_append, List.nil_append])
    · exact Nat.zero_le _
    · (refine St.le_mk rfl (VwOs.mk (by decide) ?_) ?_ <;> (repeat' (first | exact trivial | exact vwR rfl | exact Vw.own _ _ rfl | exact Vw.ptr _ _ _ rfl | exact VwO.row _ _ _ | refine VwO.box' ?_ | refine ⟨⟨_, rfl, ?_⟩, ?_⟩ | refine ⟨?_, ?_⟩ )))
    rintro b hb2
    have hV2 : Vld n (iterN b (stB k) ns1) := rowB_vld hV1
    have g1 := hV2.1
    have g2 := hV2.get b
    have g3 := hV2.get k
    (repeat' (first | refine a_seq ?_ | refine a_block ?_ | refine a_skip ?_ | refine a_exit ?_ | refine a_region ?_ | refine l_nil ?_ | refine q_nil ?_ | ((first | apply w_q | apply w_qq); (focus (first | exact Q_move (by conv => lhs; whnf) | exact Q_assign (by conv => lhs; whnf) | exact Q_fieldAddr_ptr rfl KFl.h | exact Q_load_ptr rfl rfl rfl KSc.h | exact Q_load_all rfl rfl KAg.h | exact Q_lss rfl rfl | exact Q_add rfl rfl (by omega) | exact Q_ix_ownN rfl rfl rfl rfl KSl.h (by omega) | exact Q_ld_ownN rfl rfl (by omega) KSc.h)); (focus exact rfl)) | (refine a_cond rfl ?_ ?_ <;> (intro h; (try (have hp := of_decide_eq_true h)); (try (have hp := of_decide_eq_false h)); (try contradiction); (try (exfalso; omega)))) | refine a_drawT (id := 14) 12 (by kernel_rfl) (by kernel_rfl) (by simp only [List.take_succ_cons, List.take_zero, List.drop_succ_cons, List.drop_zero]; exact rfl) (by simp only [List.take_succ_cons, List.take_zero, List.drop_succ_cons, List.drop_zero]; exact rfl) ?_ | refine w_st_nats rfl rfl rfl KSz.h (by omega) (by first|(dsimp only[obA,obB,obD,obE,obF,obG,obI,List.map,AO.sh,AV.sh,AV.shl,Nat.reduceAdd];done)|exact rfl) ?_ | (((first | apply w_q | apply w_qq); (focus exact Q_orN rfl rfl (by omega) (by omega)); (focus exact rfl))) | (((first | apply w_q); (focus (refine Q_call (.inl ⟨rfl, rfl⟩) (Lower_ac ?_ ?_ ?_ ?_ ?_ ?_) ?_; rotate_left 6; (focus ((repeat' (first | exact trivial | exact Vw.val _ | exact Vw.rowro2 rfl (by decide) (by with_unfolding_all exact rfl) | refine Vw.agg' ?_ | refine ⟨?_, ?_⟩ )); done)); all_goals (omega))); (focus exact rfl))))); (try all_goals (try show retA _ _ _ _ _ _ _))
    · refine ⟨b + 1, [0, 1, 2], ?_, ?_, ?_, rfl⟩ <;> (try dsimp only)
      · omega
      · omega
      · have : iterN (b + 1) (stB k) ns1 = (iterN b (stB k) ns1).set b ((iterN b (stB k) ns1).getD b 0 ||| (iterN b (stB k) ns1).getD k 0) := if_pos (by unfold lt; assumption)
        rw [this]
        (refine St.le_mk rfl (VwOs.mk (by decide) ?_) ?_ <;> (repeat' (first | exact trivial | exact vwR rfl | exact Vw.own _ _ rfl | exact Vw.ptr _ _ _ rfl | exact VwO.row _ _ _ | refine VwO.box' ?_ | refine ⟨⟨_, rfl, ?_⟩, ?_⟩ | refine ⟨?_, ?_⟩ )))
    · refine ⟨b + 1, [0, 1, 2], ?_, ?_, ?_, rfl⟩ <;> (try dsimp only)
      · omega
      · omega
      · have : iterN (b + 1) (stB k) ns1 = iterN b (stB k) ns1 := if_neg (by unfold lt; simp only [*]; decide)
        rw [this]
        (refine St.le_mk rfl (VwOs.mk (by decide) ?_) ?_ <;> (repeat' (first | exact trivial | exact vwR rfl | exact Vw.own _ _ rfl | exact Vw.ptr _ _ _ rfl | exact VwO.row _ _ _ | refine VwO.box' ?_ | refine ⟨⟨_, rfl, ?_⟩, ?_⟩ | refine ⟨?_, ?_⟩ )))
    · refine ⟨k + 1, [0, 1, 2], ?_, ?_, ?_, rfl⟩ <;> (try dsimp only)
      · omega
      · omega
      · obtain rfl : b = n := by omega
        rw [show iterN (k + 1) (rowB b) ns0 = iterN b (stB k) ns1 by rw [← hns1]; rfl]
        (refine St.le_mk rfl (VwOs.mk (by decide) ?_) ?_ <;> (repeat' (first | exact trivial | exact vwR rfl | exact Vw.own _ _ rfl | exact Vw.ptr _ _ _ rfl | exact VwO.row _ _ _ | refine VwO.box' ?_ | refine ⟨⟨_, rfl, ?_⟩, ?_⟩ | refine ⟨?_, ?_⟩ )))
  obtain rfl : k = n := by omega
  rw [show iterN k (rowB k) ns0 = clos k l by rw [← hns]; rfl]
  have hC := hB k
  rw [show iterN k (rowB k) ns0 = clos k l by rw [← hns]; rfl] at hC
  generalize clos k l = ns at *
  have g1 := hC.1
  refine w_loop (X := Nat) [4, 6, 60] (by simp only [keepv, getv_cons, Nat.reduceEqDiff, ↓reduceIte]; exact rfl) (fun b => [(61, .val (.int .i64 (b : Int)))]) (fun b => [.box [.val (.int .i64 0), .val (.slice none 0 0)], .row 3 1 (intc (nl ns)), .box [.val (.int .i64 k), .own 1]]) (fun b => b ≤ k ∧ ∀ b', b' < b → lt ns b' b' = false) (fun b => k - b) (0) ([0, 1, 2]) ?_ ?_ rfl ?_ <;> (try dsimp only [List.cons_append, List.nil_append])
  · exact ⟨Nat.zero_le _, fun _ h => by omega⟩
  · (refine St.le_mk rfl (VwOs.mk (by decide) ?_) ?_ <;> (repeat' (first | exact trivial | exact vwR rfl | exact Vw.own _ _ rfl | exact Vw.ptr _ _ _ rfl | exact VwO.row _ _ _ | refine VwO.box' ?_ | refine ⟨⟨_, rfl, ?_⟩, ?_⟩ | refine ⟨?_, ?_⟩ )))
  rintro b' ⟨hb2, hirr⟩
  (repeat' (first | refine a_seq ?_ | refine a_block ?_ | refine a_skip ?_ | refine a_ret ?_ | refine a_exit ?_ | refine a_region ?_ | refine l_nil ?_ | ((first | apply w_q); (focus (first | exact Q_move (by conv => lhs; whnf) | exact Q_assign (by conv => lhs; whnf) | exact Q_load_all rfl rfl KAg.h | exact Q_lss rfl rfl | exact Q_add rfl rfl (by omega) | exact Q_build0 KBd.h (by simp only [List.map_cons, List.map_nil, List.take_succ_cons, List.take_zero, List.drop_succ_cons, List.drop_zero, List.drop_nil, List.nil_append, List.cons_append, List.append_nil, List.length_cons, List.length_nil, Nat.reduceAdd, Nat.reduceMul]; exact rfl))); (focus exact rfl)) | (refine a_cond rfl ?_ ?_ <;> (intro h; (try (have hp := of_decide_eq_true h)); (try (have hp := of_decide_eq_false h)); (try contradiction); (try (exfalso; omega)))) | refine w_store_all rfl rfl rfl rfl rfl KSz.h (by first|(dsimp only[obA,obB,obD,obE,obF,obG,obI,List.map,AO.sh,AV.sh,AV.shl,Nat.reduceAdd];done)|exact rfl) ?_ | (((first | apply w_q); (focus (refine Q_call (.inl ⟨rfl, rfl⟩) (Lower_ac ?_ ?_ ?_ ?_ ?_ ?_) ?_; rotate_left 6; (focus ((repeat' (first | exact trivial | exact Vw.val _ | exact Vw.rowro2 rfl (by decide) (by with_unfolding_all exact rfl) | refine Vw.agg' ?_ | refine ⟨?_, ?_⟩ )); done)); all_goals (omega))); (focus exact rfl))))); (try all_goals (try show retA _ _ _ _ _ _ _))
  · obtain rfl : b = false := by
      rw [← hb, irr, List.all_eq_false]
      exact ⟨b', List.mem_range.2 (by omega), by simp only [lt, *]; decide⟩
    refine ⟨[_, _], [], ⟨resV_cell rfl rfl KAg.h, resV_tmp (by conv => lhs; whnf), trivial⟩, VwOs.mk (by decide) trivial, ?_, rfl⟩
    (repeat' (first | exact vwRL rfl | refine Vw.agg' ?_ | refine Vw.tup' ?_ | refine ⟨?_, ?_⟩ ))
  · refine ⟨b' + 1, [0, 1, 2], ?_, ?_, ?_, rfl⟩ <;> (try dsimp only)
    · refine ⟨by omega, fun c hc => ?_⟩
      by_cases hq : c = b'
      · subst hq; unfold lt; assumption
      · exact hirr c (by omega)
    · omega
    · (refine St.le_mk rfl (VwOs.mk (by decide) ?_) ?_ <;> (repeat' (first | exact trivial | exact vwR rfl | exact Vw.own _ _ rfl | exact Vw.ptr _ _ _ rfl | exact VwO.row _ _ _ | refine VwO.box' ?_ | refine ⟨⟨_, rfl, ?_⟩, ?_⟩ | refine ⟨?_, ?_⟩ )))
  · obtain rfl : b = true := by
      rw [← hb, irr, List.all_eq_true]
      intro c hc
      rw [hirr c (by have := List.mem_range.1 hc; omega)]
      rfl
    refine ⟨[_, _], [1], ⟨resV_cell rfl rfl KAg.h, resV_tmp (by conv => lhs; whnf), trivial⟩, VwOs.mk (by decide) ⟨⟨_, rfl, .row _ _ _⟩, trivial⟩, ?_, rfl⟩
    (repeat' (first | exact trivial | exact vwR rfl | exact vwRL rfl | exact Vw.own _ _ rfl | refine Vw.agg' ?_ | refine Vw.tup' ?_ | refine ⟨?_, ?_⟩ ))
end Go.Proofs.YtbgecpjlopdkfaaDoor
