import Derived.Test.YtbgecpjlopdkfaaDoorGd
import Derived.Test.YtbgecpjlopdkfaaDoorFm
import Derived.Test.YtbgecpjlopdkfaaDoorEngT
set_option linter.unusedSimpArgs false
set_option linter.unusedVariables false
set_option linter.unusedSectionVars false
set_option maxRecDepth 20000
namespace Go.Proofs.YtbgecpjlopdkfaaDoor
attribute [local irreducible] QOp aL aC qL
theorem getD_setD (l : List Nat) (x v b : Nat) (hx : x < l.length) : (l.set x v).getD b 0 = if b = x then v else l.getD b 0 := by
  by_cases h : b = x
  · subst h
    rw [if_pos rfl]
    simp [List.getD_eq_getElem?_getD, hx]
  · rw [if_neg h]
    simp [List.getD_eq_getElem?_getD, List.getElem?_set_ne (Ne.symm h)]
/-- One more pair. -/
theorem ofn_setD {n x y : Nat} {p p' : Nat → Nat → Bool} (hx : x < n) (hy : y < n) (h : ∀ a b, a < n → b < n → p' a b = (p a b || (decide (a = y) && decide (b = x)))) : (ofn n p).set x ((ofn n p).getD x 0 ||| 2 ^ y) = ofn n p' := by
  refine vld_ext ((ofn_vld n p).set (Nat.or_lt_two_pow ((ofn_vld n p).get x) (Nat.pow_lt_pow_right (by decide) hy))) (ofn_vld n p') fun a b ha hb => ?_
  rw [ofn_lt p' ha hb, h a b ha hb, lt, getD_setD _ _ _ _ (by rw [ofn_len]; exact hx)]
  by_cases hbx : b = x
  · subst hbx
    rw [if_pos rfl, Nat.testBit_or, Nat.testBit_two_pow, ← ofn_lt p ha hb, lt]
    simp [eq_comm]
  · rw [if_neg hbx, ← ofn_lt p ha hb, lt]
    simp [hbx]
/-! Turned over. -/
def dualP (ns : List Nat) (a b : Nat) : Bool := lt ns b a
def turnP (l : List (Nat × Nat)) (k : Nat) (a b : Nat) : Bool := (l.take k).contains (b, a)
theorem turnP_succ (l : List (Nat × Nat)) (k a b : Nat) (hk : k < l.length) : turnP l (k + 1) a b = (turnP l k a b || (decide (a = (l.getD k (0, 0)).2) && decide (b = (l.getD k (0, 0)).1))) := by
  unfold turnP
  rw [List.take_add_one, List.getElem?_eq_getElem hk]
  have e : l.getD k (0, 0) = l[k] := by simp [List.getD_eq_getElem?_getD, hk]
  rw [e]
  rw [Bool.eq_iff_iff]
  simp only [List.contains_eq_mem, Option.toList_some, List.mem_append, List.mem_singleton, decide_eq_true_eq, Bool.or_eq_true, Bool.and_eq_true]
  constructor
  · rintro (h | h)
    · exact .inl h
    · exact .inr ⟨congrArg Prod.snd h, congrArg Prod.fst h⟩
  · rintro (h | ⟨h1, h2⟩)
    · exact .inl h
    · exact .inr (Prod.ext h2 h1)
theorem Turn_ac (n : Nat) (ns : List Nat) (hn : n ≤ 10) (hv : Vld n ns) : AC Tryd.prog 95 [ordv n (nl ns)] [] (.agg [.val (.int .i64 n), .own 0]) [.row 3 1 (intc (nl (ofn n (dualP ns))))] := by
  have hlen := hv.1
  have call := Pairs_ac n ns false hn hv
  have hmem : ∀ k (h : k < (prsTo n (pf n ns false) n).length), ((prsTo n (pf n ns false) n).getD k (0, 0)).1 < n ∧ ((prsTo n (pf n ns false) n).getD k (0, 0)).2 < n := fun k h => by
    have e : (prsTo n (pf n ns false) n).getD k (0, 0) = (prsTo n (pf n ns false) n)[k] := by simp [List.getD_eq_getElem?_getD, h]
    rw [e]
    have := prs_mem.1 (List.getElem_mem h)
    exact ⟨this.1, this.2.1⟩
  have hll : (prsTo n (pf n ns false) n).length ≤ 100 := Nat.le_trans (prsTo_len n _ n) (mul_le10 (Nat.le_refl n) hn)
  have hend : ofn n (turnP (prsTo n (pf n ns false) n) (prsTo n (pf n ns false) n).length) = ofn n (dualP ns) := ofn_congr fun a b ha hb => by
    rw [Bool.eq_iff_iff]
    unfold turnP
    rw [List.take_length, List.contains_eq_mem, decide_eq_true_eq, prs_mem]
    simp [ha, hb, pf, dualP]
  have hstart : ofn n (turnP (prsTo n (pf n ns false) n) 0) = List.replicate n 0 := by
    refine nat_ext (by rw [ofn_len, List.length_replicate]) fun i hi => ?_
    rw [ofn_len] at hi
    rw [ofn_get _ hi]
    have : bs (fun a => turnP (prsTo n (pf n ns false) n) 0 a i) n = 0 := (bs_eq (Nat.pow_pos (by decide)) fun j _ => by simp [turnP]).symm
    rw [this]
    simp [List.getD_eq_getElem?_getD, hi]
  generalize prsTo n (pf n ns false) n = L at *
  have hpl := pn_len L
  refine AC.mk (n := 32) (fn := Tryd.f95) Tryd.func95 (by kernel_rfl) rfl rfl rfl rfl (fun cx => ?_); dsimp only [argv, Nat.reduceAdd]
  (repeat' (first | (refine w_cut (X := Unit) [1, 2] (by simp only [keepv, getv_cons, Nat.reduceEqDiff, ↓reduceIte]; exact rfl) (fun _ => [(3, .ptr 3 0)]) (fun _ => [.box [.val (.int .i64 n), ints (nl ns)], .box [.val (.int .i64 0), .val (.slice none 0 0)], .row 3 1 (intc (nl (List.replicate n 0))), .box [.val (.int .i64 n), .own 2]]) (fun _ => True) ?_ ?_; (focus (refine a_grow (id := 1) (g := 1) 7 (by kernel_rfl) (by kernel_rfl) ?_; (apply zw_q 0 rfl (by kernel_rfl); (focus (first | exact Q_fieldAddr_ptr rfl KFl.h)); (focus exact rfl); (apply zw_q 1 rfl (by kernel_rfl); (focus (first | exact Q_load_ptr rfl rfl rfl KSc.h)); (focus exact rfl); (apply zw_q 2 rfl (by kernel_rfl); (focus (first | exact Q_fieldAddr_ptr rfl KFl.h)); (focus exact rfl); (apply zw_q 3 rfl (by kernel_rfl); (focus (first | exact Q_load_ptr rfl rfl rfl KSc.h)); (focus exact rfl); (refine z_step (i := 4) (is := [6]) (by kernel_rfl) ?_; refine zw_mk_nats rfl rfl rfl rfl rfl KSl.h KMk.h (by omega) (by first|(dsimp only[obA,obB,obD,obE,obF,obG,obI,List.map,AO.sh,AV.sh,AV.shl,Nat.reduceAdd];done)|exact rfl) (by first|(dsimp only[obA,obB,obD,obE,obF,obG,obI,List.map,AO.sh,AV.sh,AV.shl,Nat.reduceAdd];done)|exact rfl) rfl ?_ ?_; (focus (apply zw_q 5 rfl (by kernel_rfl); (focus (first | exact Q_build2 KBd.h (by conv => lhs; whnf) (by conv => lhs; whnf) rfl rfl rfl (by simp only [List.map_cons, List.map_nil, List.take_succ_cons, List.take_zero, List.drop_succ_cons, List.drop_zero, List.drop_nil, List.nil_append, List.cons_append, List.append_nil, List.length_cons, List.length_nil, Nat.reduceAdd, Nat.reduceMul]; exact rfl) (by conv => lhs; whnf) (by conv => lhs; whnf) rfl rfl rfl (by simp only [List.map_cons, List.map_nil, List.take_succ_cons, List.take_zero, List.drop_succ_cons, List.drop_zero, List.drop_nil, List.nil_append, List.cons_append, List.append_nil, List.length_cons, List.length_nil, Nat.reduceAdd, Nat.reduceMul]; exact rfl))); (focus exact rfl); (refine z_step (i := 6) (is := []) (by kernel_rfl) ?_; refine zw_alloc rfl rfl KMk.h (by first|(dsimp only[obA,obB,obD,obE,obF,obG,obI,List.map,AO.sh,AV.sh,AV.shl,Nat.reduceAdd];done)|exact rfl) rfl (by first|(dsimp only[obA,obB,obD,obE,obF,obG,obI,List.map,AO.sh,AV.sh,AV.shl,Nat.reduceAdd];done)|exact rfl) (by first|(dsimp only[obA,obB,obD,obE,obF,obG,obI,List.map,AO.sh,AV.sh,AV.shl,Nat.reduceAdd];done)|exact rfl) rfl ?_ ?_; (focus (refine z_done (by kernel_rfl) ?_; (first | (show aL _ _ _ _ (_ :: _) _)); (first | refine w_store_all rfl rfl rfl rfl rfl KSz.h (by first|(dsimp only[obA,obB,obD,obE,obF,obG,obI,List.map,AO.sh,AV.sh,AV.shl,Nat.reduceAdd];done)|exact rfl) ?_); refine l_nil ?_; (first | (refine ⟨(), [0, 1, 2, 3], trivial, ?_, rfl⟩; (refine St.le_mk rfl (VwOs.mk (by decide) ?_) ?_ <;> (repeat' (first | exact trivial | exact vwR rfl | exact Vw.ro _ | exact Vw.own _ _ rfl | exact Vw.ptr _ _ _ rfl | exact VwO.row _ _ _ | refine VwO.box' ?_ | refine ⟨⟨_, rfl, ?_⟩, ?_⟩ | refine ⟨?_, ?_⟩ ))); done)))); exact zw_nil))); refine zw_alloc rfl rfl KMk.h (by first|(dsimp only[obA,obB,obD,obE,obF,obG,obI,List.map,AO.sh,AV.sh,AV.shl,Nat.reduceAdd];done)|exact rfl) rfl (by first|(dsimp only[obA,obB,obD,obE,obF,obG,obI,List.map,AO.sh,AV.sh,AV.shl,Nat.reduceAdd];done)|exact rfl) (by first|(dsimp only[obA,obB,obD,obE,obF,obG,obI,List.map,AO.sh,AV.sh,AV.shl,Nat.reduceAdd];done)|exact rfl) rfl ?_ ?_; (focus (refine z_step (i := 4) (is := []) (by kernel_rfl) ?_; refine zw_mk_nats rfl rfl rfl rfl rfl KSl.h KMk.h (by omega) (by first|(dsimp only[obA,obB,obD,obE,obF,obG,obI,List.map,AO.sh,AV.sh,AV.shl,Nat.reduceAdd];done)|exact rfl) (by first|(dsimp only[obA,obB,obD,obE,obF,obG,obI,List.map,AO.sh,AV.sh,AV.shl,Nat.reduceAdd];done)|exact rfl) rfl ?_ ?_; (focus (apply zw_q 5 rfl (by kernel_rfl); (focus (first | exact Q_build2 KBd.h (by conv => lhs; whnf) (by conv => lhs; whnf) rfl rfl rfl (by simp only [List.map_cons, List.map_nil, List.take_succ_cons, List.take_zero, List.drop_succ_cons, List.drop_zero, List.drop_nil, List.nil_append, List.cons_append, List.append_nil, List.length_cons, List.length_nil, Nat.reduceAdd, Nat.reduceMul]; exact rfl) (by conv => lhs; whnf) (by conv => lhs; whnf) rfl rfl rfl (by simp only [List.map_cons, List.map_nil, List.take_succ_cons, List.take_zero, List.drop_succ_cons, List.drop_zero, List.drop_nil, List.nil_append, List.cons_append, List.append_nil, List.length_cons, List.length_nil, Nat.reduceAdd, Nat.reduceMul]; exact rfl))); (focus exact rfl); (refine z_done (by kernel_rfl) ?_; (first | (show aL _ _ _ _ (_ :: _) _)); (first | refine w_store_all rfl rfl rfl rfl rfl KSz.h (by first|(dsimp only[obA,obB,obD,obE,obF,obG,obI,List.map,AO.sh,AV.sh,AV.shl,Nat.reduceAdd];done)|exact rfl) ?_); refine l_nil ?_; (first | (refine ⟨(), [0, 1, 3, 2], trivial, ?_, rfl⟩; (refine St.le_mk rfl (VwOs.mk (by decide) ?_) ?_ <;> (repeat' (first | exact trivial | exact vwR rfl | exact Vw.ro _ | exact Vw.own _ _ rfl | exact Vw.ptr _ _ _ rfl | exact VwO.row _ _ _ | refine VwO.box' ?_ | refine ⟨⟨_, rfl, ?_⟩, ?_⟩ | refine ⟨?_, ?_⟩ ))); done))))); exact zw_nil)); exact zw_nil))))))); (rintro ⟨⟩ -); (try dsimp only [List.cons_append, List.nil_append])) | (first | refine a_seq ?_ | refine a_block ?_ | refine a_region ?_ | refine l_nil ?_ | ((first | apply w_q); (focus (first | exact Q_move (by conv => lhs; whnf) | exact Q_load_all rfl rfl KAg.h | exact Q_len_pairsN rfl KSl.h)); (focus exact rfl)) | refine w_box rfl rfl (by first|(dsimp only[obA,obB,obD,obE,obF,obG,obI,List.map,AO.sh,AV.sh,AV.shl,Nat.reduceAdd];done)|exact rfl) (by first|(dsimp only[obA,obB,obD,obE,obF,obG,obI,List.map,AO.sh,AV.sh,AV.shl,Nat.reduceAdd];done)|exact rfl) rfl ?_ | refine w_alloc KMk.h (by first|(dsimp only[obA,obB,obD,obE,obF,obG,obI,List.map,AO.sh,AV.sh,AV.shl,Nat.reduceAdd];done)|exact rfl) rfl (by first|(dsimp only[obA,obB,obD,obE,obF,obG,obI,List.map,AO.sh,AV.sh,AV.shl,Nat.reduceAdd];done)|exact rfl) (by first|(dsimp only[obA,obB,obD,obE,obF,obG,obI,List.map,AO.sh,AV.sh,AV.shl,Nat.reduceAdd];done)|exact rfl) rfl ?_ | ((refine w_callV (.inl ⟨rfl, rfl⟩) (call) ?_ (by first | (dsimp only [AV.sh, AV.shl, sh_ints, sh_rows, sh_pairs, sh_ords]; done) | exact rfl) rfl ?_; rotate_left 0; (focus ((repeat' (first | exact trivial | exact Vs.val _ | exact Vs.ro _ | refine Vs.agg' ?_ | refine ⟨?_, ?_⟩)); done)); rotate_left 1; all_goals (try (skip))))))); (try all_goals (try show retA _ _ _ _ _ _ _))
  refine w_loop (X := Nat) [2, 3, 13, 14] (by simp only [keepv, getv_cons, Nat.reduceEqDiff, ↓reduceIte]; exact rfl) (fun k => [(15, .val (.int .i64 (k : Int)))]) (fun k => [.box [.val (.int .i64 n), ints (nl ns)], .box [.val (.int .i64 0), .val (.slice none 0 0)], .row 3 1 (intc (nl (ofn n (turnP L k)))), .box [.val (.int .i64 n), .own 2]]) (fun k => k ≤ L.length) (fun k => L.length - k) (0) ([0, 1, 2, 3]) ?_ ?_ rfl ?_ <;> (try dsimp only [List.cons_append, List.nil_append])
  · exact Nat.zero_le _
  · rw [hstart]
    (refine St.le_mk rfl (VwOs.mk (by decide) ?_) ?_ <;> (repeat' (first | exact trivial | exact vwR rfl | exact Vw.ro _ | exact Vw.own _ _ rfl | exact Vw.ptr _ _ _ rfl | exact VwO.row _ _ _ | refine VwO.box' ?_ | refine ⟨⟨_, rfl, ?_⟩, ?_⟩ | refine ⟨?_, ?_⟩ )))
  rintro k hk
  have hm := hmem k
  have hol := ofn_len n (turnP L k)
  have hst : ∀ h : k < L.length, (ofn n (turnP L k)).set (L.getD k (0, 0)).1 ((ofn n (turnP L k)).getD (L.getD k (0, 0)).1 0 ||| 2 ^ (L.getD k (0, 0)).2) = ofn n (turnP L (k + 1)) := fun h =>
    ofn_setD (hm h).1 (hm h).2 fun a b _ _ => turnP_succ L k a b h
  have hval := (ofn_vld n (turnP L k)).get (L.getD k (0, 0)).1
  have hpn := p2_10 hn
  have hp2 : (L.getD k (0, 0)).2 < n → 2 ^ (L.getD k (0, 0)).2 ≤ 1024 := fun h => p2_10 (by omega)
  (repeat' (first | refine a_seq ?_ | refine a_block ?_ | refine a_skip ?_ | refine a_ret ?_ | refine a_exit ?_ | refine a_region ?_ | refine l_nil ?_ | refine q_nil ?_ | ((first | apply w_q | apply w_qq); (focus (first | exact Q_move (by conv => lhs; whnf) | exact Q_fieldAddr_ptr rfl KFl.h | exact Q_load_ptr rfl rfl rfl KSc.h | exact Q_load_all rfl rfl KAg.h | exact Q_lss rfl rfl | exact Q_add rfl rfl (by omega) | exact Q_bit rfl rfl (by omega) | exact Q_ix_ownN rfl rfl rfl rfl KSl.h (by omega) | exact Q_ix_pairsN rfl rfl rfl KSl.h (by omega) | exact Q_ix_arr rfl rfl rfl KAr.h (by first | decide | omega) | exact Q_ld_ownN rfl rfl (by omega) KSc.h | exact Q_ld_pairN rfl (by omega) KAg.h)); (focus exact rfl)) | (refine a_cond rfl ?_ ?_ <;> (intro h; (try (have hp := of_decide_eq_true h)); (try (have hp := of_decide_eq_false h)); (try contradiction); (try (exfalso; omega)))) | refine a_drawT (id := 5) 11 (by kernel_rfl) (by kernel_rfl) (by simp only [List.take_succ_cons, List.take_zero, List.drop_succ_cons, List.drop_zero]; exact rfl) (by simp only [List.take_succ_cons, List.take_zero, List.drop_succ_cons, List.drop_zero]; exact rfl) ?_ | refine w_alloc KMk.h (by first|(dsimp only[obA,obB,obD,obE,obF,obG,obI,List.map,AO.sh,AV.sh,AV.shl,Nat.reduceAdd];done)|exact rfl) rfl (by first|(dsimp only[obA,obB,obD,obE,obF,obG,obI,List.map,AO.sh,AV.sh,AV.shl,Nat.reduceAdd];done)|exact rfl) (by first|(dsimp only[obA,obB,obD,obE,obF,obG,obI,List.map,AO.sh,AV.sh,AV.shl,Nat.reduceAdd];done)|exact rfl) rfl ?_ | refine w_store_all rfl rfl rfl rfl rfl KSz.h (by first|(dsimp only[obA,obB,obD,obE,obF,obG,obI,List.map,AO.sh,AV.sh,AV.shl,Nat.reduceAdd];done)|exact rfl) ?_ | refine w_st_nats rfl rfl rfl KSz.h (by omega) (by first|(dsimp only[obA,obB,obD,obE,obF,obG,obI,List.map,AO.sh,AV.sh,AV.shl,Nat.reduceAdd];done)|exact rfl) ?_ | (((first | apply w_qq); (focus exact Q_orN rfl rfl (by omega) (by have := hp2 (hm (by omega)).2; omega)); (focus exact rfl))))); (try all_goals (try show retA _ _ _ _ _ _ _))
  · refine ⟨k + 1, [0, 1, 2, 3], ?_, ?_, ?_, rfl⟩ <;> (try dsimp only)
    · omega
    · omega
    · rw [← hst (by omega)]
      (refine St.le_mk rfl (VwOs.mk (by decide) ?_) ?_ <;> (repeat' (first | exact trivial | exact vwR rfl | exact Vw.ro _ | exact Vw.own _ _ rfl | exact Vw.ptr _ _ _ rfl | exact VwO.row _ _ _ | refine VwO.box' ?_ | refine ⟨⟨_, rfl, ?_⟩, ?_⟩ | refine ⟨?_, ?_⟩ )))
  · obtain rfl : k = L.length := by omega
    rw [← hend]
    refine ⟨[_], [2], ⟨resV_cell rfl rfl KAg.h, trivial⟩, VwOs.mk (by decide) ⟨⟨_, rfl, .row _ _ _⟩, trivial⟩, ?_, rfl⟩
    (repeat' (first | exact trivial | exact vwR rfl | exact Vw.own _ _ rfl | refine Vw.agg' ?_ | refine ⟨?_, ?_⟩ ))
end Go.Proofs.YtbgecpjlopdkfaaDoor
