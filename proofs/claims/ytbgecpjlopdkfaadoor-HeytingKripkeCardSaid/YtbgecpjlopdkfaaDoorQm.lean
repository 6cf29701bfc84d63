import Derived.Test.YtbgecpjlopdkfaaDoorJf
import Derived.Test.YtbgecpjlopdkfaaDoorKl
import Derived.Test.YtbgecpjlopdkfaaDoorGc
import Derived.Test.YtbgecpjlopdkfaaDoorEngZp
set_option linter.unusedSimpArgs false
set_option linter.unusedVariables false
set_option linter.unusedSectionVars false
set_option maxRecDepth 20000
namespace Go.Proofs.YtbgecpjlopdkfaaDoor
attribute [local irreducible] QOp aL aC qL
theorem idl_iff {n : Nat} {ns : List Nat} {s : Nat} : idl n ns s = true ↔ ∀ b, b < n → s.testBit b = true → sub (ns.getD b 0) s = true := by
  unfold idl
  rw [List.all_eq_true]
  constructor
  · intro h b hb hs
    have := h b (List.mem_range.2 hb)
    rwa [hs, Bool.not_true, Bool.false_or] at this
  · intro h b hb
    cases hs : s.testBit b
    · rfl
    · rw [Bool.not_true, Bool.false_or]; exact h b (List.mem_range.1 hb) hs
theorem id_get {n : Nat} {ns : List Nat} {i : Nat} (hi : i < (idTo n ns (2 ^ n)).length) : (idTo n ns (2 ^ n)).getD i 0 < 2 ^ n ∧ idl n ns ((idTo n ns (2 ^ n)).getD i 0) = true := rng_get (idl n ns) (2 ^ n) hi
theorem id_at {n : Nat} {ns : List Nat} {s : Nat} (hs : s < 2 ^ n) (h : idl n ns s = true) : ∃ i, i < (idTo n ns (2 ^ n)).length ∧ (idTo n ns (2 ^ n)).getD i 0 = s := rng_at (p := idl n ns) hs h
theorem idl_and {n : Nat} {ns : List Nat} {a b : Nat} (ha : idl n ns a = true) (hb : idl n ns b = true) : idl n ns (a &&& b) = true := idl_iff.2 fun i hi h => by
  rw [Nat.testBit_and, Bool.and_eq_true] at h
  exact sub_land.2 ⟨idl_iff.1 ha i hi h.1, idl_iff.1 hb i hi h.2⟩
theorem idl_or {n : Nat} {ns : List Nat} {a b : Nat} (ha : idl n ns a = true) (hb : idl n ns b = true) : idl n ns (a ||| b) = true := idl_iff.2 fun i hi h => by
  rw [Nat.testBit_or, Bool.or_eq_true] at h
  refine sub_iff.2 fun j hj => ?_
  rw [Nat.testBit_or, Bool.or_eq_true]
  rcases h with h | h
  · exact .inl (sub_iff.1 (idl_iff.1 ha i hi h) j hj)
  · exact .inr (sub_iff.1 (idl_iff.1 hb i hi h) j hj)
theorem id_StJ (n : Nat) (ns : List Nat) : StJ (idTo n ns (2 ^ n)) (· ||| ·) := by
  refine ⟨fun i j hi hj h => rng_one (idl n ns) (2 ^ n) hi hj h, fun i j hi hj => ?_, fun i j hi hj => ?_, fun i j z _ _ _ => sub_lor⟩
  · exact id_at (Nat.lt_of_le_of_lt Nat.and_le_left (id_get hi).1) (idl_and (id_get hi).2 (id_get hj).2)
  · exact id_at (Nat.or_lt_two_pow (id_get hi).1 (id_get hj).1) (idl_or (id_get hi).2 (id_get hj).2)
def idM (n : Nat) (ns : List Nat) : List (List Nat) := tbT (idTo n ns (2 ^ n)).length (mtN (idTo n ns (2 ^ n))) (idTo n ns (2 ^ n)).length
def idJ (n : Nat) (ns : List Nat) : List (List Nat) := tbT (idTo n ns (2 ^ n)).length (jnN (idTo n ns (2 ^ n)) (· ||| ·)) (idTo n ns (2 ^ n)).length
theorem id_pos (n : Nat) (ns : List Nat) : 1 ≤ (idTo n ns (2 ^ n)).length := by
  obtain ⟨i, h1, _⟩ := id_at (n := n) (ns := ns) (s := 0) (Nat.pow_pos (by decide)) (idl_iff.2 fun b _ h => by rw [Nat.zero_testBit] at h; cases h)
  omega
theorem id_la {n : Nat} {ns : List Nat} (hm : (idTo n ns (2 ^ n)).length ≤ 40) : La (idTo n ns (2 ^ n)).length (idM n ns) (idJ n ns) := (id_StJ n ns).la (id_pos n ns) hm
theorem ILat_many (n : Nat) (ns : List Nat) (hn : n ≤ 10) (hv : Vld n ns) (hok : okB n ns = true) (hm : 40 < (idTo n ns (2 ^ n)).length) : AC Tryd.prog 48 [ordv n (nl ns)] [] (.tup [latA 0 [] [], .val (.int .i64 2)]) [] := by
  have k := Ideals_ok n ns hn hv hok
  have hlen := idTo_len n ns (2 ^ n)
  have hpn := p2_10 hn
  generalize idTo n ns (2 ^ n) = S at *
  refine AC.mk (n := 21) (fn := Tryd.f48) Tryd.func48 (by kernel_rfl) rfl rfl rfl rfl (fun cx => ?_); dsimp only [argv, Nat.reduceAdd]
  (repeat' (first | refine a_seq ?_ | refine a_skip ?_ | refine a_ret ?_ | refine a_region ?_ | refine l_nil ?_ | (apply w_q; (focus (first | exact Q_move (by conv => lhs; whnf) | exact Q_assign (by conv => lhs; whnf) | exact Q_load_all rfl rfl KAg.h | exact Q_gtr rfl rfl | exact Q_neq rfl rfl | exact Q_build0 KBd.h (by simp only [List.map_cons, List.map_nil, List.take_succ_cons, List.take_zero, List.drop_succ_cons, List.drop_zero, List.drop_nil, List.nil_append, List.cons_append, List.append_nil, List.length_cons, List.length_nil, Nat.reduceAdd, Nat.reduceMul]; exact rfl) | exact Q_len_nats rfl KSl.h | exact Q_extract rfl (by conv => lhs; whnf))); (focus exact rfl)) | (refine a_cond rfl ?_ ?_ <;> (intro h; (try (have hp := of_decide_eq_true h)); (try (have hp := of_decide_eq_false h)); (try contradiction); (try (exfalso; omega)))) | refine w_box rfl rfl (by first|(dsimp only[obA,obB,obD,obE,obF,obG,obI,List.map,AO.sh,AV.sh,AV.shl,Nat.reduceAdd];done)|exact rfl) (by first|(dsimp only[obA,obB,obD,obE,obF,obG,obI,List.map,AO.sh,AV.sh,AV.shl,Nat.reduceAdd];done)|exact rfl) rfl ?_ | refine w_alloc KMk.h (by first|(dsimp only[obA,obB,obD,obE,obF,obG,obI,List.map,AO.sh,AV.sh,AV.shl,Nat.reduceAdd];done)|exact rfl) rfl (by first|(dsimp only[obA,obB,obD,obE,obF,obG,obI,List.map,AO.sh,AV.sh,AV.shl,Nat.reduceAdd];done)|exact rfl) (by first|(dsimp only[obA,obB,obD,obE,obF,obG,obI,List.map,AO.sh,AV.sh,AV.shl,Nat.reduceAdd];done)|exact rfl) rfl ?_ | refine w_store_all rfl rfl rfl rfl rfl KSz.h (by first|(dsimp only[obA,obB,obD,obE,obF,obG,obI,List.map,AO.sh,AV.sh,AV.shl,Nat.reduceAdd];done)|exact rfl) ?_ | ((refine w_callV (.inl ⟨rfl, rfl⟩) (k) ?_ (by first | (dsimp only [AV.sh, AV.shl, sh_ints, sh_rows, sh_pairs, sh_ords]; done) | exact rfl) rfl ?_; rotate_left 0; (focus ((repeat' (first | exact trivial | exact Vs.val _ | exact Vs.ro _ | refine Vs.agg' ?_ | refine ⟨?_, ?_⟩)); done)); rotate_left 1; all_goals (try (skip)))))); (try all_goals (try show retA _ _ _ _ _ _ _))
  all_goals first
    | (exfalso; omega)
    | (refine ⟨[_, _], [], ⟨resV_cell rfl rfl KAg.h, resV_tmp (by conv => lhs; whnf), trivial⟩, VwOs.mk (by decide) trivial, ?_, rfl⟩; (repeat' (first | exact trivial | exact vwR rfl | exact vwRL rfl | exact Vw.nilro _ | refine Vw.agg' ?_ | refine Vw.tup' ?_ | refine ⟨?_, ?_⟩ )); done)
    | (all_goals trace_state); fail
theorem ILat_ok (n : Nat) (ns : List Nat) (hn : n ≤ 10) (hv : Vld n ns) (hok : okB n ns = true) (hm : (idTo n ns (2 ^ n)).length ≤ 40) : AC Tryd.prog 48 [ordv n (nl ns)] [] (.tup [latA (idTo n ns (2 ^ n)).length (tn (idM n ns)) (tn (idJ n ns)), .val (.int .i64 0)]) [] := by
  have k := Ideals_ok n ns hn hv hok
  have hpn := p2_10 hn
  have k2 := OfSets_ac (idTo n ns (2 ^ n)) hm (fun x hx => by
    obtain ⟨i, hi, rfl⟩ := List.getElem_of_mem hx
    have := (id_get hi).1
    rw [List.getD_eq_getElem?_getD, List.getElem?_eq_getElem hi] at this
    have h2 : (idTo n ns (2 ^ n))[i] < 2 ^ n := this
    omega)
  rw [(id_StJ n ns).tabs.1, (id_StJ n ns).tabs.2] at k2
  have e1 : tn (idM n ns) = tn (tbT (idTo n ns (2 ^ n)).length (mtN (idTo n ns (2 ^ n))) (idTo n ns (2 ^ n)).length) := rfl
  have e2 : tn (idJ n ns) = tn (tbT (idTo n ns (2 ^ n)).length (jnN (idTo n ns (2 ^ n)) (· ||| ·)) (idTo n ns (2 ^ n)).length) := rfl
  rw [← e1, ← e2] at k2
  have k3 := AC.vw0 (res2 := latA (idTo n ns (2 ^ n)).length (tn (idM n ns)) (tn (idJ n ns))) k2 (by (repeat' (first | exact trivial | exact vwR rfl | exact Vw.rowro _ _ _ _ rfl (by decide) | refine Vw.agg' ?_ | refine ⟨?_, ?_⟩ )))
  clear k2 e1 e2
  generalize tn (idM n ns) = M at *
  generalize tn (idJ n ns) = J at *
  generalize idTo n ns (2 ^ n) = S at *
  refine AC.mk (n := 21) (fn := Tryd.f48) Tryd.func48 (by kernel_rfl) rfl rfl rfl rfl (fun cx => ?_); dsimp only [argv, Nat.reduceAdd]
  (repeat' (first | refine a_seq ?_ | refine a_skip ?_ | refine a_ret ?_ | refine a_region ?_ | refine l_nil ?_ | (apply w_q; (focus (first | exact Q_move (by conv => lhs; whnf) | exact Q_assign (by conv => lhs; whnf) | exact Q_load_all rfl rfl KAg.h | exact Q_gtr rfl rfl | exact Q_neq rfl rfl | exact Q_len_nats rfl KSl.h | exact Q_extract rfl (by conv => lhs; whnf))); (focus exact rfl)) | (refine a_cond rfl ?_ ?_ <;> (intro h; (try (have hp := of_decide_eq_true h)); (try (have hp := of_decide_eq_false h)); (try contradiction); (try (exfalso; omega)))) | refine w_box rfl rfl (by first|(dsimp only[obA,obB,obD,obE,obF,obG,obI,List.map,AO.sh,AV.sh,AV.shl,Nat.reduceAdd];done)|exact rfl) (by first|(dsimp only[obA,obB,obD,obE,obF,obG,obI,List.map,AO.sh,AV.sh,AV.shl,Nat.reduceAdd];done)|exact rfl) rfl ?_ | refine w_alloc KMk.h (by first|(dsimp only[obA,obB,obD,obE,obF,obG,obI,List.map,AO.sh,AV.sh,AV.shl,Nat.reduceAdd];done)|exact rfl) rfl (by first|(dsimp only[obA,obB,obD,obE,obF,obG,obI,List.map,AO.sh,AV.sh,AV.shl,Nat.reduceAdd];done)|exact rfl) (by first|(dsimp only[obA,obB,obD,obE,obF,obG,obI,List.map,AO.sh,AV.sh,AV.shl,Nat.reduceAdd];done)|exact rfl) rfl ?_ | refine w_store_all rfl rfl rfl rfl rfl KSz.h (by first|(dsimp only[obA,obB,obD,obE,obF,obG,obI,List.map,AO.sh,AV.sh,AV.shl,Nat.reduceAdd];done)|exact rfl) ?_ | ((refine w_callV (.inl ⟨rfl, rfl⟩) (k) ?_ (by first | (dsimp only [AV.sh, AV.shl, sh_ints, sh_rows, sh_pairs, sh_ords]; done) | exact rfl) rfl ?_; rotate_left 0; (focus ((repeat' (first | exact trivial | exact Vs.val _ | exact Vs.ro _ | refine Vs.agg' ?_ | refine ⟨?_, ?_⟩)); done)); rotate_left 1; all_goals (try (skip)))) | ((refine w_callV (.inl ⟨rfl, rfl⟩) (k3) ?_ (by first | (dsimp only [AV.sh, AV.shl, sh_ints, sh_rows, sh_pairs, sh_ords]; done) | exact rfl) rfl ?_; rotate_left 0; (focus ((repeat' (first | exact trivial | exact Vs.ro _ | refine ⟨?_, ?_⟩)); done)); rotate_left 1; all_goals (try (skip)))))); (try all_goals (try show retA _ _ _ _ _ _ _))
  all_goals first
    | (exfalso; omega)
    | (refine ⟨[_, _], [], ⟨resV_cell rfl rfl KAg.h, resV_tmp (by conv => lhs; whnf), trivial⟩, VwOs.mk (by decide) trivial, ?_, rfl⟩; (repeat' (first | exact trivial | exact vwR rfl | exact vwRL rfl | exact Vw.ro _ | refine Vw.agg' ?_ | refine Vw.tup' ?_ | refine ⟨?_, ?_⟩ )); done)
    | (all_goals trace_state); fail
end Go.Proofs.YtbgecpjlopdkfaaDoor
