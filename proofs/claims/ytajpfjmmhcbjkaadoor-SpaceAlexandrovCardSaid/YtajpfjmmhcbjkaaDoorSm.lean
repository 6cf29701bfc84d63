import Derived.Test.YtajpfjmmhcbjkaaDoorSk
import Derived.Test.YtajpfjmmhcbjkaaDoorSj
import Derived.Test.YtajpfjmmhcbjkaaDoorSd
set_option linter.unusedSimpArgs false
set_option linter.unusedVariables false
set_option linter.unusedSectionVars false
set_option maxRecDepth 20000
namespace Go.Proofs.YtajpfjmmhcbjkaaDoor
attribute [local irreducible] QOp aL aC qL
theorem Q_ld_natsE2 {P : Program} {st : St} {d : Option Tmp} {ty : TypeId} {pos : String} {af : Array Edge} {g : Option (Nat × Bool)} {x : Operand} {T : TypeId} {l : List Nat} {o q : Nat} (e : l.getD o 0 = q) (hx : st.ev x = .rpt (intc (nl l)) o) (h : o < l.length) (ht : ScT P T) :
    QOp P ⟨d, .load T x, ty, pos, af, g⟩ st (.val (.int .i64 (q : Int))) := by
  subst e; exact Q_ld_nats hx h ht
def preN (n : Nat) (F : List Nat) (t : Nat) : Nat := bs (fun p => t.testBit (F.getD p 0)) n
def smoB (n : Nat) (ns : List Nat) (m : Nat) (ms F : List Nat) : Bool := (opN m ms).all fun t => decide (preN n F t ∈ opN n ns)
theorem opN_rise (n : Nat) (ns : List Nat) : (opN n ns).Pairwise (· < ·) := List.Pairwise.filter _ List.pairwise_lt_range
theorem opN_mem {n : Nat} {ns : List Nat} {s : Nat} : s ∈ opN n ns ↔ s < 2 ^ n ∧ ∀ a b, a < n → b < n → lt ns a b = true → s.testBit a = true → s.testBit b = true := by
  unfold opN idTo
  rw [List.mem_filter, List.mem_range]
  refine and_congr_right fun hs => ?_
  unfold idl
  rw [List.all_eq_true]
  constructor
  · intro h a b ha hb hl hsa
    have := h a (List.mem_range.2 ha)
    rw [hsa, Bool.not_true, Bool.false_or, sub_iff] at this
    refine this b ?_
    have e := ofn_lt (dualP ns) hb ha
    unfold lt at e
    rw [e]; exact hl
  · intro h b hb
    have hbn := List.mem_range.1 hb
    cases hsb : s.testBit b
    · rfl
    · rw [Bool.not_true, Bool.false_or, sub_iff]
      intro i hi
      have hin := bit_small ((ofn_vld n (dualP ns)).get b) hi
      have e := ofn_lt (dualP ns) hin hbn
      unfold lt at e
      rw [e] at hi
      exact h b i hbn hin hi hsb
theorem preN_bit {n : Nat} {F : List Nat} {t p : Nat} : (preN n F t).testBit p = true ↔ p < n ∧ t.testBit (F.getD p 0) = true := by
  unfold preN; rw [bs_bit, Bool.and_eq_true, decide_eq_true_eq]
theorem preN_lt (n : Nat) (F : List Nat) (t : Nat) : preN n F t < 2 ^ n := bs_lt _ _
/-- ALEXANDROV. -/
theorem smo_mon {n : Nat} {ns : List Nat} {m : Nat} {ms F : List Nat} (hok : okB m ms = true) (hF : MpS n m F) : smoB n ns m ms F = monB n ns ms F := by
  rw [Bool.eq_iff_iff, monB_iff]
  unfold smoB
  rw [List.all_eq_true]
  constructor
  · intro h a b ha hb hl
    have fa := hF.ff a ha
    have fb := hF.ff b hb
    have hu : bs (fun y => decide (y = F.getD a 0) || lt ms (F.getD a 0) y) m ∈ opN m ms := opN_mem.2 ⟨bs_lt _ _, fun x y hx hy hxy hs => by
      rw [bs_bit, Bool.and_eq_true, Bool.or_eq_true, decide_eq_true_eq, decide_eq_true_eq] at hs ⊢
      refine ⟨hy, .inr ?_⟩
      rcases hs.2 with e | e
      · rw [← e]; exact hxy
      · exact okB_tr hok hy hx hxy e⟩
    have h1 := of_decide_eq_true (h _ hu)
    have h2 := (opN_mem.1 h1).2 a b ha hb hl (preN_bit.2 ⟨ha, by rw [bs_bit, decide_eq_true fa]; simp⟩)
    have h3 := (preN_bit.1 h2).2
    rw [bs_bit, Bool.and_eq_true, Bool.or_eq_true, decide_eq_true_eq, decide_eq_true_eq] at h3
    exact h3.2.imp Eq.symm id
  · intro h t ht
    rw [decide_eq_true_eq, opN_mem]
    refine ⟨preN_lt _ _ _, fun a b ha hb hl hs => ?_⟩
    have h1 := (preN_bit.1 hs).2
    refine preN_bit.2 ⟨hb, ?_⟩
    rcases h a b ha hb hl with e | e
    · rw [← e]; exact h1
    · exact (opN_mem.1 ht).2 _ _ (hF.ff a ha) (hF.ff b hb) e h1
theorem Smooth_err (N : Int) (l : List Int) (M : Int) (r f : List Int) (hf : f.length ≤ 9223372036854775807) (hne : mnE N l M r f ≠ 0) : AC Tryd.prog 37 [ordv N l, ordv M r, ints f] [] (.tup [.val (.bool false), .val (.int .i64 (mnE N l M r f))]) [] := by
  have k1 := Monotone_err N l M r f hf hne
  generalize mnE N l M r f = e at *
  refine AC.mk (n := 73) (fn := Tryd.f37) Tryd.func37 (by kernel_rfl) rfl rfl rfl rfl (fun cx => ?_); dsimp only [argv, Nat.reduceAdd]
  (repeat' (first | refine a_seq ?_ | refine a_block ?_ | refine a_skip ?_ | refine a_ret ?_ | refine a_exit ?_ | refine a_region ?_ | refine l_nil ?_ | (apply w_q; (focus (first | exact Q_move (by conv => lhs; whnf) | exact Q_assign (by conv => lhs; whnf) | exact Q_load_ptr rfl rfl rfl KSc.h | exact Q_load_all rfl rfl KAg.h | exact Q_lss rfl rfl | exact Q_eql rfl rfl | exact Q_eqlB rfl rfl KBo.h | exact Q_neq rfl rfl | exact Q_neqB rfl rfl KBo.h | exact Q_add rfl rfl (by omega) | exact Q_shrN rfl rfl (by omega) | exact Q_and1 rfl rfl | exact Q_bit rfl rfl (by omega) | exact Q_ix_nats rfl rfl rfl KSl.h (by omega) | exact Q_ix_ints rfl rfl rfl KSl.h (by omega) | exact Q_ix_ownN rfl rfl rfl rfl KSl.h (by omega) | exact Q_ix_own rfl rfl rfl rfl KSl.h (by omega) | exact Q_ix_rows rfl rfl rfl KSl.h (by omega) | exact Q_ix_pairsN rfl rfl rfl KSl.h (by omega) | exact Q_ix_pairs rfl rfl rfl KSl.h (by omega) | exact Q_ix_ords rfl rfl rfl KSl.h (by omega) | exact Q_ix_ownb rfl rfl rfl rfl KSl.h (by omega) | exact Q_ix_arr rfl rfl rfl KAr.h (by first | decide | omega) | exact Q_ix_arp rfl rfl rfl KAr.h (by first | decide | omega) | exact Q_ld_rpa rfl KAg.h rfl rfl (by first | (dsimp only [List.drop_zero, List.drop_succ_cons, List.take_succ_cons, List.take_zero, List.map, ofD]; done) | exact rfl) | exact Q_ld_rv rfl rfl KSc.h | exact Q_ld_rs rfl rfl KSc.h | exact Q_ld_nats rfl (by omega) KSc.h | exact Q_ld_ints rfl (by omega) KSc.h | exact Q_ld_ownN rfl rfl (by omega) KSc.h | exact Q_ld_own rfl rfl (by omega) KSc.h | exact Q_ld_rows rfl (by omega) KSc.h | exact Q_ld_pair1N rfl (by omega) KSc.h | exact Q_ld_pair2N rfl (by omega) KSc.h | exact Q_ld_pair1 rfl (by omega) KSc.h | exact Q_ld_pair2 rfl (by omega) KSc.h | exact Q_ld_pairN rfl (by omega) KAg.h | exact Q_ld_pair rfl (by omega) KAg.h | exact Q_eqlP rfl rfl inferInstance | exact Q_neqP rfl rfl inferInstance | exact Q_ld_ord rfl (by omega) KAg.h | exact Q_ld_ownb rfl rfl (by omega) KSc.h | exact Q_len_nats rfl KSl.h | exact Q_len_ints rfl KSl.h | exact Q_len_ownN rfl rfl KSl.h | exact Q_len_own' rfl rfl KSl.h | exact Q_len_rows rfl KSl.h | exact Q_len_pairsN rfl KSl.h | exact Q_len_pairs rfl KSl.h | exact Q_len_ords rfl KSl.h | exact Q_len_nil' rfl KSl.h | exact Q_len_ownp rfl rfl KSl.h | exact Q_extract rfl (by conv => lhs; whnf) | exact Q_extract_v rfl (by conv => lhs; whnf) | exact Q_not rfl)); (focus exact rfl)) | (refine a_cond rfl ?_ ?_ <;> (intro h; (try (have hp := of_decide_eq_true h)); (try (have hp := of_decide_eq_false h)); (try contradiction); (try (exfalso; omega)))) | refine w_box rfl rfl (by first|(dsimp only[obA,obB,obD,obE,obF,obG,obI,List.map,AO.sh,AV.sh,AV.shl,Nat.reduceAdd];done)|exact rfl) (by first|(dsimp only[obA,obB,obD,obE,obF,obG,obI,List.map,AO.sh,AV.sh,AV.shl,Nat.reduceAdd];done)|exact rfl) rfl ?_ | refine w_box1 (by conv => lhs; whnf) rfl rfl (by first|(dsimp only[obA,obB,obD,obE,obF,obG,obI,List.map,AO.sh,AV.sh,AV.shl,Nat.reduceAdd];done)|exact rfl) (by first|(dsimp only[obA,obB,obD,obE,obF,obG,obI,List.map,AO.sh,AV.sh,AV.shl,Nat.reduceAdd];done)|exact rfl) rfl ?_ | ((refine w_callV (.inl ⟨rfl, rfl⟩) (k1) ?_ (by first | (dsimp only [AV.sh, AV.shl, sh_ints, sh_rows, sh_pairs, sh_ords]; done) | exact rfl) rfl ?_; rotate_left 0; (focus ((repeat' (first | exact trivial | exact Vs.val _ | exact Vs.ro _ | exact Vs.rpt _ _ | exact Vs.valro _ | exact Vs.nilro _ | exact Vs.any _ | refine Vs.agg' ?_ | refine Vs.tup' ?_ | refine Vs.clo' ?_ | refine ⟨?_, ?_⟩)); done)); rotate_left 1; all_goals (try (skip)))))); (try all_goals (try show retA _ _ _ _ _ _ _))
  refine ⟨[_, _], [], ⟨resV_tmp (by conv => lhs; whnf), resV_tmp (by conv => lhs; whnf), trivial⟩, VwOs.mk (by decide) trivial, ?_, rfl⟩
  (repeat' (first | exact trivial | exact vwR rfl | exact vwRL rfl | exact Vw.val _ | exact Vw.ro _ | exact Vw.any _ | exact Vw.valro _ | exact Vw.own _ _ rfl | exact Vw.ptr _ _ _ rfl | exact Vw.rpt _ _ | exact Vw.nilro _ | exact Vw.rowro _ _ _ _ rfl (by decide) | exact Vw.rowro2 rfl (by decide) (by with_unfolding_all exact rfl) | refine Vw.agg' ?_ | refine Vw.tup' ?_ | refine Vw.clo' ?_ | refine Vw.boxrpt' rfl (by decide) ?_ | exact Nat.le_of_ble_eq_true rfl | refine ⟨?_, ?_⟩ ))
set_option maxHeartbeats 2000000 in
theorem Smooth_ok (n : Nat) (ns : List Nat) (m : Nat) (ms F : List Nat) (a1 : n ≤ 10) (a2 : Vld n ns) (a3 : okB n ns = true) (b1 : m ≤ 10) (b2 : Vld m ms) (b3 : okB m ms = true) (hF : MpS n m F) : AC Tryd.prog 37 [ordv n (nl ns), ordv m (nl ms), ints (nl F)] [] (.tup [.val (.bool (smoB n ns m ms F)), .val (.int .i64 0)]) [] := by
  have k1 := Monotone_ok n ns m ms F a1 a2 a3 b1 b2 b3 hF
  have k2 := Opens_ok n ns a1 a2 a3
  have k3 := Opens_ok m ms b1 b2 b3
  have hpn := p2_10 a1
  have hpm := p2_10 b1
  have hlo : (opN n ns).length ≤ 2 ^ n := idTo_len _ _ _
  have hlt : (opN m ms).length ≤ 2 ^ m := idTo_len _ _ _
  have kS := fun x => BSearch_ac (opN n ns) x (opN_rise n ns) (by omega)
  have htm : ∀ j, j < (opN m ms).length → (opN m ms).getD j 0 < 2 ^ m := fun j hj => (opN_mem.1 (mem_get.2 ⟨j, hj, rfl⟩)).1
  have hall : smoB n ns m ms F = true ↔ ∀ j, j < (opN m ms).length → preN n F ((opN m ms).getD j 0) ∈ opN n ns := by
    unfold smoB
    rw [List.all_eq_true]
    constructor
    · exact fun h j hj => of_decide_eq_true (h _ (mem_get.2 ⟨j, hj, rfl⟩))
    · intro h t ht
      obtain ⟨j, hj, rfl⟩ := mem_get.1 ht
      exact decide_eq_true (h j hj)
  have hfl := hF.fl
  have hff := hF.ff
  generalize smoB n ns m ms F = R at *
  generalize monB n ns ms F = mo at *
  generalize opN n ns = O at *
  generalize opN m ms = T at *
  have hlT := nl_len T
  have hlF := nl_len F
  refine AC.mk (n := 73) (fn := Tryd.f37) Tryd.func37 (by kernel_rfl) rfl rfl rfl rfl (fun cx => ?_); dsimp only [argv, Nat.reduceAdd]
  
  (repeat' (first | refine a_seq ?_ | refine a_block ?_ | refine a_skip ?_ | refine a_ret ?_ | refine a_exit ?_ | refine a_region ?_ | refine l_nil ?_ | (apply w_q; (focus (first | exact Q_move (by conv => lhs; whnf) | exact Q_assign (by conv => lhs; whnf) | exact Q_load_ptr rfl rfl rfl KSc.h | exact Q_load_all rfl rfl KAg.h | exact Q_neq rfl rfl | exact Q_neqB rfl rfl KBo.h | exact Q_ld_rpa rfl KAg.h rfl rfl (by first | (dsimp only [List.drop_zero, List.drop_succ_cons, List.take_succ_cons, List.take_zero, List.map, ofD]; done) | exact rfl) | exact Q_ld_rv rfl rfl KSc.h | exact Q_ld_rs rfl rfl KSc.h | exact Q_ld_nats rfl (by omega) KSc.h | exact Q_ld_ints rfl (by omega) KSc.h | exact Q_ld_ownN rfl rfl (by omega) KSc.h | exact Q_ld_own rfl rfl (by omega) KSc.h | exact Q_ld_rows rfl (by omega) KSc.h | exact Q_ld_pair1N rfl (by omega) KSc.h | exact Q_ld_pair2N rfl (by omega) KSc.h | exact Q_ld_pair1 rfl (by omega) KSc.h | exact Q_ld_pair2 rfl (by omega) KSc.h | exact Q_ld_pairN rfl (by omega) KAg.h | exact Q_ld_pair rfl (by omega) KAg.h | exact Q_neqP rfl rfl inferInstance | exact Q_ld_ord rfl (by omega) KAg.h | exact Q_ld_ownb rfl rfl (by omega) KSc.h | exact Q_len_nats rfl KSl.h | exact Q_len_ints rfl KSl.h | exact Q_len_ownN rfl rfl KSl.h | exact Q_len_own' rfl rfl KSl.h | exact Q_len_rows rfl KSl.h | exact Q_len_pairsN rfl KSl.h | exact Q_len_pairs rfl KSl.h | exact Q_len_ords rfl KSl.h | exact Q_len_nil' rfl KSl.h | exact Q_len_ownp rfl rfl KSl.h | exact Q_extract rfl (by conv => lhs; whnf) | exact Q_extract_v rfl (by conv => lhs; whnf))); (focus exact rfl)) | (refine a_cond rfl ?_ ?_ <;> (intro h; (try (have hp := of_decide_eq_true h)); (try (have hp := of_decide_eq_false h)); (try contradiction); (try (exfalso; omega)))) | refine w_box rfl rfl (by first|(dsimp only[obA,obB,obD,obE,obF,obG,obI,List.map,AO.sh,AV.sh,AV.shl,Nat.reduceAdd];done)|exact rfl) (by first|(dsimp only[obA,obB,obD,obE,obF,obG,obI,List.map,AO.sh,AV.sh,AV.shl,Nat.reduceAdd];done)|exact rfl) rfl ?_ | refine w_box1 (by conv => lhs; whnf) rfl rfl (by first|(dsimp only[obA,obB,obD,obE,obF,obG,obI,List.map,AO.sh,AV.sh,AV.shl,Nat.reduceAdd];done)|exact rfl) (by first|(dsimp only[obA,obB,obD,obE,obF,obG,obI,List.map,AO.sh,AV.sh,AV.shl,Nat.reduceAdd];done)|exact rfl) rfl ?_ | ((refine w_callV (.inl ⟨rfl, rfl⟩) (k1) ?_ (by first | (dsimp only [AV.sh, AV.shl, sh_ints, sh_rows, sh_pairs, sh_ords]; done) | exact rfl) rfl ?_; rotate_left 0; (focus ((repeat' (first | exact trivial | exact Vs.val _ | exact Vs.ro _ | exact Vs.rpt _ _ | exact Vs.valro _ | exact Vs.nilro _ | exact Vs.any _ | refine Vs.agg' ?_ | refine Vs.tup' ?_ | refine Vs.clo' ?_ | refine ⟨?_, ?_⟩)); done)); rotate_left 1; all_goals (try (skip)))) | ((refine w_callV (.inl ⟨rfl, rfl⟩) (k2) ?_ (by first | (dsimp only [AV.sh, AV.shl, sh_ints, sh_rows, sh_pairs, sh_ords]; done) | exact rfl) rfl ?_; rotate_left 0; (focus ((repeat' (first | exact trivial | exact Vs.val _ | exact Vs.ro _ | exact Vs.rpt _ _ | exact Vs.valro _ | exact Vs.nilro _ | exact Vs.any _ | refine Vs.agg' ?_ | refine Vs.tup' ?_ | refine Vs.clo' ?_ | refine ⟨?_, ?_⟩)); done)); rotate_left 1; all_goals (try (skip)))) | ((refine w_callV (.inl ⟨rfl, rfl⟩) (k3) ?_ (by first | (dsimp only [AV.sh, AV.shl, sh_ints, sh_rows, sh_pairs, sh_ords]; done) | exact rfl) rfl ?_; rotate_left 0; (focus ((repeat' (first | exact trivial | exact Vs.val _ | exact Vs.ro _ | exact Vs.rpt _ _ | exact Vs.valro _ | exact Vs.nilro _ | exact Vs.any _ | refine Vs.agg' ?_ | refine Vs.tup' ?_ | refine Vs.clo' ?_ | refine ⟨?_, ?_⟩)); done)); rotate_left 1; all_goals (try (skip)))))); (try all_goals (try show retA _ _ _ _ _ _ _))
  refine w_loop (X := Nat) [2, 10, 41, 42] (by simp only [keepv, getv_cons, Nat.reduceEqDiff, ↓reduceIte]; exact rfl) (fun k => [(43, .val (.int .i64 (k : Int)))]) (fun _ => [.box [.val (.int .i64 n), ints (nl ns)], .box [.val (.int .i64 m), ints (nl ms)]]) (fun k => k ≤ T.length ∧ ∀ j, j < k → preN n F (T.getD j 0) ∈ O) (fun k => T.length - k) (0) ([0, 1]) ?_ ?_ rfl ?_ <;> (try dsimp only [List.cons_append, List.nil_append])
  · exact ⟨Nat.zero_le _, fun j hj => by omega⟩
  · (refine St.le_mk rfl (VwOs.mk (by decide) ?_) ?_ <;> (repeat' (first | exact trivial | exact vwR rfl | exact Vw.val _ | exact Vw.ro _ | exact Vw.any _ | exact Vw.own _ _ rfl | exact Vw.ptr _ _ _ rfl | exact Vw.rpt _ _ | exact Vw.valro _ | exact Vw.nilro _ | exact Vw.rowro _ _ _ _ rfl (by decide) | (refine Vw.int' ?_; first | rfl | omega | (simp; done)) | (refine Vw.bool' ?_; first | rfl | (simp; done)) | refine Vw.agg' ?_ | refine Vw.tup' ?_ | refine Vw.clo' ?_ | exact VwO.row _ _ _ | refine VwO.box' ?_ | exact VwO.gone _ | exact VwO.mp _ | refine ⟨⟨_, rfl, ?_⟩, ?_⟩ | refine ⟨?_, ?_⟩ )))
  rintro k ⟨hk, hj⟩
  by_cases hkT : k < T.length
  · have ht := htm k hkT
    have hR := fun h => hall.1 h k hkT
    obtain ⟨t, hte⟩ : ∃ t, T.getD k 0 = t := ⟨_, rfl⟩
    rw [hte] at ht hR
    have hbs : ∀ i, bs (fun p => t.testBit (F.getD p 0)) (i + 1) = if t.testBit (F.getD i 0) = true then bs (fun p => t.testBit (F.getD p 0)) i + 2 ^ i else bs (fun p => t.testBit (F.getD p 0)) i := fun i => rfl
    have hbo : ∀ i, bs (fun p => t.testBit (F.getD p 0)) i ||| 2 ^ i = bs (fun p => t.testBit (F.getD p 0)) i + 2 ^ i := fun i => bs_or _ i
    have hbl := fun i => bs_lt (fun p => t.testBit (F.getD p 0)) i
    have hb0 : bs (fun p => t.testBit (F.getD p 0)) 0 = 0 := rfl
    have hbn : bs (fun p => t.testBit (F.getD p 0)) n = preN n F t := rfl
    have hodd := fun i => bit_odd t i
    generalize hB : bs (fun p => t.testBit (F.getD p 0)) = B at *
    
    (repeat' (first | ((first | apply w_q | apply w_qq); (focus exact Q_ld_natsE2 hte rfl (by omega) KSc.h); (focus exact rfl)) | (first | refine a_seq ?_ | refine a_block ?_ | refine a_skip ?_ | refine a_ret ?_ | refine a_exit ?_ | refine a_region ?_ | refine l_nil ?_ | (apply w_q; (focus (first | exact Q_move (by conv => lhs; whnf) | exact Q_assign (by conv => lhs; whnf) | exact Q_load_ptr rfl rfl rfl KSc.h | exact Q_load_all rfl rfl KAg.h | exact Q_lss rfl rfl | exact Q_ix_nats rfl rfl rfl KSl.h (by omega) | exact Q_ix_ints rfl rfl rfl KSl.h (by omega) | exact Q_ix_ownN rfl rfl rfl rfl KSl.h (by omega) | exact Q_ix_own rfl rfl rfl rfl KSl.h (by omega) | exact Q_ix_rows rfl rfl rfl KSl.h (by omega) | exact Q_ix_pairsN rfl rfl rfl KSl.h (by omega) | exact Q_ix_pairs rfl rfl rfl KSl.h (by omega) | exact Q_ix_ords rfl rfl rfl KSl.h (by omega) | exact Q_ix_ownb rfl rfl rfl rfl KSl.h (by omega) | exact Q_ix_arr rfl rfl rfl KAr.h (by first | decide | omega) | exact Q_ix_arp rfl rfl rfl KAr.h (by first | decide | omega) | exact Q_ld_rpa rfl KAg.h rfl rfl (by first | (dsimp only [List.drop_zero, List.drop_succ_cons, List.take_succ_cons, List.take_zero, List.map, ofD]; done) | exact rfl) | exact Q_ld_rv rfl rfl KSc.h | exact Q_ld_rs rfl rfl KSc.h | exact Q_ld_nats rfl (by omega) KSc.h | exact Q_ld_ints rfl (by omega) KSc.h | exact Q_ld_ownN rfl rfl (by omega) KSc.h | exact Q_ld_own rfl rfl (by omega) KSc.h | exact Q_ld_rows rfl (by omega) KSc.h | exact Q_ld_pair1N rfl (by omega) KSc.h | exact Q_ld_pair2N rfl (by omega) KSc.h | exact Q_ld_pair1 rfl (by omega) KSc.h | exact Q_ld_pair2 rfl (by omega) KSc.h | exact Q_ld_pairN rfl (by omega) KAg.h | exact Q_ld_pair rfl (by omega) KAg.h | exact Q_ld_ord rfl (by omega) KAg.h | exact Q_ld_ownb rfl rfl (by omega) KSc.h | exact Q_len_nats rfl KSl.h | exact Q_len_ints rfl KSl.h | exact Q_len_ownN rfl rfl KSl.h | exact Q_len_own' rfl rfl KSl.h | exact Q_len_rows rfl KSl.h | exact Q_len_pairsN rfl KSl.h | exact Q_len_pairs rfl KSl.h | exact Q_len_ords rfl KSl.h | exact Q_len_nil' rfl KSl.h | exact Q_len_ownp rfl rfl KSl.h)); (focus exact rfl)) | (refine a_cond rfl ?_ ?_ <;> (intro h; (try (have hp := of_decide_eq_true h)); (try (have hp := of_decide_eq_false h)); (try contradiction); (try (exfalso; omega))))))); (try all_goals (try show retA _ _ _ _ _ _ _))
    refine w_loop (X := Nat) [2, 10, 15, 41, 42, 43, 47, 48] (by simp only [keepv, getv_cons, Nat.reduceEqDiff, ↓reduceIte]; exact rfl) (fun i => [(16, .val (.int .i64 (B i : Nat))), (49, .val (.int .i64 (i : Int)))]) (fun _ => [.box [.val (.int .i64 n), ints (nl ns)], .box [.val (.int .i64 m), ints (nl ms)]]) (fun i => i ≤ n) (fun i => n - i) (0) ([0, 1]) ?_ ?_ rfl ?_ <;> (try dsimp only [List.cons_append, List.nil_append])
    · exact Nat.zero_le _
    · rw [hb0]
      (refine St.le_mk rfl (VwOs.mk (by decide) ?_) ?_ <;> (repeat' (first | exact trivial | exact vwR rfl | exact Vw.val _ | exact Vw.ro _ | exact Vw.any _ | exact Vw.own _ _ rfl | exact Vw.ptr _ _ _ rfl | exact Vw.rpt _ _ | exact Vw.valro _ | exact Vw.nilro _ | exact Vw.rowro _ _ _ _ rfl (by decide) | (refine Vw.int' ?_; first | rfl | omega | (simp; done)) | (refine Vw.bool' ?_; first | rfl | (simp; done)) | refine Vw.agg' ?_ | refine Vw.tup' ?_ | refine Vw.clo' ?_ | exact VwO.row _ _ _ | refine VwO.box' ?_ | exact VwO.gone _ | exact VwO.mp _ | refine ⟨⟨_, rfl, ?_⟩, ?_⟩ | refine ⟨?_, ?_⟩ )))
    rintro i hi
    have e1 := hbs i
    have e2 := hbl i
    have e3 : i ≤ 10 → 2 ^ i ≤ 1024 := p2_10
    by_cases hin : i < n
    · have e4 := e3 (by omega)
      have e5 := hff i hin
      have e6 := hodd (F.getD i 0)
      have e7 := hbo i
      by_cases hq : t.testBit (F.getD i 0) = true
      · rw [if_pos hq, ← e7] at e1
        have e8 := e6.2 hq
        
        (repeat' (first | refine a_seq ?_ | refine a_block ?_ | refine a_skip ?_ | refine a_ret ?_ | refine a_exit ?_ | refine a_region ?_ | refine l_nil ?_ | (apply w_q; (focus (first | exact Q_move (by conv => lhs; whnf) | exact Q_assign (by conv => lhs; whnf) | exact Q_load_ptr rfl rfl rfl KSc.h | exact Q_load_all rfl rfl KAg.h | exact Q_lss rfl rfl | exact Q_eql rfl rfl | exact Q_eqlB rfl rfl KBo.h | exact Q_add rfl rfl (by omega) | exact Q_shrN rfl rfl (by omega) | exact Q_and1 rfl rfl | exact Q_bit rfl rfl (by omega) | exact Q_ix_nats rfl rfl rfl KSl.h (by omega) | exact Q_ix_ints rfl rfl rfl KSl.h (by omega) | exact Q_ix_ownN rfl rfl rfl rfl KSl.h (by omega) | exact Q_ix_own rfl rfl rfl rfl KSl.h (by omega) | exact Q_ix_rows rfl rfl rfl KSl.h (by omega) | exact Q_ix_pairsN rfl rfl rfl KSl.h (by omega) | exact Q_ix_pairs rfl rfl rfl KSl.h (by omega) | exact Q_ix_ords rfl rfl rfl KSl.h (by omega) | exact Q_ix_ownb rfl rfl rfl rfl KSl.h (by omega) | exact Q_ix_arr rfl rfl rfl KAr.h (by first | decide | omega) | exact Q_ix_arp rfl rfl rfl KAr.h (by first | decide | omega) | exact Q_ld_rpa rfl KAg.h rfl rfl (by first | (dsimp only [List.drop_zero, List.drop_succ_cons, List.take_succ_cons, List.take_zero, List.map, ofD]; done) | exact rfl) | exact Q_ld_rv rfl rfl KSc.h | exact Q_ld_rs rfl rfl KSc.h | exact Q_ld_nats rfl (by omega) KSc.h | exact Q_ld_ints rfl (by omega) KSc.h | exact Q_ld_ownN rfl rfl (by omega) KSc.h | exact Q_ld_own rfl rfl (by omega) KSc.h | exact Q_ld_rows rfl (by omega) KSc.h | exact Q_ld_pair1N rfl (by omega) KSc.h | exact Q_ld_pair2N rfl (by omega) KSc.h | exact Q_ld_pair1 rfl (by omega) KSc.h | exact Q_ld_pair2 rfl (by omega) KSc.h | exact Q_ld_pairN rfl (by omega) KAg.h | exact Q_ld_pair rfl (by omega) KAg.h | exact Q_eqlP rfl rfl inferInstance | exact Q_ld_ord rfl (by omega) KAg.h | exact Q_ld_ownb rfl rfl (by omega) KSc.h)); (focus exact rfl)) | (refine a_cond rfl ?_ ?_ <;> (intro h; (try (have hp := of_decide_eq_true h)); (try (have hp := of_decide_eq_false h)); (try contradiction); (try (exfalso; omega)))) | (((first | apply w_q | apply w_qq); (focus exact Q_orN rfl rfl (by omega) (by omega)); (focus exact rfl))))); (try all_goals (try show retA _ _ _ _ _ _ _))
        all_goals first
          | (exfalso; omega)
          | skip
        refine ⟨i + 1, [0, 1], ?_, ?_, ?_, rfl⟩ <;> (try dsimp only)
        · omega
        · omega
        · rw [e1]
          (refine St.le_mk rfl (VwOs.mk (by decide) ?_) ?_ <;> (repeat' (first | exact trivial | exact vwR rfl | exact Vw.val _ | exact Vw.ro _ | exact Vw.any _ | exact Vw.own _ _ rfl | exact Vw.ptr _ _ _ rfl | exact Vw.rpt _ _ | exact Vw.valro _ | exact Vw.nilro _ | exact Vw.rowro _ _ _ _ rfl (by decide) | (refine Vw.int' ?_; first | rfl | omega | (simp; done)) | (refine Vw.bool' ?_; first | rfl | (simp; done)) | refine Vw.agg' ?_ | refine Vw.tup' ?_ | refine Vw.clo' ?_ | exact VwO.row _ _ _ | refine VwO.box' ?_ | exact VwO.gone _ | exact VwO.mp _ | refine ⟨⟨_, rfl, ?_⟩, ?_⟩ | refine ⟨?_, ?_⟩ )))
      · rw [if_neg hq] at e1
        have e8 : ¬ t / 2 ^ F.getD i 0 % 2 = 1 := fun e => hq (e6.1 e)
        
        (repeat' (first | refine a_seq ?_ | refine a_block ?_ | refine a_skip ?_ | refine a_ret ?_ | refine a_exit ?_ | refine a_region ?_ | refine l_nil ?_ | (apply w_q; (focus (first | exact Q_move (by conv => lhs; whnf) | exact Q_assign (by conv => lhs; whnf) | exact Q_load_ptr rfl rfl rfl KSc.h | exact Q_load_all rfl rfl KAg.h | exact Q_lss rfl rfl | exact Q_eql rfl rfl | exact Q_eqlB rfl rfl KBo.h | exact Q_add rfl rfl (by omega) | exact Q_shrN rfl rfl (by omega) | exact Q_and1 rfl rfl | exact Q_ix_nats rfl rfl rfl KSl.h (by omega) | exact Q_ix_ints rfl rfl rfl KSl.h (by omega) | exact Q_ix_ownN rfl rfl rfl rfl KSl.h (by omega) | exact Q_ix_own rfl rfl rfl rfl KSl.h (by omega) | exact Q_ix_rows rfl rfl rfl KSl.h (by omega) | exact Q_ix_pairsN rfl rfl rfl KSl.h (by omega) | exact Q_ix_pairs rfl rfl rfl KSl.h (by omega) | exact Q_ix_ords rfl rfl rfl KSl.h (by omega) | exact Q_ix_ownb rfl rfl rfl rfl KSl.h (by omega) | exact Q_ix_arr rfl rfl rfl KAr.h (by first | decide | omega) | exact Q_ix_arp rfl rfl rfl KAr.h (by first | decide | omega) | exact Q_ld_rpa rfl KAg.h rfl rfl (by first | (dsimp only [List.drop_zero, List.drop_succ_cons, List.take_succ_cons, List.take_zero, List.map, ofD]; done) | exact rfl) | exact Q_ld_rv rfl rfl KSc.h | exact Q_ld_rs rfl rfl KSc.h | exact Q_ld_nats rfl (by omega) KSc.h | exact Q_ld_ints rfl (by omega) KSc.h | exact Q_ld_ownN rfl rfl (by omega) KSc.h | exact Q_ld_own rfl rfl (by omega) KSc.h | exact Q_ld_rows rfl (by omega) KSc.h | exact Q_ld_pair1N rfl (by omega) KSc.h | exact Q_ld_pair2N rfl (by omega) KSc.h | exact Q_ld_pair1 rfl (by omega) KSc.h | exact Q_ld_pair2 rfl (by omega) KSc.h | exact Q_ld_pairN rfl (by omega) KAg.h | exact Q_ld_pair rfl (by omega) KAg.h | exact Q_eqlP rfl rfl inferInstance | exact Q_ld_ord rfl (by omega) KAg.h | exact Q_ld_ownb rfl rfl (by omega) KSc.h)); (focus exact rfl)) | (refine a_cond rfl ?_ ?_ <;> (intro h; (try (have hp := of_decide_eq_true h)); (try (have hp := of_decide_eq_false h)); (try contradiction); (try (exfalso; omega)))))); (try all_goals (try show retA _ _ _ _ _ _ _))
        all_goals first
          | (exfalso; omega)
          | skip
        refine ⟨i + 1, [0, 1], ?_, ?_, ?_, rfl⟩ <;> (try dsimp only)
        · omega
        · omega
        · rw [e1]
          (refine St.le_mk rfl (VwOs.mk (by decide) ?_) ?_ <;> (repeat' (first | exact trivial | exact vwR rfl | exact Vw.val _ | exact Vw.ro _ | exact Vw.any _ | exact Vw.own _ _ rfl | exact Vw.ptr _ _ _ rfl | exact Vw.rpt _ _ | exact Vw.valro _ | exact Vw.nilro _ | exact Vw.rowro _ _ _ _ rfl (by decide) | (refine Vw.int' ?_; first | rfl | omega | (simp; done)) | (refine Vw.bool' ?_; first | rfl | (simp; done)) | refine Vw.agg' ?_ | refine Vw.tup' ?_ | refine Vw.clo' ?_ | exact VwO.row _ _ _ | refine VwO.box' ?_ | exact VwO.gone _ | exact VwO.mp _ | refine ⟨⟨_, rfl, ?_⟩, ?_⟩ | refine ⟨?_, ?_⟩ )))
    · obtain rfl : i = n := by omega
      rw [hbn]
      have kB := kS (preN i F t)
      by_cases hq : preN i F t ∈ O
      · rw [decide_eq_true hq] at kB
        
        (repeat' (first | refine a_seq ?_ | refine a_block ?_ | refine a_skip ?_ | refine a_ret ?_ | refine a_exit ?_ | refine a_region ?_ | refine l_nil ?_ | (apply w_q; (focus (first | exact Q_move (by conv => lhs; whnf) | exact Q_assign (by conv => lhs; whnf) | exact Q_lss rfl rfl | exact Q_add rfl rfl (by omega) | exact Q_extract rfl (by conv => lhs; whnf) | exact Q_extract_v rfl (by conv => lhs; whnf) | exact Q_not rfl)); (focus exact rfl)) | (refine a_cond rfl ?_ ?_ <;> (intro h; (try (have hp := of_decide_eq_true h)); (try (have hp := of_decide_eq_false h)); (try contradiction); (try (exfalso; omega)))) | ((refine w_callV (.inl ⟨rfl, rfl⟩) (kB) ?_ (by first | (dsimp only [AV.sh, AV.shl, sh_ints, sh_rows, sh_pairs, sh_ords]; done) | exact rfl) rfl ?_; rotate_left 0; (focus ((repeat' (first | exact trivial | exact Vs.val _ | exact Vs.ro _ | exact Vs.rpt _ _ | exact Vs.valro _ | exact Vs.nilro _ | exact Vs.any _ | refine Vs.agg' ?_ | refine Vs.tup' ?_ | refine Vs.clo' ?_ | refine ⟨?_, ?_⟩)); done)); rotate_left 1; all_goals (try (skip)))))); (try all_goals (try show retA _ _ _ _ _ _ _))
        refine ⟨k + 1, [0, 1], ?_, ?_, ?_, rfl⟩ <;> (try dsimp only)
        · refine ⟨by omega, fun j hj2 => ?_⟩
          by_cases e : j = k
          · subst e; rw [hte]; exact hq
          · exact hj j (by omega)
        · omega
        · (refine St.le_mk rfl (VwOs.mk (by decide) ?_) ?_ <;> (repeat' (first | exact trivial | exact vwR rfl | exact Vw.val _ | exact Vw.ro _ | exact Vw.any _ | exact Vw.own _ _ rfl | exact Vw.ptr _ _ _ rfl | exact Vw.rpt _ _ | exact Vw.valro _ | exact Vw.nilro _ | exact Vw.rowro _ _ _ _ rfl (by decide) | (refine Vw.int' ?_; first | rfl | omega | (simp; done)) | (refine Vw.bool' ?_; first | rfl | (simp; done)) | refine Vw.agg' ?_ | refine Vw.tup' ?_ | refine Vw.clo' ?_ | exact VwO.row _ _ _ | refine VwO.box' ?_ | exact VwO.gone _ | exact VwO.mp _ | refine ⟨⟨_, rfl, ?_⟩, ?_⟩ | refine ⟨?_, ?_⟩ )))
      · rw [decide_eq_false hq] at kB
        have hRf : R = false := by
          cases R
          · rfl
          · exact (hq (hR rfl)).elim
        rw [hRf]
        
        (repeat' (first | refine a_seq ?_ | refine a_block ?_ | refine a_skip ?_ | refine a_ret ?_ | refine a_exit ?_ | refine a_region ?_ | refine l_nil ?_ | (apply w_q; (focus (first | exact Q_move (by conv => lhs; whnf) | exact Q_assign (by conv => lhs; whnf) | exact Q_lss rfl rfl | exact Q_extract rfl (by conv => lhs; whnf) | exact Q_extract_v rfl (by conv => lhs; whnf) | exact Q_not rfl)); (focus exact rfl)) | (refine a_cond rfl ?_ ?_ <;> (intro h; (try (have hp := of_decide_eq_true h)); (try (have hp := of_decide_eq_false h)); (try contradiction); (try (exfalso; omega)))) | ((refine w_callV (.inl ⟨rfl, rfl⟩) (kB) ?_ (by first | (dsimp only [AV.sh, AV.shl, sh_ints, sh_rows, sh_pairs, sh_ords]; done) | exact rfl) rfl ?_; rotate_left 0; (focus ((repeat' (first | exact trivial | exact Vs.val _ | exact Vs.ro _ | exact Vs.rpt _ _ | exact Vs.valro _ | exact Vs.nilro _ | exact Vs.any _ | refine Vs.agg' ?_ | refine Vs.tup' ?_ | refine Vs.clo' ?_ | refine ⟨?_, ?_⟩)); done)); rotate_left 1; all_goals (try (skip)))))); (try all_goals (try show retA _ _ _ _ _ _ _))
        refine ⟨[_, _], [], ⟨resV_tmp (by conv => lhs; whnf), resV_tmp (by conv => lhs; whnf), trivial⟩, VwOs.mk (by decide) trivial, ?_, rfl⟩
        (repeat' (first | exact trivial | exact vwR rfl | exact vwRL rfl | exact Vw.val _ | exact Vw.ro _ | exact Vw.any _ | exact Vw.valro _ | exact Vw.own _ _ rfl | exact Vw.ptr _ _ _ rfl | exact Vw.rpt _ _ | exact Vw.nilro _ | exact Vw.rowro _ _ _ _ rfl (by decide) | exact Vw.rowro2 rfl (by decide) (by with_unfolding_all exact rfl) | refine Vw.agg' ?_ | refine Vw.tup' ?_ | refine Vw.clo' ?_ | refine Vw.boxrpt' rfl (by decide) ?_ | exact Nat.le_of_ble_eq_true rfl | refine ⟨?_, ?_⟩ ))
  · have hRt := hall.2 fun j h => hj j (by omega)
    rw [hRt]
    
    (repeat' (first | refine a_seq ?_ | refine a_block ?_ | refine a_skip ?_ | refine a_ret ?_ | refine a_exit ?_ | refine a_region ?_ | refine l_nil ?_ | (apply w_q; (focus (first | exact Q_assign (by conv => lhs; whnf) | exact Q_lss rfl rfl)); (focus exact rfl)) | (refine a_cond rfl ?_ ?_ <;> (intro h; (try (have hp := of_decide_eq_true h)); (try (have hp := of_decide_eq_false h)); (try contradiction); (try (exfalso; omega)))))); (try all_goals (try show retA _ _ _ _ _ _ _))
    refine ⟨[_, _], [], ⟨resV_tmp (by conv => lhs; whnf), resV_tmp (by conv => lhs; whnf), trivial⟩, VwOs.mk (by decide) trivial, ?_, rfl⟩
    (repeat' (first | exact trivial | exact vwR rfl | exact vwRL rfl | exact Vw.val _ | exact Vw.ro _ | exact Vw.any _ | exact Vw.valro _ | exact Vw.own _ _ rfl | exact Vw.ptr _ _ _ rfl | exact Vw.rpt _ _ | exact Vw.nilro _ | exact Vw.rowro _ _ _ _ rfl (by decide) | exact Vw.rowro2 rfl (by decide) (by with_unfolding_all exact rfl) | refine Vw.agg' ?_ | refine Vw.tup' ?_ | refine Vw.clo' ?_ | refine Vw.boxrpt' rfl (by decide) ?_ | exact Nat.le_of_ble_eq_true rfl | refine ⟨?_, ?_⟩ ))
end Go.Proofs.YtajpfjmmhcbjkaaDoor
