/- Are chains right: each point in just one, and none empty; what must be in any case. -/
import Derived.Test.YtdieojemgkfklaaDoorQh
import Derived.Test.YtdieojemgkfklaaDoorFr
set_option linter.unusedSimpArgs false
set_option linter.unusedVariables false
set_option maxRecDepth 20000
namespace Go.Proofs.YtdieojemgkfklaaDoor
attribute [local irreducible] QOp aL aC qL
structure Ptd (n : Nat) (ns : List Nat) (R : List (List Nat)) : Prop where
  rl : R.length ≤ 10
  ll : ∀ i, (R.getD i []).length ≤ 11
  lt : ∀ i, i < R.length → ∀ k, k < (R.getD i []).length → (R.getD i []).getD k 0 < n
  one : ∀ i k i' k', i < R.length → k < (R.getD i []).length → i' < R.length → k' < (R.getD i' []).length → (R.getD i []).getD k 0 = (R.getD i' []).getD k' 0 → i = i' ∧ k = k'
  up : ∀ i k k', i < R.length → k < k' → k' < (R.getD i []).length → _root_.Go.Proofs.YtdieojemgkfklaaDoor.lt ns ((R.getD i []).getD k 0) ((R.getD i []).getD k' 0) = true
  ne : ∀ i, i < R.length → 0 < (R.getD i []).length
  all : ∀ x, x < n → ∃ i k, i < R.length ∧ k < (R.getD i []).length ∧ (R.getD i []).getD k 0 = x
theorem add_bitQ {s p : Nat} (h : s.testBit p = false) : s + 2 ^ p = s ||| 2 ^ p := by
  have hz : s &&& 2 ^ p = 0 := Nat.eq_of_testBit_eq fun i => by
    rw [Nat.testBit_and, Nat.testBit_two_pow, Nat.zero_testBit]
    by_cases e : p = i
    · subst e; rw [h]; rfl
    · rw [decide_eq_false e, Bool.and_false]
  have := or_add_and (s + 1) s (2 ^ p) (Nat.lt_trans (Nat.lt_succ_self s) Nat.lt_two_pow_self)
  rw [hz, Nat.add_zero] at this
  exact this
theorem add_pc {s p n : Nat} (h : s.testBit p = false) (hp : p < n) : pcTo (s + 2 ^ p) n = pcTo s n + 1 := by
  rw [add_bitQ h, pc_cn, pc_cn, cn_erase (q := fun i => (s ||| 2 ^ p).testBit i) (y := p) (by rw [Nat.testBit_or, Nat.testBit_two_pow, decide_eq_true rfl, Bool.or_true]) n hp]
  congr 1
  refine cn_congr n fun i _ => ?_
  rw [Nat.testBit_or, Nat.testBit_two_pow]
  by_cases e : i = p
  · subst e; rw [h, decide_eq_true rfl]; rfl
  · rw [decide_eq_false e, decide_eq_false (Ne.symm e), Bool.or_false, Bool.not_false, Bool.and_true]
theorem add_lt {s p n : Nat} (h : s.testBit p = false) (hs : s < 2 ^ n) (hp : p < n) : s + 2 ^ p < 2 ^ n := by
  rw [add_bitQ h]; exact Nat.or_lt_two_pow hs (Nat.pow_lt_pow_right (by decide) hp)
theorem add_tb {s p x : Nat} (h : s.testBit p = false) : (s + 2 ^ p).testBit x = true ↔ s.testBit x = true ∨ x = p := by
  rw [add_bitQ h, Nat.testBit_or, Nat.testBit_two_pow, Bool.or_eq_true, decide_eq_true_eq, eq_comm (a := p)]
theorem pc_full {s n : Nat} (h : ∀ x, x < n → s.testBit x = true) : pcTo s n = n := by
  rw [pc_cn]
  have h1 := cn_not (fun i => s.testBit i) n
  have h2 : cn (fun i => !s.testBit i) n = cn (fun _ => false) n := cn_congr n fun i hi => by rw [h i hi]; rfl
  have h3 : ∀ k, cn (fun _ => false) k = 0 := by
    intro k
    induction k with
    | zero => rfl
    | succ k ih => rw [cn_s, ih]; rfl
  rw [h2, h3] at h1
  omega
set_option maxHeartbeats 4000000 in
theorem parted_ac (n : Nat) (ns : List Nat) (R : List (List Nat)) (hn : n ≤ 10) (hv : Vld n ns) (hP : Ptd n ns R) : AC Tryd.prog 43 [ordv n (nl ns), rows (tn R)] [] (.val (.bool true)) [] := by
  have hpn := p2_10 hn
  have hpp : 0 < 2 ^ n := Nat.pow_pos (by decide)
  have hrl := hP.rl
  have htl := tn_len R
  have htg := tn_get R
  generalize tn R = m at *
  refine AC.mk (n := 68) (fn := Tryd.f43) Tryd.func43 (by kernel_rfl) rfl rfl rfl rfl (fun cx => ?_); dsimp only [argv, Nat.reduceAdd]
  
  (repeat' (first | refine a_seq ?_ | refine a_block ?_ | refine a_skip ?_ | refine a_ret ?_ | refine a_exit ?_ | refine a_region ?_ | refine l_nil ?_ | (apply w_q; (focus (first | exact Q_assign (by conv => lhs; whnf))); (focus exact rfl)) | (refine a_cond rfl ?_ ?_ <;> (intro h; (try (have hp := of_decide_eq_true h)); (try (have hp := of_decide_eq_false h)); (try contradiction); (try (exfalso; omega)))) | refine w_box rfl rfl (by first|(dsimp only[obA,obB,obD,obE,obF,obG,obI,List.map,AO.sh,AV.sh,AV.shl,Nat.reduceAdd];done)|exact rfl) (by first|(dsimp only[obA,obB,obD,obE,obF,obG,obI,List.map,AO.sh,AV.sh,AV.shl,Nat.reduceAdd];done)|exact rfl) rfl ?_ | refine w_box1 (by conv => lhs; whnf) rfl rfl (by first|(dsimp only[obA,obB,obD,obE,obF,obG,obI,List.map,AO.sh,AV.sh,AV.shl,Nat.reduceAdd];done)|exact rfl) (by first|(dsimp only[obA,obB,obD,obE,obF,obG,obI,List.map,AO.sh,AV.sh,AV.shl,Nat.reduceAdd];done)|exact rfl) rfl ?_)); (try all_goals (try show retA _ _ _ _ _ _ _))
  refine w_loop (X := Nat × Nat × Nat) [1, 2] (by simp only [keepv, getv_cons, Nat.reduceEqDiff, ↓reduceIte]; exact rfl) (fun x => [(5, .val (.int .i64 (x.2.1 : Nat))), (6, .val (.int .i64 (x.2.2 : Nat))), (7, .val (.int .i64 (x.1 : Nat)))]) (fun _ => [.box [.val (.int .i64 n), ints (nl ns)]]) (fun x => x.1 ≤ R.length ∧ x.2.1 < 2 ^ n ∧ x.2.2 = pcTo x.2.1 n ∧ ∀ y, x.2.1.testBit y = true ↔ ∃ i k, i < x.1 ∧ k < (R.getD i []).length ∧ (R.getD i []).getD k 0 = y) (fun x => R.length - x.1) ((0, 0, 0)) ([0]) ?_ ?_ rfl ?_ <;> (try dsimp only [List.cons_append, List.nil_append])
  · refine ⟨Nat.zero_le _, hpp, ?_, fun y => ?_⟩
    · have h1 := pc_cn 0 n
      rw [show cn (fun i => (0 : Nat).testBit i) n = cn (fun _ => false) n from cn_congr n fun i _ => Nat.zero_testBit i] at h1
      have h3 : ∀ k, cn (fun _ => false) k = 0 := by
        intro k
        induction k with
        | zero => rfl
        | succ k ih => rw [cn_s, ih]; rfl
      show 0 = pcTo 0 n
      rw [h1, h3]
    · show (0 : Nat).testBit y = true ↔ _
      rw [Nat.zero_testBit]
      exact ⟨fun h => Bool.noConfusion h, fun ⟨i, k, h, _⟩ => absurd h (Nat.not_lt_zero i)⟩
  · (refine St.le_mk rfl (VwOs.mk (by decide) ?_) ?_ <;> (repeat' (first | exact trivial | exact vwR rfl | exact Vw.val _ | exact Vw.ro _ | exact Vw.any _ | exact Vw.own _ _ rfl | exact Vw.ptr _ _ _ rfl | exact Vw.rpt _ _ | exact Vw.valro _ | exact Vw.nilro _ | exact Vw.rowro _ _ _ _ rfl (by decide) | (refine Vw.int' ?_; first | rfl | omega | (simp; done)) | (refine Vw.bool' ?_; first | rfl | (simp; done)) | refine Vw.agg' ?_ | refine Vw.tup' ?_ | refine Vw.clo' ?_ | exact VwO.row _ _ _ | refine VwO.box' ?_ | exact VwO.gone _ | exact VwO.mat _ _ _ | refine ⟨⟨_, rfl, ?_⟩, ?_⟩ | refine ⟨?_, ?_⟩ )))
  rintro ⟨i, seen, cnt⟩ ⟨hi, hs, hc, hb⟩
  dsimp only at hi hs hc hb ⊢
  by_cases hiR : i < R.length
  case neg =>
    obtain rfl : i = R.length := by omega
    have hfull : pcTo seen n = n := pc_full fun x hx => (hb x).2 (hP.all x hx)
    rw [hfull] at hc
    subst hc
    
    (repeat' (first | refine a_seq ?_ | refine a_block ?_ | refine a_skip ?_ | refine a_ret ?_ | refine a_exit ?_ | refine a_region ?_ | refine l_nil ?_ | (apply w_q; (focus (first | exact Q_move (by conv => lhs; whnf) | exact Q_assign (by conv => lhs; whnf) | exact Q_fieldAddr_ptr rfl KFl.h | exact Q_fieldAddr_rpt rfl KFl.h | exact Q_load_ptr rfl rfl rfl KSc.h | exact Q_load_all rfl rfl KAg.h | exact Q_lss rfl rfl | exact Q_eql rfl rfl | exact Q_eqlB rfl rfl KBo.h | exact Q_ld_rpa rfl KAg.h rfl rfl (by first | (dsimp only [List.drop_zero, List.drop_succ_cons, List.take_succ_cons, List.take_zero, List.map, ofD]; done) | exact rfl) | exact Q_ld_rv rfl rfl KSc.h | exact Q_ld_rs rfl rfl KSc.h | exact Q_ld_nats rfl (by omega) KSc.h | exact Q_ld_ints rfl (by omega) KSc.h | exact Q_ld_ownN rfl rfl (by omega) KSc.h | exact Q_ld_own rfl rfl (by omega) KSc.h | exact Q_ld_rows rfl (by omega) KSc.h | exact Q_ld_pair1N rfl (by omega) KSc.h | exact Q_ld_pair2N rfl (by omega) KSc.h | exact Q_ld_pair1 rfl (by omega) KSc.h | exact Q_ld_pair2 rfl (by omega) KSc.h | exact Q_ld_pairN rfl (by omega) KAg.h | exact Q_ld_pair rfl (by omega) KAg.h | exact Q_eqlP rfl rfl inferInstance | exact Q_ld_ord rfl (by omega) KAg.h | exact Q_ld_ownb rfl rfl (by omega) KSc.h | exact Q_len_nats rfl KSl.h | exact Q_len_ints rfl KSl.h | exact Q_len_ownN rfl rfl KSl.h | exact Q_len_own' rfl rfl KSl.h | exact Q_len_rows rfl KSl.h | exact Q_len_pairsN rfl KSl.h | exact Q_len_pairs rfl KSl.h | exact Q_len_ords rfl KSl.h | exact Q_len_nil' rfl KSl.h | exact Q_len_ownp rfl rfl KSl.h)); (focus exact rfl)) | (refine a_cond rfl ?_ ?_ <;> (intro h; (try (have hp := of_decide_eq_true h)); (try (have hp := of_decide_eq_false h)); (try contradiction); (try (exfalso; omega)))))); (try all_goals (try show retA _ _ _ _ _ _ _))
    refine ⟨[_], [], ⟨resV_tmp (by conv => lhs; whnf), trivial⟩, VwOs.mk (by decide) trivial, ?_, rfl⟩
    exact Vw.bool' (by simp)
  have hrow := htg i
  have hll := hP.ll i
  have hne := hP.ne i hiR
  have hlt := hP.lt i hiR
  have hup := hP.up i
  have hon := fun k i' k' => hP.one i k i' k' hiR
  
  (repeat' (first | refine a_seq ?_ | refine a_block ?_ | refine a_skip ?_ | refine a_ret ?_ | refine a_exit ?_ | refine a_region ?_ | refine l_nil ?_ | (apply w_q; (focus (first | exact Q_move (by conv => lhs; whnf) | exact Q_assign (by conv => lhs; whnf) | exact Q_lss rfl rfl | exact Q_len_nats rfl KSl.h | exact Q_len_ints rfl KSl.h | exact Q_len_ownN rfl rfl KSl.h | exact Q_len_own' rfl rfl KSl.h | exact Q_len_rows rfl KSl.h | exact Q_len_pairsN rfl KSl.h | exact Q_len_pairs rfl KSl.h | exact Q_len_ords rfl KSl.h | exact Q_len_nil' rfl KSl.h | exact Q_len_ownp rfl rfl KSl.h)); (focus exact rfl)) | (refine a_cond rfl ?_ ?_ <;> (intro h; (try (have hp := of_decide_eq_true h)); (try (have hp := of_decide_eq_false h)); (try contradiction); (try (exfalso; omega)))))); (try all_goals (try show retA _ _ _ _ _ _ _))
  refine w_loop (X := Nat × Nat × Nat × Nat) [1, 2, 7] (by simp only [keepv, getv_cons, Nat.reduceEqDiff, ↓reduceIte]; exact rfl) (fun x => [(5, .val (.int .i64 (x.2.1 : Nat))), (6, .val (.int .i64 (x.2.2.1 : Nat))), (8, .val (.int .i64 (x.2.2.2 : Nat))), (9, .val (.int .i64 (x.1 : Nat)))]) (fun _ => [.box [.val (.int .i64 n), ints (nl ns)]]) (fun x => x.1 ≤ (R.getD i []).length ∧ x.2.1 < 2 ^ n ∧ x.2.2.1 = pcTo x.2.1 n ∧ (∀ y, x.2.1.testBit y = true ↔ (∃ i' k, i' < i ∧ k < (R.getD i' []).length ∧ (R.getD i' []).getD k 0 = y) ∨ ∃ k, k < x.1 ∧ (R.getD i []).getD k 0 = y) ∧ x.2.2.2 < 2 ^ n ∧ ∀ y, x.2.2.2.testBit y = true ↔ ∃ k, k < x.1 ∧ (R.getD i []).getD k 0 = y) (fun x => (R.getD i []).length - x.1) ((0, seen, cnt, 0)) ([0]) ?_ ?_ rfl ?_ <;> (try dsimp only [List.cons_append, List.nil_append])
  · refine ⟨Nat.zero_le _, hs, hc, fun y => ?_, hpp, fun y => ?_⟩
    · rw [hb]
      exact ⟨fun h => .inl h, fun h => h.elim id fun ⟨k, h, _⟩ => absurd h (Nat.not_lt_zero k)⟩
    · show (0 : Nat).testBit y = true ↔ _
      rw [Nat.zero_testBit]
      exact ⟨fun h => Bool.noConfusion h, fun ⟨k, h, _⟩ => absurd h (Nat.not_lt_zero k)⟩
  · (refine St.le_mk rfl (VwOs.mk (by decide) ?_) ?_ <;> (repeat' (first | exact trivial | exact vwR rfl | exact Vw.val _ | exact Vw.ro _ | exact Vw.any _ | exact Vw.own _ _ rfl | exact Vw.ptr _ _ _ rfl | exact Vw.rpt _ _ | exact Vw.valro _ | exact Vw.nilro _ | exact Vw.rowro _ _ _ _ rfl (by decide) | (refine Vw.int' ?_; first | rfl | omega | (simp; done)) | (refine Vw.bool' ?_; first | rfl | (simp; done)) | refine Vw.agg' ?_ | refine Vw.tup' ?_ | refine Vw.clo' ?_ | exact VwO.row _ _ _ | refine VwO.box' ?_ | exact VwO.gone _ | exact VwO.mat _ _ _ | refine ⟨⟨_, rfl, ?_⟩, ?_⟩ | refine ⟨?_, ?_⟩ )))
  clear hb hs hc
  rintro ⟨k, seen, cnt, set⟩ ⟨hk, hs, hc, hb, ht, hd⟩
  dsimp only at hk hs hc hb ht hd ⊢
  have hml : (m.getD i []).length = (R.getD i []).length := by rw [hrow, nl_len]
  by_cases hkl : k < (R.getD i []).length
  · have hmg : (m.getD i []).getD k 0 = (((R.getD i []).getD k 0 : Nat) : Int) := by rw [hrow, nl_get]
    have hp := hlt k hkl
    have hns : seen.testBit ((R.getD i []).getD k 0) = false := by
      cases hq : seen.testBit ((R.getD i []).getD k 0)
      · rfl
      · rcases (hb _).1 hq with ⟨i', k', h1, h2, h3⟩ | ⟨k', h1, h3⟩
        · have := hP.one i' k' i k (by omega) h2 hiR hkl h3
          omega
        · have := hP.one i k' i k hiR (by omega) hiR hkl h3
          omega
    have hnt : set.testBit ((R.getD i []).getD k 0) = false := by
      cases hq : set.testBit ((R.getD i []).getD k 0)
      · rfl
      · obtain ⟨k', h1, h3⟩ := (hd _).1 hq
        have := hP.one i k' i k hiR (by omega) hiR hkl h3
        omega
    have kI := In_ac seen ((R.getD i []).getD k 0) (by omega) (by omega)
    rw [hns] at kI
    have kB := Bit_ac ((R.getD i []).getD k 0) (by omega)
    have a1 := add_lt hns hs hp
    have a2 := add_lt hnt ht hp
    have a3 := add_pc hns hp
    have a4 := fun x => add_tb (x := x) hns
    have a5 := fun x => add_tb (x := x) hnt
    have hcn : cnt ≤ 10 := by rw [hc]; have := pcTo_le seen n; omega
    
    (repeat' (first | refine a_seq ?_ | refine a_block ?_ | refine a_skip ?_ | refine a_ret ?_ | refine a_exit ?_ | refine a_region ?_ | refine l_nil ?_ | (apply w_q; (focus (first | exact Q_move (by conv => lhs; whnf) | exact Q_assign (by conv => lhs; whnf) | exact Q_load_ptr rfl rfl rfl KSc.h | exact Q_load_all rfl rfl KAg.h | exact Q_lss rfl rfl | exact Q_ix_nats rfl rfl rfl KSl.h (by omega) | exact Q_ix_ints rfl rfl rfl KSl.h (by omega) | exact Q_ix_ownN rfl rfl rfl rfl KSl.h (by omega) | exact Q_ix_own rfl rfl rfl rfl KSl.h (by omega) | exact Q_ix_rows rfl rfl rfl KSl.h (by omega) | exact Q_ix_pairsN rfl rfl rfl KSl.h (by omega) | exact Q_ix_pairs rfl rfl rfl KSl.h (by omega) | exact Q_ix_ords rfl rfl rfl KSl.h (by omega) | exact Q_ix_ownb rfl rfl rfl rfl KSl.h (by omega) | exact Q_ix_arr rfl rfl rfl KAr.h (by first | decide | omega) | exact Q_ix_arp rfl rfl rfl KAr.h (by first | decide | omega) | exact Q_ld_rpa rfl KAg.h rfl rfl (by first | (dsimp only [List.drop_zero, List.drop_succ_cons, List.take_succ_cons, List.take_zero, List.map, ofD]; done) | exact rfl) | exact Q_ld_rv rfl rfl KSc.h | exact Q_ld_rs rfl rfl KSc.h | exact Q_ld_nats rfl (by omega) KSc.h | exact Q_ld_ints rfl (by omega) KSc.h | exact Q_ld_ownN rfl rfl (by omega) KSc.h | exact Q_ld_own rfl rfl (by omega) KSc.h | exact Q_ld_rows rfl (by omega) KSc.h | exact Q_ld_pair1N rfl (by omega) KSc.h | exact Q_ld_pair2N rfl (by omega) KSc.h | exact Q_ld_pair1 rfl (by omega) KSc.h | exact Q_ld_pair2 rfl (by omega) KSc.h | exact Q_ld_pairN rfl (by omega) KAg.h | exact Q_ld_pair rfl (by omega) KAg.h | exact Q_ld_ord rfl (by omega) KAg.h | exact Q_ld_ownb rfl rfl (by omega) KSc.h | exact Q_len_nats rfl KSl.h | exact Q_len_ints rfl KSl.h | exact Q_len_ownN rfl rfl KSl.h | exact Q_len_own' rfl rfl KSl.h | exact Q_len_rows rfl KSl.h | exact Q_len_pairsN rfl KSl.h | exact Q_len_pairs rfl KSl.h | exact Q_len_ords rfl KSl.h | exact Q_len_nil' rfl KSl.h | exact Q_len_ownp rfl rfl KSl.h)); (focus exact rfl)) | (refine a_cond rfl ?_ ?_ <;> (intro h; (try (have hp := of_decide_eq_true h)); (try (have hp := of_decide_eq_false h)); (try contradiction); (try (exfalso; omega)))))); (try all_goals (try show retA _ _ _ _ _ _ _))
    rw [hmg]
    have hback : ∀ y, (∃ k', k' < k + 1 ∧ (R.getD i []).getD k' 0 = y) ↔ (∃ k', k' < k ∧ (R.getD i []).getD k' 0 = y) ∨ y = (R.getD i []).getD k 0 := fun y => by
      constructor
      · rintro ⟨k', h1, h2⟩
        by_cases e : k' = k
        · subst e; exact .inr h2.symm
        · exact .inl ⟨k', by omega, h2⟩
      · rintro (⟨k', h1, h2⟩ | h)
        · exact ⟨k', by omega, h2⟩
        · exact ⟨k, by omega, h.symm⟩
    generalize (R.getD i []).getD k 0 = p at *
    generalize 2 ^ p = b at *
    
    (repeat' (first | refine a_seq ?_ | refine a_block ?_ | refine a_skip ?_ | refine a_ret ?_ | refine a_exit ?_ | refine a_region ?_ | refine l_nil ?_ | (apply w_q; (focus (first | exact Q_move (by conv => lhs; whnf) | exact Q_assign (by conv => lhs; whnf) | exact Q_fieldAddr_ptr rfl KFl.h | exact Q_fieldAddr_rpt rfl KFl.h | exact Q_load_ptr rfl rfl rfl KSc.h | exact Q_load_all rfl rfl KAg.h | exact Q_lss rfl rfl | exact Q_geq rfl rfl | exact Q_add rfl rfl (by omega) | exact Q_ld_rpa rfl KAg.h rfl rfl (by first | (dsimp only [List.drop_zero, List.drop_succ_cons, List.take_succ_cons, List.take_zero, List.map, ofD]; done) | exact rfl) | exact Q_ld_rv rfl rfl KSc.h | exact Q_ld_rs rfl rfl KSc.h | exact Q_ld_nats rfl (by omega) KSc.h | exact Q_ld_ints rfl (by omega) KSc.h | exact Q_ld_ownN rfl rfl (by omega) KSc.h | exact Q_ld_own rfl rfl (by omega) KSc.h | exact Q_ld_rows rfl (by omega) KSc.h | exact Q_ld_pair1N rfl (by omega) KSc.h | exact Q_ld_pair2N rfl (by omega) KSc.h | exact Q_ld_pair1 rfl (by omega) KSc.h | exact Q_ld_pair2 rfl (by omega) KSc.h | exact Q_ld_pairN rfl (by omega) KAg.h | exact Q_ld_pair rfl (by omega) KAg.h | exact Q_ld_ord rfl (by omega) KAg.h | exact Q_ld_ownb rfl rfl (by omega) KSc.h | exact Q_pick_t rfl (by assumption) (by conv => lhs; whnf) | exact Q_pick_f rfl (by assumption) (by conv => lhs; whnf) | exact Q_pick_t rfl rfl (by conv => lhs; whnf) | exact Q_pick_f rfl rfl (by conv => lhs; whnf))); (focus exact rfl)) | (refine a_cond rfl ?_ ?_ <;> (intro h; (try (have hp := of_decide_eq_true h)); (try (have hp := of_decide_eq_false h)); (try contradiction); (try (exfalso; omega)))) | refine w_guard_u rfl rfl rfl ?_ | refine w_guard_y rfl rfl rfl (by first | assumption | rfl) ?_ | refine w_guard_n rfl rfl rfl (by first | assumption | rfl) ?_ | (refine w_guard rfl rfl rfl ?_ ?_ <;> (intro h; (try (have hp := of_decide_eq_true h)); (try (have hp := of_decide_eq_false h)); (try contradiction); (try (exfalso; omega)))) | (((first | apply w_q | apply w_qq); (focus (refine Q_call (.inl ⟨rfl, rfl⟩) (kI) ?_; ((repeat' (first | exact trivial | exact vwR rfl | exact vwRL rfl | exact Vw.val _ | exact Vw.ro _ | exact Vw.any _ | exact Vw.valro _ | exact Vw.own _ _ rfl | exact Vw.ptr _ _ _ rfl | exact Vw.rpt _ _ | exact Vw.nilro _ | exact Vw.rowro _ _ _ _ rfl (by decide) | exact Vw.rowro2 rfl (by decide) (by with_unfolding_all exact rfl) | refine Vw.agg' ?_ | refine Vw.tup' ?_ | refine Vw.clo' ?_ | refine Vw.boxrpt' rfl (by decide) ?_ | exact Nat.le_of_ble_eq_true rfl | refine ⟨?_, ?_⟩ )); done))); (focus exact rfl))) | (((first | apply w_q | apply w_qq); (focus (refine Q_call (.inl ⟨rfl, rfl⟩) (kB) ?_; ((repeat' (first | exact trivial | exact vwR rfl | exact vwRL rfl | exact Vw.val _ | exact Vw.ro _ | exact Vw.any _ | exact Vw.valro _ | exact Vw.own _ _ rfl | exact Vw.ptr _ _ _ rfl | exact Vw.rpt _ _ | exact Vw.nilro _ | exact Vw.rowro _ _ _ _ rfl (by decide) | exact Vw.rowro2 rfl (by decide) (by with_unfolding_all exact rfl) | refine Vw.agg' ?_ | refine Vw.tup' ?_ | refine Vw.clo' ?_ | refine Vw.boxrpt' rfl (by decide) ?_ | exact Nat.le_of_ble_eq_true rfl | refine ⟨?_, ?_⟩ )); done))); (focus exact rfl))))); (try all_goals (try show retA _ _ _ _ _ _ _))
    refine ⟨(k + 1, seen + b, cnt + 1, set + b), [0], ?_, ?_, ?_, rfl⟩ <;> (try dsimp only)
    · refine ⟨by omega, a1, by rw [a3, hc], fun y => ?_, a2, fun y => ?_⟩
      · rw [a4, hb, hback, or_assoc]
      · rw [a5, hd, hback]
    · omega
    · (refine St.le_mk rfl (VwOs.mk (by decide) ?_) ?_ <;> (repeat' (first | exact trivial | exact vwR rfl | exact Vw.val _ | exact Vw.ro _ | exact Vw.any _ | exact Vw.own _ _ rfl | exact Vw.ptr _ _ _ rfl | exact Vw.rpt _ _ | exact Vw.valro _ | exact Vw.nilro _ | exact Vw.rowro _ _ _ _ rfl (by decide) | (refine Vw.int' ?_; first | rfl | omega | (simp; done)) | (refine Vw.bool' ?_; first | rfl | (simp; done)) | refine Vw.agg' ?_ | refine Vw.tup' ?_ | refine Vw.clo' ?_ | exact VwO.row _ _ _ | refine VwO.box' ?_ | exact VwO.gone _ | exact VwO.mat _ _ _ | refine ⟨⟨_, rfl, ?_⟩, ?_⟩ | refine ⟨?_, ?_⟩ )))
  · obtain hkk : k = (R.getD i []).length := by omega
    have kC := IsChain_ac n ns set hn hv ht
    have hch : cnB ns true set = true := by
      rw [cn_iff (by omega)]
      intro x y hx hy hxy
      obtain ⟨k1, h1, e1⟩ := (hd x).1 hx
      obtain ⟨k2, h2, e2⟩ := (hd y).1 hy
      unfold cmp
      rw [Bool.or_eq_true]
      rcases Nat.lt_trichotomy k1 k2 with h | h | h
      · have := hup k1 k2 hiR h (by omega)
        rw [e1, e2] at this; exact .inl this
      · subst h; omega
      · have := hup k2 k1 hiR h (by omega)
        rw [e1, e2] at this; exact .inr this
    rw [hch] at kC
    have hset : set ≠ 0 := fun h => by
      have := (hd ((R.getD i []).getD 0 0)).2 ⟨0, by omega, rfl⟩
      rw [h, Nat.zero_testBit] at this; cases this
    
    (repeat' (first | refine a_seq ?_ | refine a_block ?_ | refine a_skip ?_ | refine a_ret ?_ | refine a_exit ?_ | refine a_region ?_ | refine l_nil ?_ | (apply w_q; (focus (first | exact Q_move (by conv => lhs; whnf) | exact Q_assign (by conv => lhs; whnf) | exact Q_load_ptr rfl rfl rfl KSc.h | exact Q_load_all rfl rfl KAg.h | exact Q_lss rfl rfl | exact Q_eql rfl rfl | exact Q_eqlB rfl rfl KBo.h | exact Q_add rfl rfl (by omega) | exact Q_ix_nats rfl rfl rfl KSl.h (by omega) | exact Q_ix_ints rfl rfl rfl KSl.h (by omega) | exact Q_ix_ownN rfl rfl rfl rfl KSl.h (by omega) | exact Q_ix_own rfl rfl rfl rfl KSl.h (by omega) | exact Q_ix_rows rfl rfl rfl KSl.h (by omega) | exact Q_ix_pairsN rfl rfl rfl KSl.h (by omega) | exact Q_ix_pairs rfl rfl rfl KSl.h (by omega) | exact Q_ix_ords rfl rfl rfl KSl.h (by omega) | exact Q_ix_ownb rfl rfl rfl rfl KSl.h (by omega) | exact Q_ix_arr rfl rfl rfl KAr.h (by first | decide | omega) | exact Q_ix_arp rfl rfl rfl KAr.h (by first | decide | omega) | exact Q_ld_rpa rfl KAg.h rfl rfl (by first | (dsimp only [List.drop_zero, List.drop_succ_cons, List.take_succ_cons, List.take_zero, List.map, ofD]; done) | exact rfl) | exact Q_ld_rv rfl rfl KSc.h | exact Q_ld_rs rfl rfl KSc.h | exact Q_ld_nats rfl (by omega) KSc.h | exact Q_ld_ints rfl (by omega) KSc.h | exact Q_ld_ownN rfl rfl (by omega) KSc.h | exact Q_ld_own rfl rfl (by omega) KSc.h | exact Q_ld_rows rfl (by omega) KSc.h | exact Q_ld_pair1N rfl (by omega) KSc.h | exact Q_ld_pair2N rfl (by omega) KSc.h | exact Q_ld_pair1 rfl (by omega) KSc.h | exact Q_ld_pair2 rfl (by omega) KSc.h | exact Q_ld_pairN rfl (by omega) KAg.h | exact Q_ld_pair rfl (by omega) KAg.h | exact Q_eqlP rfl rfl inferInstance | exact Q_ld_ord rfl (by omega) KAg.h | exact Q_ld_ownb rfl rfl (by omega) KSc.h | exact Q_len_nats rfl KSl.h | exact Q_len_ints rfl KSl.h | exact Q_len_ownN rfl rfl KSl.h | exact Q_len_own' rfl rfl KSl.h | exact Q_len_rows rfl KSl.h | exact Q_len_pairsN rfl KSl.h | exact Q_len_pairs rfl KSl.h | exact Q_len_ords rfl KSl.h | exact Q_len_nil' rfl KSl.h | exact Q_len_ownp rfl rfl KSl.h | exact Q_not rfl | exact Q_pick_t rfl (by assumption) (by conv => lhs; whnf) | exact Q_pick_f rfl (by assumption) (by conv => lhs; whnf) | exact Q_pick_t rfl rfl (by conv => lhs; whnf) | exact Q_pick_f rfl rfl (by conv => lhs; whnf))); (focus exact rfl)) | (refine a_cond rfl ?_ ?_ <;> (intro h; (try (have hp := of_decide_eq_true h)); (try (have hp := of_decide_eq_false h)); (try contradiction); (try (exfalso; omega)))) | refine w_guard_u rfl rfl rfl ?_ | refine w_guard_y rfl rfl rfl (by first | assumption | rfl) ?_ | refine w_guard_n rfl rfl rfl (by first | assumption | rfl) ?_ | (refine w_guard rfl rfl rfl ?_ ?_ <;> (intro h; (try (have hp := of_decide_eq_true h)); (try (have hp := of_decide_eq_false h)); (try contradiction); (try (exfalso; omega)))) | (((first | apply w_q | apply w_qq); (focus (refine Q_call (.inl ⟨rfl, rfl⟩) (kC) ?_; ((repeat' (first | exact trivial | exact vwR rfl | exact vwRL rfl | exact Vw.val _ | exact Vw.ro _ | exact Vw.any _ | exact Vw.valro _ | exact Vw.own _ _ rfl | exact Vw.ptr _ _ _ rfl | exact Vw.rpt _ _ | exact Vw.nilro _ | exact Vw.rowro _ _ _ _ rfl (by decide) | exact Vw.rowro2 rfl (by decide) (by with_unfolding_all exact rfl) | refine Vw.agg' ?_ | refine Vw.tup' ?_ | refine Vw.clo' ?_ | refine Vw.boxrpt' rfl (by decide) ?_ | exact Nat.le_of_ble_eq_true rfl | refine ⟨?_, ?_⟩ )); done))); (focus exact rfl))))); (try all_goals (try show retA _ _ _ _ _ _ _))
    refine ⟨(i + 1, seen, cnt), [0], ?_, ?_, ?_, rfl⟩ <;> (try dsimp only)
    · refine ⟨by omega, hs, hc, fun y => ?_⟩
      rw [hb]
      constructor
      · rintro (⟨i', k', h1, h2, h3⟩ | ⟨k', h1, h3⟩)
        · exact ⟨i', k', by omega, h2, h3⟩
        · exact ⟨i, k', by omega, by omega, h3⟩
      · rintro ⟨i', k', h1, h2, h3⟩
        by_cases e : i' = i
        · subst e; exact .inr ⟨k', by omega, h3⟩
        · exact .inl ⟨i', k', by omega, h2, h3⟩
    · omega
    · (refine St.le_mk rfl (VwOs.mk (by decide) ?_) ?_ <;> (repeat' (first | exact trivial | exact vwR rfl | exact Vw.val _ | exact Vw.ro _ | exact Vw.any _ | exact Vw.own _ _ rfl | exact Vw.ptr _ _ _ rfl | exact Vw.rpt _ _ | exact Vw.valro _ | exact Vw.nilro _ | exact Vw.rowro _ _ _ _ rfl (by decide) | (refine Vw.int' ?_; first | rfl | omega | (simp; done)) | (refine Vw.bool' ?_; first | rfl | (simp; done)) | refine Vw.agg' ?_ | refine Vw.tup' ?_ | refine Vw.clo' ?_ | exact VwO.row _ _ _ | refine VwO.box' ?_ | exact VwO.gone _ | exact VwO.mat _ _ _ | refine ⟨⟨_, rfl, ?_⟩, ?_⟩ | refine ⟨?_, ?_⟩ )))
theorem mbs_pc_all : ((List.range 1024).all fun x => (mbs x).length == pcTo x 10) = true := by kernel_rfl
theorem mbs_pc {x : Nat} (h : x < 1024) : (mbs x).length = pcTo x 10 := eq_of_beq (List.all_eq_true.1 mbs_pc_all x (List.mem_range.2 h))
theorem chs_get {n : Nat} {ns : List Nat} {i : Nat} (hi : i < (mbs (fsT (kp n n (abT n ns) n).w n n)).length) : (chs n ns).getD i [] = chF (kp n n (abT n ns) n).w (n + 1) ((mbs (fsT (kp n n (abT n ns) n).w n n)).getD i 0 : Nat) := by
  unfold chs chR
  rw [List.getD_eq_getElem?_getD, List.getElem?_map, List.getElem?_range hi]; rfl
theorem chs_len0 (n : Nat) (ns : List Nat) : (chs n ns).length = (mbs (fsT (kp n n (abT n ns) n).w n n)).length := by simp [chs, chR]
theorem chs_len {n : Nat} {ns : List Nat} (hn : n ≤ 10) (hok : okB n ns = true) : (chs n ns).length = pcTo (wdT (cnB ns false) (2 ^ n)) 10 := by
  have hA := abT_abv (ns := ns) hn
  have hm := (koenig hA.ctx).mt
  rw [hA.dilworth hok hn, ← starts_fr hA hm, chs_len0]
  have hpn := p2_10 hn
  have h1 := fsT_lt (kp n n (abT n ns) n).w n n
  rw [mbs_pc (by omega), pcTo_10 h1 hn, pc_cn]
  refine cn_congr n fun x hx => ?_
  rw [Bool.eq_iff_iff, fsT_bit, Bool.not_eq_true', Bool.eq_false_iff, ne_eq, hit_iff]
  exact ⟨fun h ⟨i, h2, h3⟩ => h.2 i h2 h3, fun h => ⟨hx, fun i h2 h3 => h ⟨i, h2, h3⟩⟩⟩
theorem chs_ptd {n : Nat} {ns : List Nat} (hn : n ≤ 10) (hok : okB n ns = true) : Ptd n ns (chs n ns) := by
  have hA := abT_abv (ns := ns) hn
  have hm := (koenig hA.ctx).mt
  have hg := @chs_get n ns
  have hl0 := chs_len0 n ns
  have hst : ∀ i, i < (mbs (fsT (kp n n (abT n ns) n).w n n)).length → (mbs (fsT (kp n n (abT n ns) n).w n n)).getD i 0 < n ∧ hitB (kp n n (abT n ns) n).w n ((mbs (fsT (kp n n (abT n ns) n).w n n)).getD i 0) = false := fun i hi => by
    obtain ⟨h1, h2⟩ := fsT_bit.1 (mbs_get hi).2
    refine ⟨h1, ?_⟩
    rw [Bool.eq_false_iff, ne_eq, hit_iff]
    exact fun ⟨j, h3, h4⟩ => h2 j h3 h4
  have hri := fun i j => @mbs_rise (fsT (kp n n (abT n ns) n).w n n) i j
  have hml := mbs_len (fsT (kp n n (abT n ns) n).w n n)
  have hmp : ∀ p, p < n → hitB (kp n n (abT n ns) n).w n p = false → ∃ i, i < (mbs (fsT (kp n n (abT n ns) n).w n n)).length ∧ (mbs (fsT (kp n n (abT n ns) n).w n n)).getD i 0 = p := fun p hp hq => by
    have hpn := p2_10 hn
    have h1 := fsT_lt (kp n n (abT n ns) n).w n n
    refine mbs_pos (by omega) (fsT_bit.2 ⟨hp, fun i hi he => ?_⟩)
    rw [hit_iff.2 ⟨i, hi, he⟩] at hq; cases hq
  generalize mbs (fsT (kp n n (abT n ns) n).w n n) = L at *
  generalize (kp n n (abT n ns) n).w = w at *
  generalize chs n ns = R at *
  refine ⟨by omega, fun i => ?_, fun i hi k hk => ?_, fun i k i' k' hi hk hi' hk' he => ?_, fun i k k' hi hkk hk' => ?_, fun i hi => ?_, fun x hx => ?_⟩
  · rcases Nat.lt_or_ge i L.length with h | h
    · rw [hg h]; exact Nat.le_trans (chF_len _ _ _) (by omega)
    · rw [List.getD_eq_getElem?_getD, List.getElem?_eq_none (by omega)]; exact Nat.zero_le _
  · rw [hl0] at hi
    rw [hg hi] at hk ⊢
    exact chF_in hA hm (hst i hi).1 k hk
  · rw [hl0] at hi hi'
    rw [hg hi, hg hi'] at he
    rw [hg hi] at hk
    rw [hg hi'] at hk'
    obtain ⟨a, b⟩ := chF_one hA hm (hst i hi).1 (hst i' hi').1 (hst i hi).2 (hst i' hi').2 k k' hk hk' he
    refine ⟨?_, b⟩
    rcases Nat.lt_trichotomy i i' with h | h | h
    · have := hri i i' h hi'; omega
    · exact h
    · have := hri i' i h hi; omega
  · rw [hl0] at hi
    rw [hg hi] at hk' ⊢
    exact chF_lt hA hok hm (hst i hi).1 k' hkk hk'
  · rw [hl0] at hi
    rw [hg hi]
    exact chF_head.2
  · obtain ⟨p, hp, hq, k, hk, he⟩ := chF_all hA hok hm (rk n ns x) x hx (Nat.le_refl _)
    obtain ⟨i, hi, rfl⟩ := hmp p hp hq
    exact ⟨i, k, by omega, by rw [hg hi]; exact hk, by rw [hg hi]; exact he⟩
theorem chbegun_ac : AC Tryd.prog 40 [] [] (.val (.bool true)) [] := by
  have k1 := Widest_ok 2 [0, 0] (by decide) ⟨rfl, by decide⟩ (by decide)
  rw [show wdT (cnB [0, 0] false) (2 ^ 2) = 3 from by decide] at k1
  have k2 := ladder_ac
  have k3 := Parts_ok 3 [0, 1, 3] (by decide) ⟨rfl, by decide⟩ (by decide)
  have hl : (tn (chs 3 [0, 1, 3])).length = 1 := by rw [tn_len, chs_len (by decide) (by decide)]; decide
  generalize tn (chs 3 [0, 1, 3]) = m at *
  refine AC.mk (n := 31) (fn := Tryd.f40) Tryd.func40 (by kernel_rfl) rfl rfl rfl rfl (fun cx => ?_); dsimp only [argv, Nat.reduceAdd]
  change AC _ _ [ordv 2 [0, 0]] _ _ _ at k1
  change AC _ _ [ordv 3 [0, 1, 3]] _ _ _ at k3
  (repeat' (first | refine a_seq ?_ | refine a_block ?_ | refine a_skip ?_ | refine a_ret ?_ | refine a_exit ?_ | refine a_region ?_ | refine l_nil ?_ | (apply w_q; (focus (first | exact Q_move (by conv => lhs; whnf) | exact Q_assign (by conv => lhs; whnf) | exact Q_eql rfl rfl | exact Q_eqlB rfl rfl KBo.h | exact Q_build0 KBd.h (by simp only [List.map_cons, List.map_nil, List.take_succ_cons, List.take_zero, List.drop_succ_cons, List.drop_zero, List.drop_nil, List.nil_append, List.cons_append, List.append_nil, List.length_cons, List.length_nil, Nat.reduceAdd, Nat.reduceMul]; exact rfl) | exact Q_build1 KBd.h (by conv => lhs; whnf) (by conv => lhs; whnf) rfl rfl rfl (by simp only [List.map_cons, List.map_nil, List.take_succ_cons, List.take_zero, List.drop_succ_cons, List.drop_zero, List.drop_nil, List.nil_append, List.cons_append, List.append_nil, List.length_cons, List.length_nil, Nat.reduceAdd, Nat.reduceMul]; exact rfl) | exact Q_build2 KBd.h (by conv => lhs; whnf) (by conv => lhs; whnf) rfl rfl rfl (by simp only [List.map_cons, List.map_nil, List.take_succ_cons, List.take_zero, List.drop_succ_cons, List.drop_zero, List.drop_nil, List.nil_append, List.cons_append, List.append_nil, List.length_cons, List.length_nil, Nat.reduceAdd, Nat.reduceMul]; exact rfl) (by conv => lhs; whnf) (by conv => lhs; whnf) rfl rfl rfl (by simp only [List.map_cons, List.map_nil, List.take_succ_cons, List.take_zero, List.drop_succ_cons, List.drop_zero, List.drop_nil, List.nil_append, List.cons_append, List.append_nil, List.length_cons, List.length_nil, Nat.reduceAdd, Nat.reduceMul]; exact rfl) | exact Q_build3 KBd.h (by conv => lhs; whnf) (by conv => lhs; whnf) rfl rfl rfl (by simp only [List.map_cons, List.map_nil, List.take_succ_cons, List.take_zero, List.drop_succ_cons, List.drop_zero, List.drop_nil, List.nil_append, List.cons_append, List.append_nil, List.length_cons, List.length_nil, Nat.reduceAdd, Nat.reduceMul]; exact rfl) (by conv => lhs; whnf) (by conv => lhs; whnf) rfl rfl rfl (by simp only [List.map_cons, List.map_nil, List.take_succ_cons, List.take_zero, List.drop_succ_cons, List.drop_zero, List.drop_nil, List.nil_append, List.cons_append, List.append_nil, List.length_cons, List.length_nil, Nat.reduceAdd, Nat.reduceMul]; exact rfl) (by conv => lhs; whnf) (by conv => lhs; whnf) rfl rfl rfl (by simp only [List.map_cons, List.map_nil, List.take_succ_cons, List.take_zero, List.drop_succ_cons, List.drop_zero, List.drop_nil, List.nil_append, List.cons_append, List.append_nil, List.length_cons, List.length_nil, Nat.reduceAdd, Nat.reduceMul]; exact rfl) | exact Q_eqlP rfl rfl inferInstance | exact Q_len_nats rfl KSl.h | exact Q_len_ints rfl KSl.h | exact Q_len_ownN rfl rfl KSl.h | exact Q_len_own' rfl rfl KSl.h | exact Q_len_rows rfl KSl.h | exact Q_len_pairsN rfl KSl.h | exact Q_len_pairs rfl KSl.h | exact Q_len_ords rfl KSl.h | exact Q_len_nil' rfl KSl.h | exact Q_len_ownp rfl rfl KSl.h | exact Q_extract rfl (by conv => lhs; whnf) | exact Q_extract_v rfl (by conv => lhs; whnf) | exact Q_pick_t rfl (by assumption) (by conv => lhs; whnf) | exact Q_pick_f rfl (by assumption) (by conv => lhs; whnf) | exact Q_pick_t rfl rfl (by conv => lhs; whnf) | exact Q_pick_f rfl rfl (by conv => lhs; whnf))); (focus exact rfl)) | refine w_guard_u rfl rfl rfl ?_ | refine w_guard_y rfl rfl rfl (by first | assumption | rfl) ?_ | refine w_guard_n rfl rfl rfl (by first | assumption | rfl) ?_ | (refine w_guard rfl rfl rfl ?_ ?_ <;> (intro h; (try (have hp := of_decide_eq_true h)); (try (have hp := of_decide_eq_false h)); (try contradiction); (try (exfalso; omega)))) | refine w_lit_nat rfl KSl.h KMk.h (by first|(dsimp only[obA,obB,obD,obE,obF,obG,obI,List.map,AO.sh,AV.sh,AV.shl,Nat.reduceAdd];done)|exact rfl) (by first|(dsimp only[obA,obB,obD,obE,obF,obG,obI,List.map,AO.sh,AV.sh,AV.shl,Nat.reduceAdd];done)|exact rfl) rfl ?_ | refine w_lit_int rfl KSl.h KMk.h (by first|(dsimp only[obA,obB,obD,obE,obF,obG,obI,List.map,AO.sh,AV.sh,AV.shl,Nat.reduceAdd];done)|exact rfl) (by first|(dsimp only[obA,obB,obD,obE,obF,obG,obI,List.map,AO.sh,AV.sh,AV.shl,Nat.reduceAdd];done)|exact rfl) rfl ?_ | refine w_lit_ord rfl KSl.h KMk.h (by first|(dsimp only[obA,obB,obD,obE,obF,obG,obI,List.map,AO.sh,AV.sh,AV.shl,Nat.reduceAdd];done)|exact rfl) (by first|(dsimp only[obA,obB,obD,obE,obF,obG,obI,List.map,AO.sh,AV.sh,AV.shl,Nat.reduceAdd];done)|exact rfl) rfl ?_ | refine w_lit_r1 rfl KSl.h KMk.h (by first|(dsimp only[obA,obB,obD,obE,obF,obG,obI,List.map,AO.sh,AV.sh,AV.shl,Nat.reduceAdd];done)|exact rfl) (by first|(dsimp only[obA,obB,obD,obE,obF,obG,obI,List.map,AO.sh,AV.sh,AV.shl,Nat.reduceAdd];done)|exact rfl) rfl ?_ | refine w_lit_r1o rfl rfl KSl.h KMk.h (by first|(dsimp only[obA,obB,obD,obE,obF,obG,obI,List.map,AO.sh,AV.sh,AV.shl,Nat.reduceAdd];done)|exact rfl) (by first|(dsimp only[obA,obB,obD,obE,obF,obG,obI,List.map,AO.sh,AV.sh,AV.shl,Nat.reduceAdd];done)|exact rfl) (by first|(dsimp only[obA,obB,obD,obE,obF,obG,obI,List.map,AO.sh,AV.sh,AV.shl,Nat.reduceAdd];done)|exact rfl) rfl ?_ | refine w_lit_r2 rfl rfl KSl.h KMk.h (by first|(dsimp only[obA,obB,obD,obE,obF,obG,obI,List.map,AO.sh,AV.sh,AV.shl,Nat.reduceAdd];done)|exact rfl) (by first|(dsimp only[obA,obB,obD,obE,obF,obG,obI,List.map,AO.sh,AV.sh,AV.shl,Nat.reduceAdd];done)|exact rfl) rfl ?_ | refine w_lit_r3 rfl rfl rfl KSl.h KMk.h (by first|(dsimp only[obA,obB,obD,obE,obF,obG,obI,List.map,AO.sh,AV.sh,AV.shl,Nat.reduceAdd];done)|exact rfl) (by first|(dsimp only[obA,obB,obD,obE,obF,obG,obI,List.map,AO.sh,AV.sh,AV.shl,Nat.reduceAdd];done)|exact rfl) rfl ?_ | refine w_lit_r4 rfl rfl rfl rfl KSl.h KMk.h (by first|(dsimp only[obA,obB,obD,obE,obF,obG,obI,List.map,AO.sh,AV.sh,AV.shl,Nat.reduceAdd];done)|exact rfl) (by first|(dsimp only[obA,obB,obD,obE,obF,obG,obI,List.map,AO.sh,AV.sh,AV.shl,Nat.reduceAdd];done)|exact rfl) rfl ?_ | refine w_lit_i2 rfl rfl KSl.h KMk.h (by first|(dsimp only[obA,obB,obD,obE,obF,obG,obI,List.map,AO.sh,AV.sh,AV.shl,Nat.reduceAdd];done)|exact rfl) (by first|(dsimp only[obA,obB,obD,obE,obF,obG,obI,List.map,AO.sh,AV.sh,AV.shl,Nat.reduceAdd];done)|exact rfl) rfl ?_ | refine w_lit_i3 rfl rfl rfl KSl.h KMk.h (by first|(dsimp only[obA,obB,obD,obE,obF,obG,obI,List.map,AO.sh,AV.sh,AV.shl,Nat.reduceAdd];done)|exact rfl) (by first|(dsimp only[obA,obB,obD,obE,obF,obG,obI,List.map,AO.sh,AV.sh,AV.shl,Nat.reduceAdd];done)|exact rfl) rfl ?_ | refine w_lit_i4 rfl rfl rfl rfl KSl.h KMk.h (by first|(dsimp only[obA,obB,obD,obE,obF,obG,obI,List.map,AO.sh,AV.sh,AV.shl,Nat.reduceAdd];done)|exact rfl) (by first|(dsimp only[obA,obB,obD,obE,obF,obG,obI,List.map,AO.sh,AV.sh,AV.shl,Nat.reduceAdd];done)|exact rfl) rfl ?_ | refine w_lit_ord2 rfl rfl KSl.h KMk.h (by first|(dsimp only[obA,obB,obD,obE,obF,obG,obI,List.map,AO.sh,AV.sh,AV.shl,Nat.reduceAdd];done)|exact rfl) (by first|(dsimp only[obA,obB,obD,obE,obF,obG,obI,List.map,AO.sh,AV.sh,AV.shl,Nat.reduceAdd];done)|exact rfl) rfl ?_ | refine w_lit_p2 rfl rfl KSl.h KMk.h (by first|(dsimp only[obA,obB,obD,obE,obF,obG,obI,List.map,AO.sh,AV.sh,AV.shl,Nat.reduceAdd];done)|exact rfl) (by first|(dsimp only[obA,obB,obD,obE,obF,obG,obI,List.map,AO.sh,AV.sh,AV.shl,Nat.reduceAdd];done)|exact rfl) rfl ?_ | refine w_lit_pair rfl KSl.h KMk.h (by first|(dsimp only[obA,obB,obD,obE,obF,obG,obI,List.map,AO.sh,AV.sh,AV.shl,Nat.reduceAdd];done)|exact rfl) (by first|(dsimp only[obA,obB,obD,obE,obF,obG,obI,List.map,AO.sh,AV.sh,AV.shl,Nat.reduceAdd];done)|exact rfl) rfl ?_ | ((refine w_freezeA 0 rfl (by simp only [frv_nil, frv_cons, frl_nil, frl_cons, fro_nil, fro_cons, fro_box, fro_row, fro_gone, fr_own, fr_val, fr_ro, fr_rpt, fr_ptr, fr_ept, fr_agg, fr_tup, fr_clo, fr_ints, fr_rows, fr_pairs, fr_ords, Nat.reduceEqDiff, ↓reduceIte, List.set_cons_zero, List.set_cons_succ]; exact rfl) (by simp only [frv_nil, frv_cons, frl_nil, frl_cons, fro_nil, fro_cons, fro_box, fro_row, fro_gone, fr_own, fr_val, fr_ro, fr_rpt, fr_ptr, fr_ept, fr_agg, fr_tup, fr_clo, fr_ints, fr_rows, fr_pairs, fr_ords, Nat.reduceEqDiff, ↓reduceIte, List.set_cons_zero, List.set_cons_succ]; exact rfl) ?_; (refine w_callV (.inl ⟨rfl, rfl⟩) (k1) ?_ (by first | (dsimp only [AV.sh, AV.shl, sh_ints, sh_rows, sh_pairs, sh_ords]; done) | exact rfl) rfl ?_; rotate_left 0; (focus ((repeat' (first | exact trivial | exact Vs.val _ | exact Vs.ro _ | exact Vs.rpt _ _ | exact Vs.valro _ | exact Vs.nilro _ | exact Vs.any _ | refine Vs.agg' ?_ | refine Vs.tup' ?_ | refine Vs.clo' ?_ | refine ⟨?_, ?_⟩)); done)); rotate_left 1; all_goals (try (skip))))) | ((refine w_callR (res := .agg [.val (.int .i64 3), .own 0]) (news := [.row 3 1 (intc [0, 1, 3])]) (.inl ⟨rfl, rfl⟩) (k2) ?_ ?_ ?_ rfl (by repeat' (first | exact trivial | exact flat_ints _ _ | exact flat_bools _ _ | exact flat_pairs _ _ | exact flat_box _ rfl | exact FlatO.gone | refine ⟨?_, ?_⟩)) (by first|(dsimp only[obA,obB,obD,obE,obF,obG,obI,List.map,AO.sh,AV.sh,AV.shl,Nat.reduceAdd];done)|exact rfl) (by first|(dsimp only[obA,obB,obD,obE,obF,obG,obI,List.map,AO.sh,AV.sh,AV.shl,Nat.reduceAdd];done)|exact rfl) rfl ?_; rotate_left 0; (focus exact rfl); (focus exact rfl); (focus ((repeat' (first | exact trivial | exact vwR rfl | exact vwRL rfl | exact Vw.val _ | exact Vw.ro _ | exact Vw.any _ | exact Vw.valro _ | exact Vw.own _ _ rfl | exact Vw.ptr _ _ _ rfl | exact Vw.rpt _ _ | exact Vw.nilro _ | exact Vw.rowro _ _ _ _ rfl (by decide) | exact Vw.rowro2 rfl (by decide) (by with_unfolding_all exact rfl) | refine Vw.agg' ?_ | refine Vw.tup' ?_ | refine Vw.clo' ?_ | refine Vw.boxrpt' rfl (by decide) ?_ | exact Nat.le_of_ble_eq_true rfl | refine ⟨?_, ?_⟩ )); done)); rotate_left 1; all_goals (try (skip)))) | ((refine w_freezeA 1 rfl (by simp only [frv_nil, frv_cons, frl_nil, frl_cons, fro_nil, fro_cons, fro_box, fro_row, fro_gone, fr_own, fr_val, fr_ro, fr_rpt, fr_ptr, fr_ept, fr_agg, fr_tup, fr_clo, fr_ints, fr_rows, fr_pairs, fr_ords, Nat.reduceEqDiff, ↓reduceIte, List.set_cons_zero, List.set_cons_succ]; exact rfl) (by simp only [frv_nil, frv_cons, frl_nil, frl_cons, fro_nil, fro_cons, fro_box, fro_row, fro_gone, fr_own, fr_val, fr_ro, fr_rpt, fr_ptr, fr_ept, fr_agg, fr_tup, fr_clo, fr_ints, fr_rows, fr_pairs, fr_ords, Nat.reduceEqDiff, ↓reduceIte, List.set_cons_zero, List.set_cons_succ]; exact rfl) ?_; (refine w_callV (.inl ⟨rfl, rfl⟩) (k3) ?_ (by first | (dsimp only [AV.sh, AV.shl, sh_ints, sh_rows, sh_pairs, sh_ords]; done) | exact rfl) rfl ?_; rotate_left 0; (focus ((repeat' (first | exact trivial | exact Vs.val _ | exact Vs.ro _ | exact Vs.rpt _ _ | exact Vs.valro _ | exact Vs.nilro _ | exact Vs.any _ | refine Vs.agg' ?_ | refine Vs.tup' ?_ | refine Vs.clo' ?_ | refine ⟨?_, ?_⟩)); done)); rotate_left 1; all_goals (try (skip))))))); (try all_goals (try show retA _ _ _ _ _ _ _))
  refine ⟨[_], [], ⟨resV_tmp (by conv => lhs; whnf), trivial⟩, VwOs.mk (by decide) trivial, ?_, rfl⟩
  exact Vw.bool' (by rw [hl]; rfl)
end Go.Proofs.YtdieojemgkfklaaDoor
