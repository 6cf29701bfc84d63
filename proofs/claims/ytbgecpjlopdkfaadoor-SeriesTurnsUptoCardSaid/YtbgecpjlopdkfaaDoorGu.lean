import Derived.Test.YtbgecpjlopdkfaaDoorGr
import Derived.Test.YtbgecpjlopdkfaaDoorGa
import Derived.Test.YtbgecpjlopdkfaaDoorEngA
set_option linter.unusedSimpArgs false
set_option linter.unusedVariables false
set_option linter.unusedSectionVars false
set_option maxRecDepth 20000
namespace Go.Proofs.YtbgecpjlopdkfaaDoor
attribute [local irreducible] QOp aL aC qL
theorem or_addR {s k : Nat} (h : s.testBit k = false) (hs : s < 2 ^ 20) : s + 2 ^ k = s ||| 2 ^ k := by
  have e := or_add_and 20 s (2 ^ k) hs
  have z : s &&& 2 ^ k = 0 := by
    apply Nat.eq_of_testBit_eq
    intro j
    rw [Nat.testBit_and, Nat.testBit_two_pow, Nat.zero_testBit]
    by_cases hj : k = j
    · subst hj; rw [h]; rfl
    · rw [decide_eq_false hj, Bool.and_false]
  omega
theorem bit_zero (s p : Nat) : decide (((s / 2 ^ p % 2 : Nat) : Int) = 0) = !s.testBit p := by
  rw [← bit_dec s p]
  have := Nat.mod_lt (s / 2 ^ p) (show 0 < 2 by decide)
  rw [← decide_not]
  exact decide_eq_decide.2 (by omega)
theorem ndiff_sub (x s : Nat) : decide (((ndiff x s : Nat) : Int) = 0) = sub x s := by
  unfold sub
  rw [Bool.eq_iff_iff, decide_eq_true_eq, beq_iff_eq]
  omega
/-- What has been summed up for a set, of the first p points. -/
def acc (n : Nat) (may : Nat → Nat → Bool) (s p : Nat) : Nat := (if s = 2 ^ n - 1 then 1 else 0) + sumTo (term n may s) p
theorem acc_le {n : Nat} (hn : n ≤ 10) (may : Nat → Nat → Bool) (s p : Nat) (hp : p ≤ n) : acc n may s p ≤ 200000000000 := by
  have h1 := sumTo_le (term_le hn may s) p
  have h2 : p * 10000000000 ≤ 10 * 10000000000 := Nat.mul_le_mul_right _ (by omega)
  unfold acc
  split <;> omega
theorem acc_fin {n : Nat} {may : Nat → Nat → Bool} (hm : ∀ s p, may s p = true → s.testBit p = false) {s : Nat} (hs : s < 2 ^ n) : acc n may s n = rest n may s := by
  unfold acc
  by_cases h : s = 2 ^ n - 1
  · rw [if_pos h, h, rest_full, sumTo_zero]
    intro i hi
    unfold term
    rw [if_neg]
    intro h2
    have := hm _ _ h2
    rw [Nat.testBit_two_pow_sub_one, decide_eq_true hi] at this
    cases this
  · rw [if_neg h, Nat.zero_add, rest_step hm hs h]
theorem set_twice (l : List Nat) (s u v : Nat) : (l.set s u).set s v = l.set s v := by
  apply List.ext_getElem
  · simp
  · intro i h1 h2
    simp only [List.getElem_set]
    split <;> rfl
/-- The table while a set is summed up. -/
def tby (n : Nat) (may : Nat → Nat → Bool) (s p : Nat) : List Nat := (tbl n may (s + 1)).set s (acc n may s p)
structure Tby (n : Nat) (may : Nat → Nat → Bool) (s p : Nat) (Y : List Nat) : Prop where
  len : Y.length = 2 ^ n
  at' : Y.getD s 0 ≤ 200000000000
  up : p < n → s.testBit p = false → Y.getD (s ||| 2 ^ p) 0 ≤ 10000000000
  keep : may s p = false → tby n may s (p + 1) = Y
  grow : p < n → may s p = true → tby n may s (p + 1) = Y.set s (Y.getD s 0 + Y.getD (s ||| 2 ^ p) 0)
  fin : p = n → Y = tbl n may s
theorem tby_ok {n : Nat} (hn : n ≤ 10) {may : Nat → Nat → Bool} (hm : ∀ s p, may s p = true → s.testBit p = false) {s p : Nat} (hs : s < 2 ^ n) (hp : p ≤ n) : Tby n may s p (tby n may s p) := by
  have h1 : (tby n may s p).getD s 0 = acc n may s p := by
    unfold tby
    rw [getD_setS _ _ _ _ (by rw [tbl_len]; exact hs), if_pos rfl]
  have h2 : p < n → s.testBit p = false → (tby n may s p).getD (s ||| 2 ^ p) 0 = rest n may (s ||| 2 ^ p) := fun hpn h => by
    have h1 := or_gt h
    unfold tby
    rw [getD_setS _ _ _ _ (by rw [tbl_len]; exact hs), if_neg (by omega), tbl_get (Nat.or_lt_two_pow hs (Nat.pow_lt_pow_right (by decide) hpn)), if_pos (by omega)]
  have h3 : acc n may s (p + 1) = acc n may s p + if may s p = true then rest n may (s ||| 2 ^ p) else 0 := by
    unfold acc
    rw [Nat.add_assoc]
    rfl
  refine ⟨by unfold tby; rw [List.length_set, tbl_len], by rw [h1]; exact acc_le hn may s p hp, fun hpn h => by rw [h2 hpn h]; exact rest_le hn may _, fun h => ?_, fun hpn h => ?_, fun h => ?_⟩
  · unfold tby
    rw [h3, if_neg (by rw [h]; decide)]
    rfl
  · rw [h1, h2 hpn (hm s p h)]
    unfold tby
    rw [h3, if_pos h, set_twice]
  · unfold tby
    rw [h, acc_fin hm hs, tbl_set]
theorem tby_full {n : Nat} (may : Nat → Nat → Bool) (hpos : 0 < 2 ^ n) : (tbl n may (2 ^ n - 1 + 1)).set (2 ^ n - 1) 1 = tby n may (2 ^ n - 1) 0 := by
  unfold tby acc
  rw [if_pos rfl]
  rfl
theorem tby_zero {n s : Nat} (may : Nat → Nat → Bool) (hs : s ≠ 2 ^ n - 1) : tbl n may (s + 1) = tby n may s 0 := by
  unfold tby acc
  rw [if_neg hs]
  exact tbl_set0.symm
set_option maxHeartbeats 1000000 in
theorem counts_ac (n : Nat) (ns : List Nat) (hn : n ≤ 10) (hv : Vld n ns) : AC Tryd.prog 111 [ordv n (nl ns)] [] (.own 0) [.row 3 1 (intc (nl (tbl n (mayO ns) 0)))] := by
  have hlen := hv.1
  have hpn := p2_10 hn
  have hpos : 0 < 2 ^ n := Nat.pow_pos (by decide)
  have hrl : (List.replicate (2 ^ n) 0).length = 2 ^ n := List.length_replicate
  have hst : (List.replicate (2 ^ n) 0).set (2 ^ n - 1) 1 = tbl n (mayO ns) (2 ^ n - 1) := by
    have := tbl_set (n := n) (may := mayO ns) (s := 2 ^ n - 1)
    rw [show 2 ^ n - 1 + 1 = 2 ^ n by omega, tbl_nil, rest_full] at this
    exact this
  refine AC.mk (n := 59) (fn := Tryd.f111) Tryd.func111 (by kernel_rfl) rfl rfl rfl rfl (fun cx => ?_); dsimp only [argv, Nat.reduceAdd]
  (repeat' (first | refine a_seq ?_ | refine a_block ?_ | refine a_region ?_ | refine l_nil ?_ | ((first | apply w_q); (focus (first | exact Q_move (by conv => lhs; whnf) | exact Q_assign (by conv => lhs; whnf) | exact Q_fieldAddr_ptr rfl KFl.h | exact Q_load_ptr rfl rfl rfl KSc.h | exact Q_bit rfl rfl (by omega) | exact Q_sub rfl rfl (by omega))); (focus exact rfl)) | refine w_box rfl rfl (by first|(dsimp only[obA,obB,obD,obE,obF,obG,obI,List.map,AO.sh,AV.sh,AV.shl,Nat.reduceAdd];done)|exact rfl) (by first|(dsimp only[obA,obB,obD,obE,obF,obG,obI,List.map,AO.sh,AV.sh,AV.shl,Nat.reduceAdd];done)|exact rfl) rfl ?_ | refine w_st_nats rfl rfl rfl KSz.h (by omega) (by first|(dsimp only[obA,obB,obD,obE,obF,obG,obI,List.map,AO.sh,AV.sh,AV.shl,Nat.reduceAdd];done)|exact rfl) ?_ | refine w_mk_nats rfl rfl rfl KSl.h KMk.h (by omega) (by first|(dsimp only[obA,obB,obD,obE,obF,obG,obI,List.map,AO.sh,AV.sh,AV.shl,Nat.reduceAdd];done)|exact rfl) (by first|(dsimp only[obA,obB,obD,obE,obF,obG,obI,List.map,AO.sh,AV.sh,AV.shl,Nat.reduceAdd];done)|exact rfl) rfl ?_ | (((first | apply w_q); (focus exact Q_ix_ownN (o := 2 ^ n - 1) rfl rfl rfl (by omega) KSl.h (by omega)); (focus exact rfl))))); (try all_goals (try show retA _ _ _ _ _ _ _))
  refine w_loop (X := Nat) [1, 3] (by simp only [keepv, getv_cons, Nat.reduceEqDiff, ↓reduceIte]; exact rfl) (fun k => [(5, .val (.int .i64 ((k : Int) - 1)))]) (fun k => [.box [.val (.int .i64 n), ints (nl ns)], .row 3 1 (intc (nl (tbl n (mayO ns) k)))]) (fun k => k < 2 ^ n) (fun k => k) (2 ^ n - 1) ([0, 1]) ?_ ?_ rfl ?_ <;> (try dsimp only [List.cons_append, List.nil_append])
  · show 2 ^ n - 1 < 2 ^ n
    omega
  · rw [← hst]
    (refine St.le_mk rfl (VwOs.mk (by decide) ?_) ?_ <;> (repeat' (first | exact trivial | exact vwR rfl | exact Vw.ro _ | exact Vw.own _ _ rfl | exact Vw.ptr _ _ _ rfl | (refine Vw.int' ?_; first | rfl | omega | (simp; done)) | exact VwO.row _ _ _ | refine VwO.box' ?_ | refine ⟨⟨_, rfl, ?_⟩, ?_⟩ | refine ⟨?_, ?_⟩ )))
  rintro k hk
  rcases k with _ | s
  · (repeat' (first | refine a_seq ?_ | refine a_ret ?_ | refine a_exit ?_ | refine a_region ?_ | refine l_nil ?_ | ((first | apply w_q); (focus (first | exact Q_move (by conv => lhs; whnf) | exact Q_assign (by conv => lhs; whnf) | exact Q_geq rfl rfl)); (focus exact rfl)) | (refine a_cond rfl ?_ ?_ <;> (intro h; (try (have hp := of_decide_eq_true h)); (try (have hp := of_decide_eq_false h)); (try contradiction); (try (exfalso; omega)))))); (try all_goals (try show retA _ _ _ _ _ _ _))
    all_goals first
      | (exfalso; omega)
      | (refine ⟨[_], [1], ⟨resV_tmp (by conv => lhs; whnf), trivial⟩, VwOs.mk (by decide) ⟨⟨_, rfl, .row _ _ _⟩, trivial⟩, ?_, rfl⟩; (repeat' (first | exact Vw.own _ _ rfl)); done)
  have hs : s < 2 ^ n := by omega
  rw [show (((s + 1 : Nat) : Int) - 1) = (s : Int) by omega]
  have h00 := tby_zero (n := n) (s := s) (mayO ns) (by omega)
  (repeat' (first | refine a_seq ?_ | refine a_block ?_ | refine a_skip ?_ | refine a_region ?_ | refine l_nil ?_ | ((first | apply w_q); (focus (first | exact Q_move (by conv => lhs; whnf) | exact Q_fieldAddr_ptr rfl KFl.h | exact Q_load_ptr rfl rfl rfl KSc.h | exact Q_geq rfl rfl | exact Q_len_nats rfl KSl.h)); (focus exact rfl)) | (refine a_cond rfl ?_ ?_ <;> (intro h; (try (have hp := of_decide_eq_true h)); (try (have hp := of_decide_eq_false h)); (try contradiction); (try (exfalso; omega)))))); (try all_goals (try show retA _ _ _ _ _ _ _))
  refine w_loop (X := Nat) [1, 3, 5, 26, 27] (by simp only [keepv, getv_cons, Nat.reduceEqDiff, ↓reduceIte]; exact rfl) (fun p => [(28, .val (.int .i64 (p : Int)))]) (fun p => [.box [.val (.int .i64 n), ints (nl ns)], .row 3 1 (intc (nl (tby n (mayO ns) s p)))]) (fun p => p ≤ n) (fun p => n - p) (0) ([0, 1]) ?_ ?_ rfl ?_ <;> (try dsimp only [List.cons_append, List.nil_append])
  · exact Nat.zero_le _
  · rw [← h00]
    (refine St.le_mk rfl (VwOs.mk (by decide) ?_) ?_ <;> (repeat' (first | exact trivial | exact vwR rfl | exact Vw.ro _ | exact Vw.own _ _ rfl | exact Vw.ptr _ _ _ rfl | exact VwO.row _ _ _ | refine VwO.box' ?_ | refine ⟨⟨_, rfl, ?_⟩, ?_⟩ | refine ⟨?_, ?_⟩ )))
  rintro p hp2
  have hY := tby_ok hn (may := mayO ns) (fun s p h => mayO_not h) hs hp2
  generalize tby n (mayO ns) s p = Y at *
  have hYl := hY.len
  have hYa := hY.at'
  have hYu := hY.up
  have g3 := vget hv hn p
  have g4 := p2_10 (n := p) (by omega)
  have hor : p < n → s ||| 2 ^ p < 2 ^ n := fun h => Nat.or_lt_two_pow hs (Nat.pow_lt_pow_right (by decide) h)
  have bz := bit_zero s p
  have bs' := ndiff_sub (ns.getD p 0) s
  have hb0 : ((s / 2 ^ p % 2 : Nat) : Int) = 0 → s.testBit p = false := fun h => by
    rw [decide_eq_true h] at bz; simpa using bz.symm
  have hm : mayO ns s p = (!s.testBit p && sub (ns.getD p 0) s) := rfl
  (repeat' (first | refine a_seq ?_ | refine a_block ?_ | refine a_skip ?_ | refine a_exit ?_ | refine a_region ?_ | refine l_nil ?_ | refine q_nil ?_ | ((first | apply w_q | apply w_qq); (focus (first | exact Q_move (by conv => lhs; whnf) | exact Q_assign (by conv => lhs; whnf) | exact Q_lss rfl rfl | exact Q_eql rfl rfl | exact Q_add rfl rfl (by omega) | exact Q_shrN rfl rfl (by omega) | exact Q_and1 rfl rfl | exact Q_bit rfl rfl (by omega) | exact Q_sub rfl rfl (by omega) | exact Q_ix_nats rfl rfl rfl KSl.h (by omega) | exact Q_ix_ownN rfl rfl rfl rfl KSl.h (by omega) | exact Q_ld_nats rfl (by omega) KSc.h | exact Q_ld_ownN rfl rfl (by omega) KSc.h | exact Q_pick_t rfl (by assumption) (by conv => lhs; whnf) | exact Q_pick_f rfl (by assumption) (by conv => lhs; whnf))); (focus exact rfl)) | (refine a_cond rfl ?_ ?_ <;> (intro h; (try (have hp := of_decide_eq_true h)); (try (have hp := of_decide_eq_false h)); (try contradiction); (try (exfalso; omega)))) | refine w_guard_y rfl rfl rfl (by first | assumption | rfl) ?_ | refine w_guard_n rfl rfl rfl (by first | assumption | rfl) ?_ | ((first | refine w_guard rfl rfl rfl ?_ ?_) <;> (intro h; (try (have hp := of_decide_eq_true h)); (try (have hp := of_decide_eq_false h)); (try contradiction); (try (exfalso; omega)))) | refine a_drawT (id := 11) 13 (by kernel_rfl) (by kernel_rfl) (by simp only [List.take_succ_cons, List.take_zero, List.drop_succ_cons, List.drop_zero]; exact rfl) (by simp only [List.take_succ_cons, List.take_zero, List.drop_succ_cons, List.drop_zero]; exact rfl) ?_ | refine w_st_nats rfl rfl rfl KSz.h (by omega) (by first|(dsimp only[obA,obB,obD,obE,obF,obG,obI,List.map,AO.sh,AV.sh,AV.shl,Nat.reduceAdd];done)|exact rfl) ?_ | (((first | apply w_q | apply w_qq); (focus exact Q_andNotN rfl rfl (by omega) (by omega)); (focus exact rfl))) | (((first | apply w_qq); (focus exact Q_orN rfl rfl (by omega) (by omega)); (focus exact rfl))) | (((first | apply w_qq); (focus exact Q_addN rfl rfl (by have := hYu (by omega) (hb0 (by assumption)); omega)); (focus exact rfl))))); (try all_goals (try show retA _ _ _ _ _ _ _))
  · refine ⟨p + 1, [0, 1], ?_, ?_, ?_, rfl⟩ <;> (try dsimp only)
    · omega
    · omega
    · rw [hY.grow (by omega) (by rw [hm, ← bz, ← bs', decide_eq_true (by assumption), decide_eq_true (by assumption)]; rfl)]
      (refine St.le_mk rfl (VwOs.mk (by decide) ?_) ?_ <;> (repeat' (first | exact trivial | exact vwR rfl | exact Vw.ro _ | exact Vw.own _ _ rfl | exact Vw.ptr _ _ _ rfl | exact VwO.row _ _ _ | refine VwO.box' ?_ | refine ⟨⟨_, rfl, ?_⟩, ?_⟩ | refine ⟨?_, ?_⟩ )))
  · refine ⟨p + 1, [0, 1], ?_, ?_, ?_, rfl⟩ <;> (try dsimp only)
    · omega
    · omega
    · rw [hY.keep (by rw [hm, ← bs', decide_eq_false (by assumption), Bool.and_false])]
      (refine St.le_mk rfl (VwOs.mk (by decide) ?_) ?_ <;> (repeat' (first | exact trivial | exact vwR rfl | exact Vw.ro _ | exact Vw.own _ _ rfl | exact Vw.ptr _ _ _ rfl | exact VwO.row _ _ _ | refine VwO.box' ?_ | refine ⟨⟨_, rfl, ?_⟩, ?_⟩ | refine ⟨?_, ?_⟩ )))
  · refine ⟨p + 1, [0, 1], ?_, ?_, ?_, rfl⟩ <;> (try dsimp only)
    · omega
    · omega
    · rw [hY.keep (by rw [hm, ← bz, decide_eq_false (by assumption), Bool.false_and])]
      (refine St.le_mk rfl (VwOs.mk (by decide) ?_) ?_ <;> (repeat' (first | exact trivial | exact vwR rfl | exact Vw.ro _ | exact Vw.own _ _ rfl | exact Vw.ptr _ _ _ rfl | exact VwO.row _ _ _ | refine VwO.box' ?_ | refine ⟨⟨_, rfl, ?_⟩, ?_⟩ | refine ⟨?_, ?_⟩ )))
  · obtain rfl : p = n := by omega
    refine ⟨s, [0, 1], ?_, ?_, ?_, rfl⟩ <;> (try dsimp only)
    · omega
    · omega
    · rw [← hY.fin rfl]
      (refine St.le_mk rfl (VwOs.mk (by decide) ?_) ?_ <;> (repeat' (first | exact trivial | exact vwR rfl | exact Vw.ro _ | exact Vw.own _ _ rfl | exact Vw.ptr _ _ _ rfl | exact VwO.row _ _ _ | refine VwO.box' ?_ | refine ⟨⟨_, rfl, ?_⟩, ?_⟩ | refine ⟨?_, ?_⟩ )))
theorem May_ac (n : Nat) (ns : List Nat) (s i : Nat) (hn : n ≤ 10) (hv : Vld n ns) (hs : s < 2 ^ 20) (hi : i < n) : AC Tryd.prog 74 [ordv n (nl ns), .val (.int .i64 s), .val (.int .i64 i)] [] (.val (.bool (mayO ns s i))) [] := by
  have hlen := hv.1
  have g3 := vget hv hn i
  have hm : mayO ns s i = (!s.testBit i && sub (ns.getD i 0) s) := rfl
  refine AC.mk (n := 20) (fn := Tryd.f74) Tryd.func74 (by kernel_rfl) rfl rfl rfl rfl (fun cx => ?_); dsimp only [argv, Nat.reduceAdd]
  (repeat' (first | refine a_seq ?_ | refine a_ret ?_ | refine a_region ?_ | refine l_nil ?_ | (apply w_q; (focus (first | exact Q_move (by conv => lhs; whnf) | exact Q_assign (by conv => lhs; whnf) | exact Q_fieldAddr_ptr rfl KFl.h | exact Q_load_ptr rfl rfl rfl KSc.h | exact Q_ix_nats rfl rfl rfl KSl.h (by omega) | exact Q_ld_nats rfl (by omega) KSc.h | exact Q_not rfl | exact Q_pick_t rfl (by assumption) (by conv => lhs; whnf) | exact Q_pick_f rfl (by assumption) (by conv => lhs; whnf))); (focus exact rfl)) | refine w_guard_y rfl rfl rfl (by first | assumption | rfl) ?_ | refine w_guard_n rfl rfl rfl (by first | assumption | rfl) ?_ | (refine w_guard rfl rfl rfl ?_ ?_ <;> (intro h; (try (have hp := of_decide_eq_true h)); (try (have hp := of_decide_eq_false h)); (try contradiction); (try (exfalso; omega)))) | refine w_box rfl rfl (by first|(dsimp only[obA,obB,obD,obE,obF,obG,obI,List.map,AO.sh,AV.sh,AV.shl,Nat.reduceAdd];done)|exact rfl) (by first|(dsimp only[obA,obB,obD,obE,obF,obG,obI,List.map,AO.sh,AV.sh,AV.shl,Nat.reduceAdd];done)|exact rfl) rfl ?_ | (((first | apply w_q); (focus (refine Q_call (.inl ⟨rfl, rfl⟩) (In_ac s i (by omega) (by omega)) ?_; ((repeat' (first | exact vwRL rfl)); done))); (focus exact rfl))) | (((first | apply w_q); (focus (refine Q_call (.inl ⟨rfl, rfl⟩) (Inside_ac (ns.getD i 0) s (by omega) (by omega)) ?_; ((repeat' (first | exact vwRL rfl)); done))); (focus exact rfl))))); (try all_goals (try show retA _ _ _ _ _ _ _))
  all_goals
    refine ⟨[_], [], ⟨resV_tmp (by conv => lhs; whnf), trivial⟩, VwOs.mk (by decide) trivial, ?_, rfl⟩
    exact Vw.bool' (by rw [hm]; simp_all)
set_option maxHeartbeats 1000000 in
theorem RRows_ac (n : Nat) (ns : List Nat) (hn : n ≤ 10) (hv : Vld n ns) : AC Tryd.prog 30 [ordv n (nl ns)] [] (.own 0) [.row 3 1 (intc (nl (tbl n (mayO ns) 0)))] := by
  have hpn := p2_10 hn
  have hpos : 0 < 2 ^ n := Nat.pow_pos (by decide)
  have hst := (tbl_nil n (mayO ns)).symm
  refine AC.mk (n := 51) (fn := Tryd.f30) Tryd.func30 (by kernel_rfl) rfl rfl rfl rfl (fun cx => ?_); dsimp only [argv, Nat.reduceAdd]
  (repeat' (first | refine a_seq ?_ | refine a_block ?_ | refine a_region ?_ | refine l_nil ?_ | (apply w_q; (focus (first | exact Q_assign (by conv => lhs; whnf) | exact Q_fieldAddr_ptr rfl KFl.h | exact Q_load_ptr rfl rfl rfl KSc.h | exact Q_sub rfl rfl (by omega))); (focus exact rfl)) | refine w_box rfl rfl (by first|(dsimp only[obA,obB,obD,obE,obF,obG,obI,List.map,AO.sh,AV.sh,AV.shl,Nat.reduceAdd];done)|exact rfl) (by first|(dsimp only[obA,obB,obD,obE,obF,obG,obI,List.map,AO.sh,AV.sh,AV.shl,Nat.reduceAdd];done)|exact rfl) rfl ?_ | refine w_mk_nats rfl rfl rfl KSl.h KMk.h (by omega) (by first|(dsimp only[obA,obB,obD,obE,obF,obG,obI,List.map,AO.sh,AV.sh,AV.shl,Nat.reduceAdd];done)|exact rfl) (by first|(dsimp only[obA,obB,obD,obE,obF,obG,obI,List.map,AO.sh,AV.sh,AV.shl,Nat.reduceAdd];done)|exact rfl) rfl ?_ | (((first | apply w_q); (focus (refine Q_call (.inl ⟨rfl, rfl⟩) (Bit_ac n (by omega)) ?_; ((repeat' (first | exact vwRL rfl)); done))); (focus exact rfl))))); (try all_goals (try show retA _ _ _ _ _ _ _))
  refine w_loop (X := Nat) [1, 3] (by simp only [keepv, getv_cons, Nat.reduceEqDiff, ↓reduceIte]; exact rfl) (fun k => [(4, .val (.int .i64 ((k : Int) - 1)))]) (fun k => [.box [.val (.int .i64 n), ints (nl ns)], .row 3 1 (intc (nl (tbl n (mayO ns) k)))]) (fun k => k ≤ 2 ^ n) (fun k => k) (2 ^ n) ([0, 1]) ?_ ?_ rfl ?_ <;> (try dsimp only [List.cons_append, List.nil_append])
  · exact Nat.le_refl _
  · rw [hst]
    (refine St.le_mk rfl (VwOs.mk (by decide) ?_) ?_ <;> (repeat' (first | exact trivial | exact vwR rfl | exact Vw.ro _ | exact Vw.own _ _ rfl | exact Vw.ptr _ _ _ rfl | exact VwO.row _ _ _ | refine VwO.box' ?_ | refine ⟨⟨_, rfl, ?_⟩, ?_⟩ | refine ⟨?_, ?_⟩ )))
  rintro k hk
  rcases k with _ | s
  · (repeat' (first | refine a_seq ?_ | refine a_ret ?_ | refine a_exit ?_ | refine a_region ?_ | refine l_nil ?_ | (apply w_q; (focus (first | exact Q_move (by conv => lhs; whnf) | exact Q_assign (by conv => lhs; whnf) | exact Q_geq rfl rfl)); (focus exact rfl)) | (refine a_cond rfl ?_ ?_ <;> (intro h; (try (have hp := of_decide_eq_true h)); (try (have hp := of_decide_eq_false h)); (try contradiction); (try (exfalso; omega)))))); (try all_goals (try show retA _ _ _ _ _ _ _))
    all_goals first
      | (exfalso; omega)
      | (refine ⟨[_], [1], ⟨resV_tmp (by conv => lhs; whnf), trivial⟩, VwOs.mk (by decide) ⟨⟨_, rfl, .row _ _ _⟩, trivial⟩, ?_, rfl⟩; (repeat' (first | exact Vw.own _ _ rfl)); done)
  have hs : s < 2 ^ n := by omega
  rw [show (((s + 1 : Nat) : Int) - 1) = (s : Int) by omega]
  have h00 := fun h => tby_zero (n := n) (s := s) (mayO ns) h
  have h01 := tby_full (mayO ns) hpos
  have htl := tbl_len n (mayO ns) (s + 1)
  (repeat' (first | refine a_seq ?_ | refine a_block ?_ | refine a_skip ?_ | refine a_region ?_ | refine l_nil ?_ | (apply w_q; (focus (first | exact Q_move (by conv => lhs; whnf) | exact Q_assign (by conv => lhs; whnf) | exact Q_fieldAddr_ptr rfl KFl.h | exact Q_load_ptr rfl rfl rfl KSc.h | exact Q_geq rfl rfl | exact Q_eql rfl rfl | exact Q_sub rfl rfl (by omega) | exact Q_ix_ownN rfl rfl rfl rfl KSl.h (by omega))); (focus exact rfl)) | (refine a_cond rfl ?_ ?_ <;> (intro h; (try (have hp := of_decide_eq_true h)); (try (have hp := of_decide_eq_false h)); (try contradiction); (try (exfalso; omega)))) | refine w_st_nats rfl rfl rfl KSz.h (by omega) (by first|(dsimp only[obA,obB,obD,obE,obF,obG,obI,List.map,AO.sh,AV.sh,AV.shl,Nat.reduceAdd];done)|exact rfl) ?_ | (((first | apply w_q); (focus (refine Q_call (.inl ⟨rfl, rfl⟩) (Bit_ac n (by omega)) ?_; ((repeat' (first | exact vwRL rfl)); done))); (focus exact rfl))))); (try all_goals (try show retA _ _ _ _ _ _ _))
  all_goals
    refine w_loop (X := Nat) [1, 3, 4] (by simp only [keepv, getv_cons, Nat.reduceEqDiff, ↓reduceIte]; exact rfl) (fun p => [(5, .val (.int .i64 (p : Int)))]) (fun p => [.box [.val (.int .i64 n), ints (nl ns)], .row 3 1 (intc (nl (tby n (mayO ns) s p)))]) (fun p => p ≤ n) (fun p => n - p) (0) ([0, 1]) ?_ ?_ rfl ?_ <;> (try dsimp only [List.cons_append, List.nil_append])
    · exact Nat.zero_le _
    · first
      | (rw [← h00 (by omega)]; (refine St.le_mk rfl (VwOs.mk (by decide) ?_) ?_ <;> (repeat' (first | exact trivial | exact vwR rfl | exact Vw.ro _ | exact Vw.own _ _ rfl | exact Vw.ptr _ _ _ rfl | exact VwO.row _ _ _ | refine VwO.box' ?_ | refine ⟨⟨_, rfl, ?_⟩, ?_⟩ | refine ⟨?_, ?_⟩ ))); done)
      | (obtain rfl : s = 2 ^ n - 1 := by omega
         rw [← h01]; (refine St.le_mk rfl (VwOs.mk (by decide) ?_) ?_ <;> (repeat' (first | exact trivial | exact vwR rfl | exact Vw.ro _ | exact Vw.own _ _ rfl | exact Vw.ptr _ _ _ rfl | exact VwO.row _ _ _ | refine VwO.box' ?_ | refine ⟨⟨_, rfl, ?_⟩, ?_⟩ | refine ⟨?_, ?_⟩ ))); done)
    rintro p hp2
    have hY := tby_ok hn (may := (mayO ns)) (fun s p h => mayO_not h) hs hp2
    generalize tby n (mayO ns) s p = Y at *
    have hYl := hY.len
    have hYa := hY.at'
    have hYu := hY.up
    have g4 := p2_10 (n := p) (by omega)
    have hor : p < n → s ||| 2 ^ p < 2 ^ n := fun h => Nat.or_lt_two_pow hs (Nat.pow_lt_pow_right (by decide) h)
    have hmn := @mayO_not ns s p
    have hadd : s.testBit p = false → s + 2 ^ p = s ||| 2 ^ p := fun h => or_addR h (by omega)
    (repeat' (first | refine a_seq ?_ | refine a_block ?_ | refine a_skip ?_ | refine a_exit ?_ | refine a_region ?_ | refine l_nil ?_ | refine q_nil ?_ | ((first | apply w_q | apply w_qq); (focus (first | exact Q_move (by conv => lhs; whnf) | exact Q_assign (by conv => lhs; whnf) | exact Q_fieldAddr_ptr rfl KFl.h | exact Q_load_ptr rfl rfl rfl KSc.h | exact Q_load_all rfl rfl KAg.h | exact Q_lss rfl rfl | exact Q_add rfl rfl (by omega) | exact Q_sub rfl rfl (by omega) | exact Q_ix_ownN rfl rfl rfl rfl KSl.h (by omega) | exact Q_ld_ownN rfl rfl (by omega) KSc.h)); (focus exact rfl)) | (refine a_cond rfl ?_ ?_ <;> (intro h; (try (have hp := of_decide_eq_true h)); (try (have hp := of_decide_eq_false h)); (try contradiction); (try (exfalso; omega)))) | refine a_drawT (id := 11) 13 (by kernel_rfl) (by kernel_rfl) (by simp only [List.take_succ_cons, List.take_zero, List.drop_succ_cons, List.drop_zero]; exact rfl) (by simp only [List.take_succ_cons, List.take_zero, List.drop_succ_cons, List.drop_zero]; exact rfl) ?_ | refine w_st_nats rfl rfl rfl KSz.h (by omega) (by first|(dsimp only[obA,obB,obD,obE,obF,obG,obI,List.map,AO.sh,AV.sh,AV.shl,Nat.reduceAdd];done)|exact rfl) ?_ | (((first | apply w_q | apply w_qq); (focus (refine Q_call (.inl ⟨rfl, rfl⟩) (May_ac n ns s p hn hv (by omega) (by omega)) ?_; ((repeat' (first | exact trivial | exact vwR rfl | exact vwRL rfl | exact Vw.ro _ | refine Vw.agg' ?_ | refine ⟨?_, ?_⟩ )); done))); (focus exact rfl))) | (((first | apply w_qq); (focus (refine Q_call (.inl ⟨rfl, rfl⟩) (Bit_ac p (by omega)) ?_; ((repeat' (first | exact vwRL rfl)); done))); (focus exact rfl))) | (((first | apply w_qq); (focus exact Q_addN rfl rfl (by omega)); (focus exact rfl))) | (((first | apply w_qq); (focus exact Q_ix_ownN (o := s ||| 2 ^ p) rfl rfl rfl (by have := hadd (hmn (by assumption)); omega) KSl.h (by have := hor (by omega); omega)); (focus exact rfl))) | (((first | apply w_qq); (focus exact Q_addN rfl rfl (by have := hYu (by omega) (hmn (by assumption)); omega)); (focus exact rfl))))); (try all_goals (try show retA _ _ _ _ _ _ _))
    · refine ⟨p + 1, [0, 1], ?_, ?_, ?_, rfl⟩ <;> (try dsimp only)
      · omega
      · omega
      · rw [hY.grow (by omega) (by assumption)]
        (refine St.le_mk rfl (VwOs.mk (by decide) ?_) ?_ <;> (repeat' (first | exact trivial | exact vwR rfl | exact Vw.ro _ | exact Vw.own _ _ rfl | exact Vw.ptr _ _ _ rfl | exact VwO.row _ _ _ | refine VwO.box' ?_ | refine ⟨⟨_, rfl, ?_⟩, ?_⟩ | refine ⟨?_, ?_⟩ )))
    · refine ⟨p + 1, [0, 1], ?_, ?_, ?_, rfl⟩ <;> (try dsimp only)
      · omega
      · omega
      · rw [hY.keep (by assumption)]
        (refine St.le_mk rfl (VwOs.mk (by decide) ?_) ?_ <;> (repeat' (first | exact trivial | exact vwR rfl | exact Vw.ro _ | exact Vw.own _ _ rfl | exact Vw.ptr _ _ _ rfl | exact VwO.row _ _ _ | refine VwO.box' ?_ | refine ⟨⟨_, rfl, ?_⟩, ?_⟩ | refine ⟨?_, ?_⟩ )))
    · obtain rfl : p = n := by omega
      refine ⟨s, [0, 1], ?_, ?_, ?_, rfl⟩ <;> (try dsimp only)
      · omega
      · omega
      · rw [← hY.fin rfl]
        (refine St.le_mk rfl (VwOs.mk (by decide) ?_) ?_ <;> (repeat' (first | exact trivial | exact vwR rfl | exact Vw.ro _ | exact Vw.own _ _ rfl | exact Vw.ptr _ _ _ rfl | exact VwO.row _ _ _ | refine VwO.box' ?_ | refine ⟨⟨_, rfl, ?_⟩, ?_⟩ | refine ⟨?_, ?_⟩ )))
end Go.Proofs.YtbgecpjlopdkfaaDoor
