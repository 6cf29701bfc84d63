import Derived.Test.YtgojkabjgagjcaaDoorEngZzs
import Derived.Test.YtgojkabjgagjcaaDoorGr
import Derived.Test.YtgojkabjgagjcaaDoorGc
import Derived.Test.YtgojkabjgagjcaaDoorCd
set_option linter.unusedSimpArgs false
set_option linter.unusedVariables false
set_option linter.unusedSectionVars false
set_option maxRecDepth 20000
namespace Go.Proofs.YtgojkabjgagjcaaDoor
attribute [local irreducible] QOp aL aC qL
theorem mbs_rise {s i j : Nat} (hij : i < j) (hj : j < (mbs s).length) : (mbs s).getD i 0 < (mbs s).getD j 0 := by
  have h := (List.pairwise_lt_range (n := 10)).filter s.testBit
  rw [List.pairwise_iff_getElem] at h
  have hj' : j < (List.filter s.testBit (List.range 10)).length := hj
  have := h i j (Nat.lt_trans hij hj') hj' hij
  unfold mbs
  rw [List.getD_eq_getElem?_getD, List.getD_eq_getElem?_getD, List.getElem?_eq_getElem (Nat.lt_trans hij hj'), List.getElem?_eq_getElem hj']
  exact this
theorem mbs_get {s i : Nat} (hi : i < (mbs s).length) : (mbs s).getD i 0 < 10 ∧ s.testBit ((mbs s).getD i 0) = true := by
  have hi' : i < (List.filter s.testBit (List.range 10)).length := hi
  have := List.mem_filter.1 (List.getElem_mem hi')
  unfold mbs
  rw [List.getD_eq_getElem?_getD, List.getElem?_eq_getElem hi']
  exact ⟨List.mem_range.1 this.1, this.2⟩
theorem mbs_pos {s x : Nat} (hs : s < 1024) (h : s.testBit x = true) : ∃ i, i < (mbs s).length ∧ (mbs s).getD i 0 = x := by
  obtain ⟨i, hi, he⟩ := List.getElem_of_mem ((mbs_mem hs).2 h)
  exact ⟨i, hi, by rw [List.getD_eq_getElem?_getD, List.getElem?_eq_getElem hi]; exact he⟩
/-- Two points stand above one another, or not. -/
def cmp (ns : List Nat) (a b : Nat) : Bool := lt ns a b || lt ns b a
def cnB (ns : List Nat) (c : Bool) (s : Nat) : Bool := (List.range (mbs s).length).all fun i => (List.range i).all fun j => cmp ns ((mbs s).getD i 0) ((mbs s).getD j 0) == c
theorem cn_pos {ns : List Nat} {c : Bool} {s : Nat} : cnB ns c s = true ↔ ∀ i, i < (mbs s).length → ∀ j, j < i → cmp ns ((mbs s).getD i 0) ((mbs s).getD j 0) = c := by
  unfold cnB
  rw [List.all_eq_true]
  constructor
  · intro h i hi j hj
    have := List.all_eq_true.1 (h i (List.mem_range.2 hi)) j (List.mem_range.2 hj)
    exact eq_of_beq this
  · intro h i hi
    rw [List.all_eq_true]
    intro j hj
    rw [h i (List.mem_range.1 hi) j (List.mem_range.1 hj)]
    exact beq_self_eq_true c
theorem cn_iff {ns : List Nat} {c : Bool} {s : Nat} (hs : s < 1024) : cnB ns c s = true ↔ ∀ x y, s.testBit x = true → s.testBit y = true → y < x → cmp ns x y = c := by
  rw [cn_pos]
  constructor
  · intro h x y hx hy hxy
    obtain ⟨i, hi, rfl⟩ := mbs_pos hs hx
    obtain ⟨j, hj, rfl⟩ := mbs_pos hs hy
    rcases Nat.lt_trichotomy j i with h1 | h1 | h1
    · exact h i hi j h1
    · subst h1; omega
    · have := mbs_rise h1 hj; omega
  · intro h i hi j hj
    exact h _ _ (mbs_get hi).2 (mbs_get (Nat.lt_trans hj hi)).2 (mbs_rise hj hi)
theorem anti_all {n : Nat} {ns : List Nat} (hok : okB n ns = true) {s : Nat} (hs : s < 1024) (hsn : s < 2 ^ n) : cnB ns false s = true ↔ ∀ i, i < n → ∀ k, k < n → s.testBit i = true → s.testBit k = true → lt ns i k = false := by
  have hin : ∀ k, s.testBit k = true → k < n := fun k h => by
    rcases Nat.lt_or_ge k n with h1 | h1
    · exact h1
    · rw [Nat.testBit_lt_two_pow (Nat.lt_of_lt_of_le hsn (Nat.pow_le_pow_right (n := 2) (by decide) h1))] at h; cases h
  rw [cn_iff hs]
  constructor
  · intro h i hi k hk h1 h2
    rcases Nat.lt_trichotomy i k with h3 | h3 | h3
    · have := h k i h2 h1 h3
      unfold cmp at this
      rw [Bool.or_eq_false_iff] at this
      exact this.2
    · subst h3; exact okB_irr hok hi
    · have := h i k h1 h2 h3
      unfold cmp at this
      rw [Bool.or_eq_false_iff] at this
      exact this.1
  · intro h x y hx hy _
    unfold cmp
    rw [h x (hin x hx) y (hin y hy) hx hy, h y (hin y hy) x (hin x hx) hy hx]
    rfl
set_option maxHeartbeats 2000000 in
theorem chainOrNot_ac (n : Nat) (ns : List Nat) (s : Nat) (c : Bool) (hn : n ≤ 10) (hv : Vld n ns) (hs : s < 2 ^ n) : AC Tryd.prog 54 [ordv n (nl ns), .val (.int .i64 s), .val (.bool c)] [] (.val (.bool (cnB ns c s))) [] := by
  have hvl := hv.1
  have hpn := p2_10 hn
  have kM := Members_ac s (by omega)
  have hml := mbs_len s
  have hin : ∀ i, i < (mbs s).length → (mbs s).getD i 0 < n := fun i hi => by
    rcases Nat.lt_or_ge ((mbs s).getD i 0) n with h1 | h1
    · exact h1
    · have h := (mbs_get hi).2
      rw [Nat.testBit_lt_two_pow (Nat.lt_of_lt_of_le hs (Nat.pow_le_pow_right (n := 2) (by decide) h1))] at h; cases h
  have hcn := @cn_pos ns c s
  generalize cnB ns c s = r at *
  generalize mbs s = L at *
  refine AC.mk (n := 43) (fn := Tryd.f54) Tryd.func54 (by kernel_rfl) rfl rfl rfl rfl (fun cx => ?_); dsimp only [argv, Nat.reduceAdd]
  (repeat' (first | refine a_seq ?_ | refine a_block ?_ | refine a_region ?_ | refine l_nil ?_ | (apply w_q; (focus (first | exact Q_move (by conv => lhs; whnf) | exact Q_assign (by conv => lhs; whnf) | exact Q_len_nats rfl KSl.h)); (focus exact rfl)) | refine w_box rfl rfl (by first|(dsimp only[obA,obB,obD,obE,obF,obG,obI,List.map,AO.sh,AV.sh,AV.shl,Nat.reduceAdd];done)|exact rfl) (by first|(dsimp only[obA,obB,obD,obE,obF,obG,obI,List.map,AO.sh,AV.sh,AV.shl,Nat.reduceAdd];done)|exact rfl) rfl ?_ | ((refine w_callV (.inl ⟨rfl, rfl⟩) (kM) ?_ (by first | (dsimp only [AV.sh, AV.shl, sh_ints, sh_rows, sh_pairs, sh_ords]; done) | exact rfl) rfl ?_; rotate_left 0; (focus ((repeat' (first | exact trivial | exact Vs.val _ | refine ⟨?_, ?_⟩)); done)); rotate_left 1; all_goals (try (skip)))))); (try all_goals (try show retA _ _ _ _ _ _ _))
  refine w_loop (X := Nat) [2, 3, 7, 14, 15] (by simp only [keepv, getv_cons, Nat.reduceEqDiff, ↓reduceIte]; exact rfl) (fun i => [(16, .val (.int .i64 (i : Int)))]) (fun _ => [.box [.val (.int .i64 n), ints (nl ns)]]) (fun i => i ≤ L.length ∧ ∀ i', i' < i → ∀ j, j < i' → cmp ns (L.getD i' 0) (L.getD j 0) = c) (fun i => L.length - i) (0) ([0]) ?_ ?_ rfl ?_ <;> (try dsimp only [List.cons_append, List.nil_append])
  · exact ⟨Nat.zero_le _, fun i' h => absurd h (Nat.not_lt_zero _)⟩
  · (refine St.le_mk rfl (VwOs.mk (by decide) ?_) ?_ <;> (repeat' (first | exact trivial | exact vwR rfl | exact Vw.ro _ | exact Vw.ptr _ _ _ rfl | refine VwO.box' ?_ | refine ⟨⟨_, rfl, ?_⟩, ?_⟩ | refine ⟨?_, ?_⟩ )))
  rintro i ⟨hi, hall⟩
  by_cases hil : i < L.length
  case neg =>
    have hr : r = true := hcn.2 fun i' hi' => hall i' (by omega)
    rw [hr]
    (repeat' (first | refine a_seq ?_ | refine a_ret ?_ | refine a_exit ?_ | refine a_region ?_ | refine l_nil ?_ | (apply w_q; (focus (first | exact Q_assign (by conv => lhs; whnf) | exact Q_lss rfl rfl)); (focus exact rfl)) | (refine a_cond rfl ?_ ?_ <;> (intro h; (try (have hp := of_decide_eq_true h)); (try (have hp := of_decide_eq_false h)); (try contradiction); (try (exfalso; omega)))))); (try all_goals (try show retA _ _ _ _ _ _ _))
    refine ⟨[_], [], ⟨resV_tmp (by conv => lhs; whnf), trivial⟩, VwOs.mk (by decide) trivial, ?_, rfl⟩
    (repeat' (first | exact vwR rfl))
  have h1 := hin i hil
  have htk : (L.take i).length = i := by rw [List.length_take]; omega
  have hgt : ∀ j, j < i → (L.take i).getD j 0 = L.getD j 0 := fun j hj => by
    rw [List.getD_eq_getElem?_getD, List.getD_eq_getElem?_getD, List.getElem?_take_of_lt hj]
  (repeat' (first | refine a_seq ?_ | refine a_block ?_ | refine a_skip ?_ | refine a_region ?_ | refine l_nil ?_ | (apply w_q; (focus (first | exact Q_move (by conv => lhs; whnf) | exact Q_assign (by conv => lhs; whnf) | exact Q_lss rfl rfl | exact Q_ix_nats rfl rfl rfl KSl.h (by omega) | exact Q_ld_nats rfl (by omega) KSc.h | exact Q_len_nats rfl KSl.h)); (focus exact rfl)) | (refine a_cond rfl ?_ ?_ <;> (intro h; (try (have hp := of_decide_eq_true h)); (try (have hp := of_decide_eq_false h)); (try contradiction); (try (exfalso; omega)))) | (((first | apply w_q); (focus exact Q_sliceHN (k := i) rfl rfl rfl KSl.h (by omega)); (focus exact rfl))))); (try all_goals (try show retA _ _ _ _ _ _ _))
  generalize L.take i = K at *
  refine w_loop (X := Nat) [2, 3, 7, 9, 14, 15, 16, 23, 24] (by simp only [keepv, getv_cons, Nat.reduceEqDiff, ↓reduceIte]; exact rfl) (fun j => [(25, .val (.int .i64 (j : Int)))]) (fun _ => [.box [.val (.int .i64 n), ints (nl ns)]]) (fun j => j ≤ i ∧ ∀ j', j' < j → cmp ns (L.getD i 0) (L.getD j' 0) = c) (fun j => i - j) (0) ([0]) ?_ ?_ rfl ?_ <;> (try dsimp only [List.cons_append, List.nil_append])
  · exact ⟨Nat.zero_le _, fun j' h => absurd h (Nat.not_lt_zero _)⟩
  · (refine St.le_mk rfl (VwOs.mk (by decide) ?_) ?_ <;> (repeat' (first | exact trivial | exact vwR rfl | exact Vw.ro _ | exact Vw.ptr _ _ _ rfl | refine VwO.box' ?_ | refine ⟨⟨_, rfl, ?_⟩, ?_⟩ | refine ⟨?_, ?_⟩ )))
  rintro j ⟨hj, hall2⟩
  by_cases hji : j < i
  case neg =>
    (repeat' (first | refine a_seq ?_ | refine a_exit ?_ | refine a_region ?_ | refine l_nil ?_ | (apply w_q; (focus (first | exact Q_move (by conv => lhs; whnf) | exact Q_lss rfl rfl | exact Q_add rfl rfl (by omega))); (focus exact rfl)) | (refine a_cond rfl ?_ ?_ <;> (intro h; (try (have hp := of_decide_eq_true h)); (try (have hp := of_decide_eq_false h)); (try contradiction); (try (exfalso; omega)))))); (try all_goals (try show retA _ _ _ _ _ _ _))
    refine ⟨i + 1, [0], ?_, ?_, ?_, rfl⟩ <;> (try dsimp only)
    · refine ⟨by omega, fun i' hi' j' hj' => ?_⟩
      by_cases e : i' = i
      · subst e; exact hall2 j' (by omega)
      · exact hall i' (by omega) j' hj'
    · omega
    · (refine St.le_mk rfl (VwOs.mk (by decide) ?_) ?_ <;> (repeat' (first | exact trivial | exact vwR rfl | exact Vw.ro _ | exact Vw.ptr _ _ _ rfl | refine VwO.box' ?_ | refine ⟨⟨_, rfl, ?_⟩, ?_⟩ | refine ⟨?_, ?_⟩ )))
  have h2 := hin j (by omega)
  have h3 := hgt j hji
  have k1 := Lower_ac n ns (L.getD i 0) (L.getD j 0) (by omega) (by omega)
  have k2 := Lower_ac n ns (L.getD j 0) (L.getD i 0) (by omega) (by omega)
  have hcm : cmp ns (L.getD i 0) (L.getD j 0) = (lt ns (L.getD i 0) (L.getD j 0) || lt ns (L.getD j 0) (L.getD i 0)) := rfl
  change AC _ _ _ [] (.val (.bool (lt ns (L.getD i 0) (L.getD j 0)))) [] at k1
  change AC _ _ _ [] (.val (.bool (lt ns (L.getD j 0) (L.getD i 0)))) [] at k2
  generalize hcx : cmp ns (L.getD i 0) (L.getD j 0) = cx' at *
  generalize lt ns (L.getD i 0) (L.getD j 0) = b1 at k1 hcm
  generalize lt ns (L.getD j 0) (L.getD i 0) = b2 at k2 hcm
  rw [← h3] at k1 k2
  by_cases hcc : cx' = c
  · have hnext : ∀ j', j' < j + 1 → cmp ns (L.getD i 0) (L.getD j' 0) = c := fun j' hj' => by
      by_cases e : j' = j
      · subst e; rw [hcx]; exact hcc
      · exact hall2 j' (by omega)
    clear hcx hcn
    cases b1 <;> cases b2 <;> cases c <;> (try (rw [hcm] at hcc; cases hcc; done))
    all_goals
      (repeat' (first | refine a_seq ?_ | refine a_block ?_ | refine a_skip ?_ | refine a_region ?_ | refine l_nil ?_ | (apply w_q; (focus (first | exact Q_move (by conv => lhs; whnf) | exact Q_assign (by conv => lhs; whnf) | exact Q_load_all rfl rfl KAg.h | exact Q_lss rfl rfl | exact Q_neqB rfl rfl KBo.h | exact Q_add rfl rfl (by omega) | exact Q_ix_nats rfl rfl rfl KSl.h (by omega) | exact Q_ld_nats rfl (by omega) KSc.h | exact Q_pick_t rfl rfl (by conv => lhs; whnf) | exact Q_pick_f rfl rfl (by conv => lhs; whnf))); (focus exact rfl)) | (refine a_cond rfl ?_ ?_ <;> (intro h; (try (have hp := of_decide_eq_true h)); (try (have hp := of_decide_eq_false h)); (try contradiction); (try (exfalso; omega)))) | refine w_guard_y rfl rfl rfl (by first | assumption | rfl) ?_ | refine w_guard_n rfl rfl rfl (by first | assumption | rfl) ?_ | (((first | apply w_q); (focus (refine Q_call (.inl ⟨rfl, rfl⟩) (k1) ?_; ((repeat' (first | exact trivial | exact vwR rfl | exact vwRL rfl | exact Vw.ro _ | refine Vw.agg' ?_ | refine ⟨?_, ?_⟩ )); done))); (focus exact rfl))) | (((first | apply w_q); (focus (refine Q_call (.inl ⟨rfl, rfl⟩) (k2) ?_; ((repeat' (first | exact trivial | exact vwR rfl | exact vwRL rfl | exact Vw.ro _ | refine Vw.agg' ?_ | refine ⟨?_, ?_⟩ )); done))); (focus exact rfl))))); (try all_goals (try show retA _ _ _ _ _ _ _))
      refine ⟨j + 1, [0], ?_, ?_, ?_, rfl⟩ <;> (try dsimp only)
      · exact ⟨by omega, hnext⟩
      · omega
      · (refine St.le_mk rfl (VwOs.mk (by decide) ?_) ?_ <;> (repeat' (first | exact trivial | exact vwR rfl | exact Vw.ro _ | exact Vw.ptr _ _ _ rfl | refine VwO.box' ?_ | refine ⟨⟨_, rfl, ?_⟩, ?_⟩ | refine ⟨?_, ?_⟩ )))
  · have hr : r = false := by
      cases hr : r
      · rfl
      · exact absurd (hcx.symm.trans (hcn.1 hr i hil j hji)) hcc
    subst hr
    clear hcx hcn
    cases b1 <;> cases b2 <;> cases c <;> (try (rw [hcm] at hcc; exact absurd rfl hcc; done))
    all_goals
      (repeat' (first | refine a_seq ?_ | refine a_block ?_ | refine a_skip ?_ | refine a_ret ?_ | refine a_region ?_ | refine l_nil ?_ | (apply w_q; (focus (first | exact Q_move (by conv => lhs; whnf) | exact Q_assign (by conv => lhs; whnf) | exact Q_load_all rfl rfl KAg.h | exact Q_lss rfl rfl | exact Q_neqB rfl rfl KBo.h | exact Q_ix_nats rfl rfl rfl KSl.h (by omega) | exact Q_ld_nats rfl (by omega) KSc.h | exact Q_pick_t rfl rfl (by conv => lhs; whnf) | exact Q_pick_f rfl rfl (by conv => lhs; whnf))); (focus exact rfl)) | (refine a_cond rfl ?_ ?_ <;> (intro h; (try (have hp := of_decide_eq_true h)); (try (have hp := of_decide_eq_false h)); (try contradiction); (try (exfalso; omega)))) | refine w_guard_y rfl rfl rfl (by first | assumption | rfl) ?_ | refine w_guard_n rfl rfl rfl (by first | assumption | rfl) ?_ | (((first | apply w_q); (focus (refine Q_call (.inl ⟨rfl, rfl⟩) (k1) ?_; ((repeat' (first | exact trivial | exact vwR rfl | exact vwRL rfl | exact Vw.ro _ | refine Vw.agg' ?_ | refine ⟨?_, ?_⟩ )); done))); (focus exact rfl))) | (((first | apply w_q); (focus (refine Q_call (.inl ⟨rfl, rfl⟩) (k2) ?_; ((repeat' (first | exact trivial | exact vwR rfl | exact vwRL rfl | exact Vw.ro _ | refine Vw.agg' ?_ | refine ⟨?_, ?_⟩ )); done))); (focus exact rfl))))); (try all_goals (try show retA _ _ _ _ _ _ _))
      refine ⟨[_], [], ⟨resV_tmp (by conv => lhs; whnf), trivial⟩, VwOs.mk (by decide) trivial, ?_, rfl⟩
      (repeat' (first | exact vwR rfl))
end Go.Proofs.YtgojkabjgagjcaaDoor
set_option linter.unusedSimpArgs false
set_option linter.unusedVariables false
set_option linter.unusedSectionVars false
set_option maxRecDepth 20000
namespace Go.Proofs.YtgojkabjgagjcaaDoor
attribute [local irreducible] QOp aL aC qL
theorem count_ac (s : Nat) (hs : s < 1024) : AC Tryd.prog 53 [.val (.int .i64 s)] [] (.val (.int .i64 (pcTo s 10 : Nat))) [] := by
  refine AC.mk (n := 6) (fn := Tryd.f53) Tryd.func53 (by kernel_rfl) rfl rfl rfl rfl (fun cx => ?_); dsimp only [argv, Nat.reduceAdd]
  (repeat' (first | refine a_seq ?_ | refine a_ret ?_ | refine a_region ?_ | refine l_nil ?_ | (apply w_q; (focus (first | exact Q_move (by conv => lhs; whnf) | exact Q_assign (by conv => lhs; whnf))); (focus exact rfl)) | (((first | apply w_q); (focus exact Q_conv (n := ((s : Nat) : Int)) rfl Tryd.underlying3 Tryd.underlying128 (IntWalk.u64_in _ (by omega))); (focus exact rfl))) | (((first | apply w_q); (focus (refine Q_call (.inl ⟨rfl, rfl⟩) (OnesCount_ac s hs) ?_; ((repeat' (first | exact vwRL rfl)); done))); (focus exact rfl))))); (try all_goals (try show retA _ _ _ _ _ _ _))
  refine ⟨[_], [], ⟨resV_tmp (by conv => lhs; whnf), trivial⟩, VwOs.mk (by decide) trivial, ?_, rfl⟩
  (repeat' (first | exact vwR rfl))
theorem Apart_ac (n : Nat) (ns : List Nat) (a b : Nat) (hn : n ≤ 10) (hv : Vld n ns) (ha : a < n) (hb : b < n) : AC Tryd.prog 48 [ordv n (nl ns), .val (.int .i64 a), .val (.int .i64 b)] [] (.val (.bool (decide (a ≠ b) && !cmp ns a b))) [] := by
  have hbd : ∀ x ∈ ns, x ≤ 9223372036854775807 := fun x hx => by have := hv.2 x hx; have := p2_10 hn; omega
  have hvl := hv.1
  have k1 := Less_ac n ns a b (by omega) (by omega) hbd
  have k2 := Less_ac n ns b a (by omega) (by omega) hbd
  change AC _ _ _ [] (.val (.bool (lt ns a b))) [] at k1
  change AC _ _ _ [] (.val (.bool (lt ns b a))) [] at k2
  unfold cmp
  generalize lt ns a b = b1 at *
  generalize lt ns b a = b2 at *
  cases b1 <;> cases b2
  all_goals
    refine AC.mk (n := 24) (fn := Tryd.f48) Tryd.func48 (by kernel_rfl) rfl rfl rfl rfl (fun cx => ?_); dsimp only [argv, Nat.reduceAdd]
    (repeat' (first | refine a_seq ?_ | refine a_ret ?_ | refine a_region ?_ | refine l_nil ?_ | (apply w_q; (focus (first | exact Q_move (by conv => lhs; whnf) | exact Q_assign (by conv => lhs; whnf) | exact Q_load_all rfl rfl KAg.h | exact Q_neq rfl rfl | exact Q_not rfl | exact Q_pick_t rfl (by assumption) (by conv => lhs; whnf) | exact Q_pick_f rfl (by assumption) (by conv => lhs; whnf) | exact Q_pick_t rfl rfl (by conv => lhs; whnf) | exact Q_pick_f rfl rfl (by conv => lhs; whnf))); (focus exact rfl)) | refine w_guard_y rfl rfl rfl (by first | assumption | rfl) ?_ | refine w_guard_n rfl rfl rfl (by first | assumption | rfl) ?_ | (refine w_guard rfl rfl rfl ?_ ?_ <;> (intro h; (try (have hp := of_decide_eq_true h)); (try (have hp := of_decide_eq_false h)); (try contradiction); (try (exfalso; omega)))) | refine w_box rfl rfl (by first|(dsimp only[obA,obB,obD,obE,obF,obG,obI,List.map,AO.sh,AV.sh,AV.shl,Nat.reduceAdd];done)|exact rfl) (by first|(dsimp only[obA,obB,obD,obE,obF,obG,obI,List.map,AO.sh,AV.sh,AV.shl,Nat.reduceAdd];done)|exact rfl) rfl ?_ | (((first | apply w_q); (focus (refine Q_call (.inl ⟨rfl, rfl⟩) (k1) ?_; ((repeat' (first | exact trivial | exact vwR rfl | exact vwRL rfl | exact Vw.ro _ | refine Vw.agg' ?_ | refine ⟨?_, ?_⟩ )); done))); (focus exact rfl))) | (((first | apply w_q); (focus (refine Q_call (.inl ⟨rfl, rfl⟩) (k2) ?_; ((repeat' (first | exact trivial | exact vwR rfl | exact vwRL rfl | exact Vw.ro _ | refine Vw.agg' ?_ | refine ⟨?_, ?_⟩ )); done))); (focus exact rfl))))); (try all_goals (try show retA _ _ _ _ _ _ _))
    all_goals
      refine ⟨[_], [], ⟨resV_tmp (by conv => lhs; whnf), trivial⟩, VwOs.mk (by decide) trivial, ?_, rfl⟩
      exact Vw.bool' (by simp <;> omega)
/-- The least of those with the most points of which something holds. -/
def wdT (P : Nat → Bool) : Nat → Nat
  | 0 => 0
  | k + 1 => if pcTo (wdT P k) 10 < pcTo k 10 ∧ P k = true then k else wdT P k
theorem wdT_lt (P : Nat → Bool) : ∀ k, 0 < k → wdT P k < k
  | 0, h => absurd h (Nat.lt_irrefl _)
  | k + 1, _ => by
    rw [wdT]
    split
    · omega
    · rcases Nat.eq_zero_or_pos k with h | h
      · subst h; exact Nat.zero_lt_one
      · have := wdT_lt P k h; omega
theorem Widest_err (N : Int) (l : List Int) (h : chk N l ≠ 0) : AC Tryd.prog 23 [ordv N l] [] (.tup [.val (.int .i64 0), .val (.int .i64 (chk N l))]) [] := by
  refine AC.mk (n := 31) (fn := Tryd.f23) Tryd.func23 (by kernel_rfl) rfl rfl rfl rfl (fun cx => ?_); dsimp only [argv, Nat.reduceAdd]
  
  (repeat' (first | refine a_seq ?_ | refine a_ret ?_ | refine a_region ?_ | refine l_nil ?_ | (apply w_q; (focus (first | exact Q_move (by conv => lhs; whnf) | exact Q_assign (by conv => lhs; whnf) | exact Q_load_all rfl rfl KAg.h | exact Q_neq rfl rfl)); (focus exact rfl)) | (refine a_cond rfl ?_ ?_ <;> (intro h; (try (have hp := of_decide_eq_true h)); (try (have hp := of_decide_eq_false h)); (try contradiction); (try (exfalso; omega)))) | refine w_box rfl rfl (by first|(dsimp only[obA,obB,obD,obE,obF,obG,obI,List.map,AO.sh,AV.sh,AV.shl,Nat.reduceAdd];done)|exact rfl) (by first|(dsimp only[obA,obB,obD,obE,obF,obG,obI,List.map,AO.sh,AV.sh,AV.shl,Nat.reduceAdd];done)|exact rfl) rfl ?_ | (((first | apply w_q); (focus (refine Q_call (.inl ⟨rfl, rfl⟩) (Check_ac ?_ ?_) ?_; rotate_left 2; (focus ((repeat' (first | exact trivial | exact Vw.val _ | exact Vw.ro _ | refine Vw.agg' ?_ | refine ⟨?_, ?_⟩ )); done)); all_goals (skip))); (focus exact rfl))))); (try all_goals (try show retA _ _ _ _ _ _ _))
  refine ⟨[_, _], [], ⟨resV_tmp (by conv => lhs; whnf), resV_tmp (by conv => lhs; whnf), trivial⟩, VwOs.mk (by decide) trivial, ?_, rfl⟩
  (repeat' (first | exact vwRL rfl | refine Vw.tup' ?_))
theorem Widest_ok (n : Nat) (ns : List Nat) (hn : n ≤ 10) (hv : Vld n ns) (hok : okB n ns = true) : AC Tryd.prog 23 [ordv n (nl ns)] [] (.tup [.val (.int .i64 (wdT (cnB ns false) (2 ^ n) : Nat)), .val (.int .i64 0)]) [] := by
  have h0 := chk_ok hn hv hok
  have hpn := p2_10 hn
  have hpp : 0 < 2 ^ n := Nat.pow_pos (by decide)
  have kC := fun s hs => chainOrNot_ac n ns s false hn hv hs
  have hws : ∀ k, wdT (cnB ns false) (k + 1) = if pcTo (wdT (cnB ns false) k) 10 < pcTo k 10 ∧ cnB ns false k = true then k else wdT (cnB ns false) k := fun k => rfl
  have hwl : ∀ k, k ≤ 2 ^ n → wdT (cnB ns false) k < 2 ^ n := fun k hk => by
    rcases Nat.eq_zero_or_pos k with h | h
    · subst h; exact hpp
    · have := wdT_lt (cnB ns false) k h; omega
  have hw0 : wdT (cnB ns false) 0 = 0 := rfl
  generalize wdT (cnB ns false) = W at *
  generalize cnB ns false = P at *
  refine AC.mk (n := 31) (fn := Tryd.f23) Tryd.func23 (by kernel_rfl) rfl rfl rfl rfl (fun cx => ?_); dsimp only [argv, Nat.reduceAdd]
  (repeat' (first | refine a_seq ?_ | refine a_block ?_ | refine a_skip ?_ | refine a_region ?_ | refine l_nil ?_ | (apply w_q; (focus (first | exact Q_move (by conv => lhs; whnf) | exact Q_assign (by conv => lhs; whnf) | exact Q_fieldAddr_ptr rfl KFl.h | exact Q_load_ptr rfl rfl rfl KSc.h | exact Q_load_all rfl rfl KAg.h | exact Q_neq rfl rfl | exact Q_bit rfl rfl (by omega))); (focus exact rfl)) | (refine a_cond rfl ?_ ?_ <;> (intro h; (try (have hp := of_decide_eq_true h)); (try (have hp := of_decide_eq_false h)); (try contradiction); (try (exfalso; omega)))) | refine w_box rfl rfl (by first|(dsimp only[obA,obB,obD,obE,obF,obG,obI,List.map,AO.sh,AV.sh,AV.shl,Nat.reduceAdd];done)|exact rfl) (by first|(dsimp only[obA,obB,obD,obE,obF,obG,obI,List.map,AO.sh,AV.sh,AV.shl,Nat.reduceAdd];done)|exact rfl) rfl ?_ | (((first | apply w_q); (focus (refine Q_call (.inl ⟨rfl, rfl⟩) (Check_ac ?_ ?_) ?_; rotate_left 2; (focus ((repeat' (first | exact trivial | exact Vw.val _ | exact Vw.ro _ | refine Vw.agg' ?_ | refine ⟨?_, ?_⟩ )); done)); all_goals (skip))); (focus exact rfl))))); (try all_goals (try show retA _ _ _ _ _ _ _))
  generalize 2 ^ n = p2 at *
  refine w_loop (X := Nat) [1, 14] (by simp only [keepv, getv_cons, Nat.reduceEqDiff, ↓reduceIte]; exact rfl) (fun k => [(5, .val (.int .i64 (W k : Nat))), (15, .val (.int .i64 (k : Int)))]) (fun _ => [.box [.val (.int .i64 n), ints (nl ns)]]) (fun k => k ≤ p2) (fun k => p2 - k) (0) ([0]) ?_ ?_ rfl ?_ <;> (try dsimp only [List.cons_append, List.nil_append])
  · exact Nat.zero_le _
  · rw [hw0]
    (refine St.le_mk rfl (VwOs.mk (by decide) ?_) ?_ <;> (repeat' (first | exact trivial | exact vwR rfl | exact Vw.ro _ | exact Vw.ptr _ _ _ rfl | refine VwO.box' ?_ | refine ⟨⟨_, rfl, ?_⟩, ?_⟩ | refine ⟨?_, ?_⟩ )))
  rintro k hk
  by_cases hkp : k < p2
  · have k1 := count_ac k (by omega)
    have hwk := hwl k hk
    have k2 := count_ac (W k) (by omega)
    have k3 := kC k hkp
    have hw1 := hws k
    generalize P k = b at k3 hw1
    generalize pcTo k 10 = c1 at *
    generalize pcTo (W k) 10 = c2 at *
    by_cases hc : c2 < c1
    · cases b
      · rw [if_neg (by simp)] at hw1
        (repeat' (first | refine a_seq ?_ | refine a_block ?_ | refine a_skip ?_ | refine a_region ?_ | refine l_nil ?_ | (apply w_q; (focus (first | exact Q_move (by conv => lhs; whnf) | exact Q_assign (by conv => lhs; whnf) | exact Q_load_all rfl rfl KAg.h | exact Q_lss rfl rfl | exact Q_gtr rfl rfl | exact Q_add rfl rfl (by omega) | exact Q_pick_t rfl (by assumption) (by conv => lhs; whnf))); (focus exact rfl)) | (refine a_cond rfl ?_ ?_ <;> (intro h; (try (have hp := of_decide_eq_true h)); (try (have hp := of_decide_eq_false h)); (try contradiction); (try (exfalso; omega)))) | refine w_guard_y rfl rfl rfl (by first | assumption | rfl) ?_ | (refine w_guard rfl rfl rfl ?_ ?_ <;> (intro h; (try (have hp := of_decide_eq_true h)); (try (have hp := of_decide_eq_false h)); (try contradiction); (try (exfalso; omega)))) | (((first | apply w_q); (focus (refine Q_call (.inl ⟨rfl, rfl⟩) (k1) ?_; ((repeat' (first | exact trivial | exact vwRL rfl | refine ⟨?_, ?_⟩ )); done))); (focus exact rfl))) | (((first | apply w_q); (focus (refine Q_call (.inl ⟨rfl, rfl⟩) (k2) ?_; ((repeat' (first | exact vwRL rfl)); done))); (focus exact rfl))) | (((first | apply w_q); (focus (refine Q_call (.inl ⟨rfl, rfl⟩) (k3) ?_; ((repeat' (first | exact trivial | exact vwR rfl | exact vwRL rfl | exact Vw.ro _ | refine Vw.agg' ?_ | refine ⟨?_, ?_⟩ )); done))); (focus exact rfl))))); (try all_goals (try show retA _ _ _ _ _ _ _))
        refine ⟨k + 1, [0], ?_, ?_, ?_, rfl⟩ <;> (try dsimp only)
        · omega
        · omega
        · rw [hw1]
          (refine St.le_mk rfl (VwOs.mk (by decide) ?_) ?_ <;> (repeat' (first | exact trivial | exact vwR rfl | exact Vw.ro _ | exact Vw.ptr _ _ _ rfl | refine VwO.box' ?_ | refine ⟨⟨_, rfl, ?_⟩, ?_⟩ | refine ⟨?_, ?_⟩ )))
      · rw [if_pos ⟨hc, rfl⟩] at hw1
        (repeat' (first | refine a_seq ?_ | refine a_block ?_ | refine a_skip ?_ | refine a_region ?_ | refine l_nil ?_ | (apply w_q; (focus (first | exact Q_move (by conv => lhs; whnf) | exact Q_assign (by conv => lhs; whnf) | exact Q_load_all rfl rfl KAg.h | exact Q_lss rfl rfl | exact Q_gtr rfl rfl | exact Q_add rfl rfl (by omega) | exact Q_pick_t rfl (by assumption) (by conv => lhs; whnf))); (focus exact rfl)) | (refine a_cond rfl ?_ ?_ <;> (intro h; (try (have hp := of_decide_eq_true h)); (try (have hp := of_decide_eq_false h)); (try contradiction); (try (exfalso; omega)))) | refine w_guard_y rfl rfl rfl (by first | assumption | rfl) ?_ | (refine w_guard rfl rfl rfl ?_ ?_ <;> (intro h; (try (have hp := of_decide_eq_true h)); (try (have hp := of_decide_eq_false h)); (try contradiction); (try (exfalso; omega)))) | (((first | apply w_q); (focus (refine Q_call (.inl ⟨rfl, rfl⟩) (k1) ?_; ((repeat' (first | exact trivial | exact vwRL rfl | refine ⟨?_, ?_⟩ )); done))); (focus exact rfl))) | (((first | apply w_q); (focus (refine Q_call (.inl ⟨rfl, rfl⟩) (k2) ?_; ((repeat' (first | exact vwRL rfl)); done))); (focus exact rfl))) | (((first | apply w_q); (focus (refine Q_call (.inl ⟨rfl, rfl⟩) (k3) ?_; ((repeat' (first | exact trivial | exact vwR rfl | exact vwRL rfl | exact Vw.ro _ | refine Vw.agg' ?_ | refine ⟨?_, ?_⟩ )); done))); (focus exact rfl))))); (try all_goals (try show retA _ _ _ _ _ _ _))
        refine ⟨k + 1, [0], ?_, ?_, ?_, rfl⟩ <;> (try dsimp only)
        · omega
        · omega
        · rw [hw1]
          (refine St.le_mk rfl (VwOs.mk (by decide) ?_) ?_ <;> (repeat' (first | exact trivial | exact vwR rfl | exact Vw.ro _ | exact Vw.ptr _ _ _ rfl | refine VwO.box' ?_ | refine ⟨⟨_, rfl, ?_⟩, ?_⟩ | refine ⟨?_, ?_⟩ )))
    · rw [if_neg (by omega)] at hw1
      (repeat' (first | refine a_seq ?_ | refine a_block ?_ | refine a_skip ?_ | refine a_region ?_ | refine l_nil ?_ | (apply w_q; (focus (first | exact Q_move (by conv => lhs; whnf) | exact Q_assign (by conv => lhs; whnf) | exact Q_lss rfl rfl | exact Q_gtr rfl rfl | exact Q_add rfl rfl (by omega) | exact Q_pick_f rfl (by assumption) (by conv => lhs; whnf))); (focus exact rfl)) | (refine a_cond rfl ?_ ?_ <;> (intro h; (try (have hp := of_decide_eq_true h)); (try (have hp := of_decide_eq_false h)); (try contradiction); (try (exfalso; omega)))) | refine w_guard_n rfl rfl rfl (by first | assumption | rfl) ?_ | (refine w_guard rfl rfl rfl ?_ ?_ <;> (intro h; (try (have hp := of_decide_eq_true h)); (try (have hp := of_decide_eq_false h)); (try contradiction); (try (exfalso; omega)))) | (((first | apply w_q); (focus (refine Q_call (.inl ⟨rfl, rfl⟩) (k1) ?_; ((repeat' (first | exact trivial | exact vwRL rfl | refine ⟨?_, ?_⟩ )); done))); (focus exact rfl))) | (((first | apply w_q); (focus (refine Q_call (.inl ⟨rfl, rfl⟩) (k2) ?_; ((repeat' (first | exact vwRL rfl)); done))); (focus exact rfl))))); (try all_goals (try show retA _ _ _ _ _ _ _))
      refine ⟨k + 1, [0], ?_, ?_, ?_, rfl⟩ <;> (try dsimp only)
      · omega
      · omega
      · rw [hw1]
        (refine St.le_mk rfl (VwOs.mk (by decide) ?_) ?_ <;> (repeat' (first | exact trivial | exact vwR rfl | exact Vw.ro _ | exact Vw.ptr _ _ _ rfl | refine VwO.box' ?_ | refine ⟨⟨_, rfl, ?_⟩, ?_⟩ | refine ⟨?_, ?_⟩ )))
  · obtain rfl : k = p2 := by omega
    (repeat' (first | refine a_seq ?_ | refine a_ret ?_ | refine a_exit ?_ | refine a_region ?_ | refine l_nil ?_ | (apply w_q; (focus (first | exact Q_move (by conv => lhs; whnf) | exact Q_assign (by conv => lhs; whnf) | exact Q_lss rfl rfl)); (focus exact rfl)) | (refine a_cond rfl ?_ ?_ <;> (intro h; (try (have hp := of_decide_eq_true h)); (try (have hp := of_decide_eq_false h)); (try contradiction); (try (exfalso; omega)))))); (try all_goals (try show retA _ _ _ _ _ _ _))
    refine ⟨[_, _], [], ⟨resV_tmp (by conv => lhs; whnf), resV_tmp (by conv => lhs; whnf), trivial⟩, VwOs.mk (by decide) trivial, ?_, rfl⟩
    (repeat' (first | exact vwRL rfl | refine Vw.tup' ?_))
end Go.Proofs.YtgojkabjgagjcaaDoor
