import Derived.Test.YtbgecpjlopdkfaaDoorFc
set_option linter.unusedSimpArgs false
set_option linter.unusedVariables false
set_option linter.unusedSectionVars false
set_option maxRecDepth 20000
namespace Go.Proofs.YtbgecpjlopdkfaaDoor
attribute [local irreducible] QOp aL aC qL
def trip (ns : List Nat) (i j k : Nat) : Bool := lt ns j k && (lt ns k i && !lt ns j i)

theorem lt_lt {n : Nat} {ns : List Nat} (h : ∀ x ∈ ns, x < 2 ^ n) {a b : Nat} (hl : lt ns a b = true) : a < n := by
  unfold lt at hl
  have hx : ns.getD b 0 < 2 ^ n := by
    rw [List.getD_eq_getElem?_getD]
    cases hk : ns[b]? with
    | none => exact Nat.pow_pos (by decide)
    | some x => exact h x (List.mem_of_getElem? hk)
  rcases Nat.lt_or_ge a n with h1 | h1
  · exact h1
  · rw [Nat.testBit_lt_two_pow (Nat.lt_of_lt_of_le hx (Nat.pow_le_pow_right (by decide) h1))] at hl
    cases hl
theorem lt_lt' {n : Nat} {ns : List Nat} (h : ns.length = n) {a b : Nat} (hl : lt ns a b = true) : b < n := by
  unfold lt at hl
  rcases Nat.lt_or_ge b n with h1 | h1
  · exact h1
  · rw [List.getD_eq_getElem?_getD, List.getElem?_eq_none (by omega)] at hl
    simp at hl

theorem okB_trip {n : Nat} {ns : List Nat} {i j k : Nat} (hi : i < n) (hk : k < n) (h : trip ns i j k = true) : okB n ns = false := by
  simp only [trip, Bool.and_eq_true, Bool.not_eq_true'] at h
  obtain ⟨h1, h2, h3⟩ := h
  refine okB_false hi (okRow_false hk ?_)
  unfold okPair
  rw [h2]
  simp only [Bool.not_true, Bool.false_or]
  rw [beq_eq_false_iff_ne]
  intro h4
  have := ndiff_zero.1 h4 j h1
  unfold lt at h3
  rw [h3] at this
  cases this
theorem okB_refl {n : Nat} {ns : List Nat} {i : Nat} (hi : i < n) (h : lt ns i i = true) : okB n ns = false := okB_false hi (by simp [okRow, h])
theorem okB_all {n : Nat} {ns : List Nat} (hns : ∀ x ∈ ns, x < 2 ^ n) (h : ∀ i, i < n → (∀ j, j < n → ∀ k, k < n → trip ns i j k = false) ∧ lt ns i i = false) : okB n ns = true := by
  rw [okB, List.all_eq_true]
  intro i hi
  obtain ⟨h1, h2⟩ := h i (List.mem_range.1 hi)
  rw [okRow, h2]
  simp only [Bool.not_false, Bool.true_and, List.all_eq_true]
  intro k hk
  unfold okPair
  cases hki : lt ns k i
  · rfl
  · simp only [Bool.not_true, Bool.false_or, beq_iff_eq]
    rw [ndiff_zero]
    intro j hj
    have h3 := h1 j (lt_lt hns (a := j) (b := k) hj) k (List.mem_range.1 hk)
    unfold trip at h3
    rw [show lt ns j k = true from hj, hki] at h3
    simpa [lt] using h3

theorem big_of {n : Nat} {x : Int} (h : 0 ≤ x) : x / 2 ^ n ≠ 0 ↔ ((2 ^ n : Nat) : Int) ≤ x := by
  obtain ⟨m, rfl⟩ := Int.eq_ofNat_of_zero_le h
  have h1 : ((m : Int) / 2 ^ n) = ((m / 2 ^ n : Nat) : Int) := by simp
  rw [h1]
  have hpos : 0 < 2 ^ n := Nat.pow_pos (by decide)
  have h2 : m / 2 ^ n ≠ 0 ↔ 2 ^ n ≤ m := by
    rw [Ne, Nat.div_eq_zero_iff]
    constructor
    · intro h; omega
    · intro h; omega
  constructor
  · intro h3
    have := h2.1 (by omega)
    exact Int.ofNat_le.2 this
  · intro h3
    have := h2.2 (Int.ofNat_le.1 h3)
    omega

set_option maxHeartbeats 2000000 in
theorem CheckOrder_ac (N : Int) (l : List Int) : AC Tryd.prog 16 [.agg [.val (.int .i64 N), ints l]] [] (.val (.int .i64 (chk N l))) [] := by
  by_cases h1 : N < 0 ∨ 10 < N
  · rw [show chk N l = 2 by unfold chk; rw [if_pos h1]]
    refine AC.mk (n := 83) (fn := Tryd.f16) Tryd.func16 (by kernel_rfl) rfl rfl rfl rfl (fun cx => ?_); dsimp only [argv, Nat.reduceAdd]
    (repeat' (first | refine a_seq ?_ | refine a_ret ?_ | refine a_region ?_ | refine l_nil ?_ | ((first | apply w_q); (focus (first | exact Q_move (by conv => lhs; whnf) | exact Q_assign (by conv => lhs; whnf) | exact Q_fieldAddr_ptr rfl KFl.h | exact Q_load_ptr rfl rfl rfl KSc.h | exact Q_lss rfl rfl | exact Q_gtr rfl rfl | exact Q_pick_t rfl (by assumption) (by conv => lhs; whnf) | exact Q_pick_f rfl (by assumption) (by conv => lhs; whnf))); (focus exact rfl)) | (refine a_cond rfl ?_ ?_ <;> (intro h; (try (have hp := of_decide_eq_true h)); (try (have hp := of_decide_eq_false h)); (try contradiction); (try (exfalso; omega)))) | refine w_guard_y rfl rfl rfl (by first | assumption | rfl) ?_ | refine w_guard_n rfl rfl rfl (by first | assumption | rfl) ?_ | ((first | refine w_guard rfl rfl rfl ?_ ?_) <;> (intro h; (try (have hp := of_decide_eq_true h)); (try (have hp := of_decide_eq_false h)); (try contradiction); (try (exfalso; omega)))) | refine w_box rfl rfl (by first|(dsimp only[obA,obB,obD,obE,obF,obG,obI,List.map,AO.sh,AV.sh,AV.shl,Nat.reduceAdd];done)|exact rfl) (by first|(dsimp only[obA,obB,obD,obE,obF,obG,obI,List.map,AO.sh,AV.sh,AV.shl,Nat.reduceAdd];done)|exact rfl) rfl ?_ | (refine ⟨[_], [], ⟨resV_tmp (by conv => lhs; whnf), trivial⟩, VwOs.mk (by decide) trivial, ?_, rfl⟩; exact Vw.val _))); (try all_goals (try show retA _ _ _ _ _ _ _))
  by_cases h2 : (l.length : Int) ≠ N
  · rw [show chk N l = 1 by unfold chk; rw [if_neg h1, if_pos h2]]
    refine AC.mk (n := 83) (fn := Tryd.f16) Tryd.func16 (by kernel_rfl) rfl rfl rfl rfl (fun cx => ?_); dsimp only [argv, Nat.reduceAdd]
    (repeat' (first | refine a_seq ?_ | refine a_skip ?_ | refine a_ret ?_ | refine a_region ?_ | refine l_nil ?_ | ((first | apply w_q); (focus (first | exact Q_move (by conv => lhs; whnf) | exact Q_assign (by conv => lhs; whnf) | exact Q_fieldAddr_ptr rfl KFl.h | exact Q_load_ptr rfl rfl rfl KSc.h | exact Q_lss rfl rfl | exact Q_gtr rfl rfl | exact Q_neq rfl rfl | exact Q_len_ints rfl KSl.h | exact Q_pick_f rfl (by assumption) (by conv => lhs; whnf))); (focus exact rfl)) | (refine a_cond rfl ?_ ?_ <;> (intro h; (try (have hp := of_decide_eq_true h)); (try (have hp := of_decide_eq_false h)); (try contradiction); (try (exfalso; omega)))) | refine w_guard_y rfl rfl rfl (by first | assumption | rfl) ?_ | ((first | refine w_guard rfl rfl rfl ?_ ?_) <;> (intro h; (try (have hp := of_decide_eq_true h)); (try (have hp := of_decide_eq_false h)); (try contradiction); (try (exfalso; omega)))) | refine w_box rfl rfl (by first|(dsimp only[obA,obB,obD,obE,obF,obG,obI,List.map,AO.sh,AV.sh,AV.shl,Nat.reduceAdd];done)|exact rfl) (by first|(dsimp only[obA,obB,obD,obE,obF,obG,obI,List.map,AO.sh,AV.sh,AV.shl,Nat.reduceAdd];done)|exact rfl) rfl ?_ | (refine ⟨[_], [], ⟨resV_tmp (by conv => lhs; whnf), trivial⟩, VwOs.mk (by decide) trivial, ?_, rfl⟩; exact Vw.val _))); (try all_goals (try show retA _ _ _ _ _ _ _))
  obtain ⟨n, rfl⟩ : ∃ n : Nat, N = n := ⟨N.toNat, by omega⟩
  have hn : n ≤ 10 := by omega
  have hl : l.length = n := by omega
  refine AC.mk (n := 83) (fn := Tryd.f16) Tryd.func16 (by kernel_rfl) rfl rfl rfl rfl (fun cx => ?_); dsimp only [argv, Nat.reduceAdd]
  (repeat' (first | refine a_seq ?_ | refine a_block ?_ | refine a_skip ?_ | refine a_region ?_ | refine l_nil ?_ | ((first | apply w_q); (focus (first | exact Q_move (by conv => lhs; whnf) | exact Q_assign (by conv => lhs; whnf) | exact Q_fieldAddr_ptr rfl KFl.h | exact Q_load_ptr rfl rfl rfl KSc.h | exact Q_lss rfl rfl | exact Q_gtr rfl rfl | exact Q_neq rfl rfl | exact Q_len_ints rfl KSl.h | exact Q_pick_f rfl rfl (by conv => lhs; whnf))); (focus exact rfl)) | (refine a_cond rfl ?_ ?_ <;> (intro h; (try (have hp := of_decide_eq_true h)); (try (have hp := of_decide_eq_false h)); (try contradiction); (try (exfalso; omega)))) | refine w_guard_y rfl rfl rfl (by first | assumption | rfl) ?_ | refine w_box rfl rfl (by first|(dsimp only[obA,obB,obD,obE,obF,obG,obI,List.map,AO.sh,AV.sh,AV.shl,Nat.reduceAdd];done)|exact rfl) (by first|(dsimp only[obA,obB,obD,obE,obF,obG,obI,List.map,AO.sh,AV.sh,AV.shl,Nat.reduceAdd];done)|exact rfl) rfl ?_)); (try all_goals (try show retA _ _ _ _ _ _ _))
  refine w_loop (X := Nat) [1] (by simp only [keepv, getv_cons, Nat.reduceEqDiff, ↓reduceIte]; exact rfl) (fun k => [(3, .val (.int .i64 (k : Int)))]) (fun _ => [.box [.val (.int .i64 n), ints l]]) (fun k => k ≤ n ∧ ∀ j, j < k → 0 ≤ l.getD j 0 ∧ l.getD j 0 / 2 ^ n = 0) (fun k => n - k) (0) ([0]) ?_ ?_ rfl ?_ <;> (try dsimp only [List.cons_append, List.nil_append])
  · exact ⟨Nat.zero_le _, fun j hj => by omega⟩
  · (refine St.le_mk rfl (VwOs.mk (by decide) ?_) ?_ <;> (repeat' (first | exact trivial | exact vwR rfl | exact Vw.ro _ | exact Vw.ptr _ _ _ rfl | refine VwO.box' ?_ | refine ⟨⟨_, rfl, ?_⟩, ?_⟩ | refine ⟨?_, ?_⟩ )))
  rintro k ⟨hk, hall⟩
  (repeat' (first | refine a_seq ?_ | refine a_block ?_ | refine a_skip ?_ | refine a_ret ?_ | refine a_exit ?_ | refine a_region ?_ | refine l_nil ?_ | refine q_nil ?_ | ((first | apply w_q | apply w_qq); (focus (first | exact Q_move (by conv => lhs; whnf) | exact Q_assign (by conv => lhs; whnf) | exact Q_fieldAddr_ptr rfl KFl.h | exact Q_load_ptr rfl rfl rfl KSc.h | exact Q_lss rfl rfl | exact Q_geq rfl rfl | exact Q_add rfl rfl (by omega) | exact Q_ix_ints rfl rfl rfl KSl.h (by omega) | exact Q_ld_ints rfl (by omega) KSc.h | exact Q_pick_t rfl (by assumption) (by conv => lhs; whnf) | exact Q_pick_f rfl (by assumption) (by conv => lhs; whnf))); (focus exact rfl)) | (refine a_cond rfl ?_ ?_ <;> (intro h; (try (have hp := of_decide_eq_true h)); (try (have hp := of_decide_eq_false h)); (try contradiction); (try (exfalso; omega)))) | refine w_qguard_y rfl rfl rfl (by first | assumption | rfl) ?_ | refine w_qguard_n rfl rfl rfl (by first | assumption | rfl) ?_ | ((first | refine w_qguard rfl rfl rfl ?_ ?_) <;> (intro h; (try (have hp := of_decide_eq_true h)); (try (have hp := of_decide_eq_false h)); (try contradiction); (try (exfalso; omega)))) | refine a_draw (by kernel_rfl) (by kernel_rfl) ?_ | (((first | apply w_qq); (focus (refine Q_call (.inl ⟨rfl, rfl⟩) (Bit_ac n (by omega)) ?_; ((repeat' (first | exact vwRL rfl)); done))); (focus exact rfl))))); (try all_goals (try show retA _ _ _ _ _ _ _))
  · refine ⟨[_], [], ⟨resV_tmp (by conv => lhs; whnf), trivial⟩, VwOs.mk (by decide) trivial, ?_, rfl⟩
    exact Vw.int' (chk_3 hn hl (by omega) (.inr ((big_of (by omega)).2 hp))).symm
  · refine ⟨k + 1, [0], ?_, ?_, ?_, rfl⟩ <;> (try dsimp only)
    · refine ⟨by omega, fun j hj => ?_⟩
      by_cases hjk : j = k
      · subst hjk
        refine ⟨by omega, ?_⟩
        by_cases h0 : l.getD j 0 / 2 ^ n = 0
        · exact h0
        · exact absurd ((big_of (by omega)).1 h0) hp
      · exact hall j (by omega)
    · omega
    · (refine St.le_mk rfl (VwOs.mk (by decide) ?_) ?_ <;> (repeat' (first | exact trivial | exact vwR rfl | exact Vw.ro _ | exact Vw.ptr _ _ _ rfl | refine VwO.box' ?_ | refine ⟨⟨_, rfl, ?_⟩, ?_⟩ | refine ⟨?_, ?_⟩ )))
  · refine ⟨[_], [], ⟨resV_tmp (by conv => lhs; whnf), trivial⟩, VwOs.mk (by decide) trivial, ?_, rfl⟩
    exact Vw.int' (chk_3 hn hl (by omega) (.inl hp)).symm
  have hkn : k = n := by omega
  subst hkn
  obtain ⟨ns, rfl, hns⟩ := nl_valid hl hall
  have hbd : ∀ x ∈ ns, x ≤ 9223372036854775807 := fun x hx => by
    have := hns x hx
    have h2 : 2 ^ k ≤ 2 ^ 10 := Nat.pow_le_pow_right (by decide) hn
    omega
  have hl' : ns.length = k := by rw [← hl, nl_len]
  rw [chk_nl hn hl' hns]
  refine w_loop (X := Nat) [1] (by simp only [keepv, getv_cons, Nat.reduceEqDiff, ↓reduceIte]; exact rfl) (fun i => [(4, .val (.int .i64 (i : Int)))]) (fun _ => [.box [.val (.int .i64 k), ints (nl ns)]]) (fun i => i ≤ k ∧ ∀ i', i' < i → (∀ j, j < k → ∀ m, m < k → trip ns i' j m = false) ∧ lt ns i' i' = false) (fun i => k - i) (0) ([0]) ?_ ?_ rfl ?_ <;> (try dsimp only [List.cons_append, List.nil_append])
  · exact ⟨Nat.zero_le _, fun j hj => by omega⟩
  · (refine St.le_mk rfl (VwOs.mk (by decide) ?_) ?_ <;> (repeat' (first | exact trivial | exact vwR rfl | exact Vw.ro _ | exact Vw.ptr _ _ _ rfl | refine VwO.box' ?_ | refine ⟨⟨_, rfl, ?_⟩, ?_⟩ | refine ⟨?_, ?_⟩ )))
  rintro i ⟨hi, hi2⟩
  (repeat' (first | refine a_seq ?_ | refine a_block ?_ | refine a_skip ?_ | refine a_ret ?_ | refine a_exit ?_ | refine a_region ?_ | refine l_nil ?_ | ((first | apply w_q); (focus (first | exact Q_move (by conv => lhs; whnf) | exact Q_assign (by conv => lhs; whnf) | exact Q_fieldAddr_ptr rfl KFl.h | exact Q_load_ptr rfl rfl rfl KSc.h | exact Q_lss rfl rfl)); (focus exact rfl)) | (refine a_cond rfl ?_ ?_ <;> (intro h; (try (have hp := of_decide_eq_true h)); (try (have hp := of_decide_eq_false h)); (try contradiction); (try (exfalso; omega)))))); (try all_goals (try show retA _ _ _ _ _ _ _))
  · refine w_loop (X := Nat) [1, 4] (by simp only [keepv, getv_cons, Nat.reduceEqDiff, ↓reduceIte]; exact rfl) (fun j => [(5, .val (.int .i64 (j : Int)))]) (fun _ => [.box [.val (.int .i64 k), ints (nl ns)]]) (fun j => j ≤ k ∧ ∀ j', j' < j → ∀ m, m < k → trip ns i j' m = false) (fun j => k - j) (0) ([0]) ?_ ?_ rfl ?_ <;> (try dsimp only [List.cons_append, List.nil_append])
    · exact ⟨Nat.zero_le _, fun j hj => by omega⟩
    · (refine St.le_mk rfl (VwOs.mk (by decide) ?_) ?_ <;> (repeat' (first | exact trivial | exact vwR rfl | exact Vw.ro _ | exact Vw.ptr _ _ _ rfl | refine VwO.box' ?_ | refine ⟨⟨_, rfl, ?_⟩, ?_⟩ | refine ⟨?_, ?_⟩ )))
    rintro j ⟨hj, hj2⟩
    (repeat' (first | refine a_seq ?_ | refine a_block ?_ | refine a_skip ?_ | refine a_ret ?_ | refine a_exit ?_ | refine a_region ?_ | refine l_nil ?_ | ((first | apply w_q); (focus (first | exact Q_move (by conv => lhs; whnf) | exact Q_assign (by conv => lhs; whnf) | exact Q_fieldAddr_ptr rfl KFl.h | exact Q_load_ptr rfl rfl rfl KSc.h | exact Q_load_all rfl rfl KAg.h | exact Q_lss rfl rfl | exact Q_add rfl rfl (by omega))); (focus exact rfl)) | (refine a_cond rfl ?_ ?_ <;> (intro h; (try (have hp := of_decide_eq_true h)); (try (have hp := of_decide_eq_false h)); (try contradiction); (try (exfalso; omega)))) | (((first | apply w_q); (focus (refine Q_call (.inl ⟨rfl, rfl⟩) (Less_ac ?_ _ ?_ ?_ ?_ ?_ hbd) ?_; rotate_left 5; (focus ((repeat' (first | exact trivial | exact Vw.val _ | exact Vw.ro _ | refine Vw.agg' ?_ | refine ⟨?_, ?_⟩ )); done)); all_goals (omega))); (focus exact rfl))))); (try all_goals (try show retA _ _ _ _ _ _ _))
    · refine w_loop (X := Nat) [1, 4, 5] (by simp only [keepv, getv_cons, Nat.reduceEqDiff, ↓reduceIte]; exact rfl) (fun m => [(6, .val (.int .i64 (m : Int)))]) (fun _ => [.box [.val (.int .i64 k), ints (nl ns)]]) (fun m => m ≤ k ∧ ∀ m', m' < m → trip ns i j m' = false) (fun m => k - m) (0) ([0]) ?_ ?_ rfl ?_ <;> (try dsimp only [List.cons_append, List.nil_append])
      · exact ⟨Nat.zero_le _, fun j hj => by omega⟩
      · (refine St.le_mk rfl (VwOs.mk (by decide) ?_) ?_ <;> (repeat' (first | exact trivial | exact vwR rfl | exact Vw.ro _ | exact Vw.ptr _ _ _ rfl | refine VwO.box' ?_ | refine ⟨⟨_, rfl, ?_⟩, ?_⟩ | refine ⟨?_, ?_⟩ )))
      rintro m ⟨hm, hm2⟩
      (repeat' (first | refine a_seq ?_ | refine a_block ?_ | refine a_skip ?_ | refine a_ret ?_ | refine a_exit ?_ | refine a_region ?_ | refine l_nil ?_ | ((first | apply w_q); (focus (first | exact Q_move (by conv => lhs; whnf) | exact Q_assign (by conv => lhs; whnf) | exact Q_fieldAddr_ptr rfl KFl.h | exact Q_load_ptr rfl rfl rfl KSc.h | exact Q_load_all rfl rfl KAg.h | exact Q_lss rfl rfl | exact Q_add rfl rfl (by omega) | exact Q_not rfl | exact Q_pick_t rfl (by assumption) (by conv => lhs; whnf) | exact Q_pick_f rfl (by assumption) (by conv => lhs; whnf) | exact Q_pick_f rfl rfl (by conv => lhs; whnf))); (focus exact rfl)) | (refine a_cond rfl ?_ ?_ <;> (intro h; (try (have hp := of_decide_eq_true h)); (try (have hp := of_decide_eq_false h)); (try contradiction); (try (exfalso; omega)))) | refine w_guard_y rfl rfl rfl (by first | assumption | rfl) ?_ | refine w_guard_n rfl rfl rfl (by first | assumption | rfl) ?_ | ((first | refine w_guard rfl rfl rfl ?_ ?_) <;> (intro h; (try (have hp := of_decide_eq_true h)); (try (have hp := of_decide_eq_false h)); (try contradiction); (try (exfalso; omega)))) | (((first | apply w_q); (focus (refine Q_call (.inl ⟨rfl, rfl⟩) (Less_ac ?_ _ ?_ ?_ ?_ ?_ hbd) ?_; rotate_left 5; (focus ((repeat' (first | exact trivial | exact Vw.val _ | exact Vw.ro _ | refine Vw.agg' ?_ | refine ⟨?_, ?_⟩ )); done)); all_goals (omega))); (focus exact rfl))))); (try all_goals (try show retA _ _ _ _ _ _ _))
      · refine ⟨[_], [], ⟨resV_tmp (by conv => lhs; whnf), trivial⟩, VwOs.mk (by decide) trivial, ?_, rfl⟩
        refine Vw.int' ?_
        rw [if_neg (by rw [okB_trip (n := k) (i := i) (j := j) (k := m) (by omega) (by omega) (by unfold trip lt; simp only [*]; rfl)]; decide)]
      iterate 3
        · refine ⟨m + 1, [0], ?_, ?_, ?_, rfl⟩ <;> (try dsimp only)
          · refine ⟨by omega, fun m' hm' => ?_⟩
            by_cases hq : m' = m
            · subst hq
              unfold trip lt
              simp only [*]
              rfl
            · exact hm2 m' (by omega)
          · omega
          · (refine St.le_mk rfl (VwOs.mk (by decide) ?_) ?_ <;> (repeat' (first | exact trivial | exact vwR rfl | exact Vw.ro _ | exact Vw.ptr _ _ _ rfl | refine VwO.box' ?_ | refine ⟨⟨_, rfl, ?_⟩, ?_⟩ | refine ⟨?_, ?_⟩ )))
      refine ⟨j + 1, [0], ?_, ?_, ?_, rfl⟩ <;> (try dsimp only)
      · refine ⟨by omega, fun j' hj' m' hm' => ?_⟩
        by_cases hq : j' = j
        · subst hq
          exact hm2 m' (by omega)
        · exact hj2 j' (by omega) m' hm'
      · omega
      · (refine St.le_mk rfl (VwOs.mk (by decide) ?_) ?_ <;> (repeat' (first | exact trivial | exact vwR rfl | exact Vw.ro _ | exact Vw.ptr _ _ _ rfl | refine VwO.box' ?_ | refine ⟨⟨_, rfl, ?_⟩, ?_⟩ | refine ⟨?_, ?_⟩ )))
    · refine ⟨[_], [], ⟨resV_tmp (by conv => lhs; whnf), trivial⟩, VwOs.mk (by decide) trivial, ?_, rfl⟩
      refine Vw.int' ?_
      rw [if_neg (by rw [okB_refl (n := k) (i := i) (by omega) (by unfold lt; assumption)]; decide)]
    · refine ⟨i + 1, [0], ?_, ?_, ?_, rfl⟩ <;> (try dsimp only)
      · refine ⟨by omega, fun i' hi' => ?_⟩
        by_cases hq : i' = i
        · subst hq
          exact ⟨fun j' hj' m' hm' => hj2 j' (by omega) m' hm', by unfold lt; assumption⟩
        · exact hi2 i' (by omega)
      · omega
      · (refine St.le_mk rfl (VwOs.mk (by decide) ?_) ?_ <;> (repeat' (first | exact trivial | exact vwR rfl | exact Vw.ro _ | exact Vw.ptr _ _ _ rfl | refine VwO.box' ?_ | refine ⟨⟨_, rfl, ?_⟩, ?_⟩ | refine ⟨?_, ?_⟩ )))
  · refine ⟨[_], [], ⟨resV_tmp (by conv => lhs; whnf), trivial⟩, VwOs.mk (by decide) trivial, ?_, rfl⟩
    refine Vw.int' ?_
    rw [if_pos (okB_all hns fun i' hi' => hi2 i' (by omega))]
end Go.Proofs.YtbgecpjlopdkfaaDoor
