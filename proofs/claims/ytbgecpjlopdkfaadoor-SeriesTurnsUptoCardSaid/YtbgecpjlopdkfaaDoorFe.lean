import Derived.Test.YtbgecpjlopdkfaaDoorFc
set_option linter.unusedSimpArgs false
set_option linter.unusedVariables false
set_option linter.unusedSectionVars false
set_option maxRecDepth 20000
namespace Go.Proofs.YtbgecpjlopdkfaaDoor
attribute [local irreducible] QOp aL aC qL
def trip (ns : List Nat) (i j k : Nat) : Bool := lt ns j k && (lt ns k i && !lt ns j i)

theorem lt_lt {n : Nat} {ns : List Nat} (h : ∀ x ∈ ns, x < 2 ^ n) {a b : Nat} (hl : lt ns a b = true) : a < n := by
  unfold lt at hl
  have hx : ns.getD b 0 < 2 ^ n := by
    rw [List.getD_eq_getElem?_getD]
    cases hk : ns[b]? with
    | none => exact Nat.pow_pos (by decide)
    | some x => exact h x (List.mem_of_getElem? hk)
  rcases Nat.lt_or_ge a n with h1 | h1
  · exact h1
  · rw [Nat.testBit_lt_two_pow (Nat.lt_of_lt_of_le hx (Nat.pow_le_pow_right (by decide) h1))] at hl
    cases hl
theorem lt_lt' {n : Nat} {ns : List Nat} (h : ns.length = n) {a b : Nat} (hl : lt ns a b = true) : b < n := by
  unfold lt at hl
  rcases Nat.lt_or_ge b n with h1 | h1
  · exact h1
  · rw [List.getD_eq_getElem?_getD, List.getElem?_eq_none (by omega)] at hl
    simp at hl

theorem okB_all {n : Nat} {ns : List Nat} (hns : ∀ x ∈ ns, x < 2 ^ n) (h : ∀ i, i < n → (∀ j, j < n → ∀ k, k < n → trip ns i j k = false) ∧ lt ns i i = false) : okB n ns = true := by
  rw [okB, List.all_eq_true]
  intro i hi
  obtain ⟨h1, h2⟩ := h i (List.mem_range.1 hi)
  rw [okRow, h2]
  simp only [Bool.not_false, Bool.true_and, List.all_eq_true]
  intro k hk
  unfold okPair
  cases hki : lt ns k i
  · rfl
  · simp only [Bool.not_true, Bool.false_or, beq_iff_eq]
    rw [ndiff_zero]
    intro j hj
    have h3 := h1 j (lt_lt hns (a := j) (b := k) hj) k (List.mem_range.1 hk)
    unfold trip at h3
    rw [show lt ns j k = true from hj, hki] at h3
    simpa [lt] using h3

end Go.Proofs.YtbgecpjlopdkfaaDoor
set_option linter.unusedSimpArgs false
set_option linter.unusedVariables false
set_option linter.unusedSectionVars false
set_option maxRecDepth 20000
namespace Go.Proofs.YtbgecpjlopdkfaaDoor
attribute [local irreducible] QOp aL aC qL
theorem All1_ac (N : Int) (l : List Int) : AC Tryd.prog 98 [ords [(N, l)]] [] (.val (.int .i64 (chk N l))) [] := by
  refine AC.mk (n := 18) (fn := Tryd.f98) Tryd.func98 (by kernel_rfl) rfl rfl rfl rfl (fun cx => ?_); dsimp only [argv, Nat.reduceAdd]
  (repeat' (first | refine a_seq ?_ | refine a_block ?_ | refine a_region ?_ | refine l_nil ?_ | (apply w_q; (focus (first | exact Q_move (by conv => lhs; whnf) | exact Q_assign (by conv => lhs; whnf) | exact Q_len_ords rfl KSl.h)); (focus exact rfl)))); (try all_goals (try show retA _ _ _ _ _ _ _))
  refine w_loop (X := Nat) [6, 7] (by simp only [keepv, getv_cons, Nat.reduceEqDiff, ↓reduceIte]; exact rfl) (fun k => [(8, .val (.int .i64 (k : Int)))]) (fun _ => []) (fun k => k ≤ 1 ∧ (k = 1 → chk N l = 0)) (fun k => 1 - k) (0) ([]) ?_ ?_ rfl ?_ <;> (try dsimp only [List.cons_append, List.nil_append])
  · exact ⟨Nat.zero_le _, fun h => by omega⟩
  · (refine St.le_mk rfl (VwOs.mk (by decide) ?_) ?_ <;> (repeat' (first | exact trivial | exact vwR rfl | refine ⟨?_, ?_⟩ )))
  rintro k ⟨hk, h0⟩
  (repeat' (first | refine a_seq ?_ | refine a_block ?_ | refine a_skip ?_ | refine a_ret ?_ | refine a_exit ?_ | refine a_region ?_ | refine l_nil ?_ | (apply w_q; (focus (first | exact Q_move (by conv => lhs; whnf) | exact Q_assign (by conv => lhs; whnf) | exact Q_load_all rfl rfl KAg.h | exact Q_lss rfl rfl | exact Q_neq rfl rfl | exact Q_add rfl rfl (by omega) | exact Q_ix_ords rfl rfl rfl KSl.h (by omega) | exact Q_ld_ord rfl (by omega) KAg.h)); (focus exact rfl)) | (refine a_cond rfl ?_ ?_ <;> (intro h; (try (have hp := of_decide_eq_true h)); (try (have hp := of_decide_eq_false h)); (try contradiction); (try (exfalso; omega)))) | refine w_alloc KMk.h (by first|(dsimp only[obA,obB,obD,obE,obF,obG,obI,List.map,AO.sh,AV.sh,AV.shl,Nat.reduceAdd];done)|exact rfl) rfl (by first|(dsimp only[obA,obB,obD,obE,obF,obG,obI,List.map,AO.sh,AV.sh,AV.shl,Nat.reduceAdd];done)|exact rfl) (by first|(dsimp only[obA,obB,obD,obE,obF,obG,obI,List.map,AO.sh,AV.sh,AV.shl,Nat.reduceAdd];done)|exact rfl) rfl ?_ | refine w_store_all rfl rfl rfl rfl rfl KSz.h (by first|(dsimp only[obA,obB,obD,obE,obF,obG,obI,List.map,AO.sh,AV.sh,AV.shl,Nat.reduceAdd];done)|exact rfl) ?_ | (((first | apply w_q); (focus (refine Q_call (.inl ⟨rfl, rfl⟩) (check_ac ?_ ?_) ?_; rotate_left 2; (focus ((repeat' (first | exact trivial | exact Vw.val _ | exact Vw.ro _ | refine Vw.agg' ?_ | refine ⟨?_, ?_⟩ )); done)); all_goals (skip))); (focus exact rfl))))); (try all_goals (try show retA _ _ _ _ _ _ _))
  · refine ⟨[_], [], ⟨resV_tmp (by conv => lhs; whnf), trivial⟩, VwOs.mk (by decide) trivial, ?_, rfl⟩
    obtain rfl : k = 0 := by simp at *; omega
    exact Vw.val _
  · refine ⟨k + 1, [], ?_, ?_, ?_, rfl⟩ <;> (try dsimp only)
    · obtain rfl : k = 0 := by simp at *; omega
      exact ⟨Nat.le_refl _, fun _ => Decidable.not_not.1 hp⟩
    · simp at *; omega
    · (refine St.le_mk rfl (VwOs.mk (by decide) ?_) ?_ <;> (repeat' (first | exact trivial | exact vwR rfl | refine ⟨?_, ?_⟩ )))
  · refine ⟨[_], [], ⟨resV_tmp (by conv => lhs; whnf), trivial⟩, VwOs.mk (by decide) trivial, ?_, rfl⟩
    exact Vw.int' (h0 (by simp at *; omega)).symm
theorem Check_ac (N : Int) (l : List Int) : AC Tryd.prog 52 [.agg [.val (.int .i64 N), ints l]] [] (.val (.int .i64 (chk N l))) [] := by
  refine AC.mk (n := 6) (fn := Tryd.f52) Tryd.func52 (by kernel_rfl) rfl rfl rfl rfl (fun cx => ?_); dsimp only [argv, Nat.reduceAdd]
  (repeat' (first | refine a_seq ?_ | refine a_ret ?_ | refine a_region ?_ | refine l_nil ?_ | (apply w_q; (focus (first | exact Q_assign (by conv => lhs; whnf) | exact Q_load_all rfl rfl KAg.h)); (focus exact rfl)) | refine w_box rfl rfl (by first|(dsimp only[obA,obB,obD,obE,obF,obG,obI,List.map,AO.sh,AV.sh,AV.shl,Nat.reduceAdd];done)|exact rfl) (by first|(dsimp only[obA,obB,obD,obE,obF,obG,obI,List.map,AO.sh,AV.sh,AV.shl,Nat.reduceAdd];done)|exact rfl) rfl ?_ | refine w_lit_ord rfl KSl.h KMk.h (by first|(dsimp only[obA,obB,obD,obE,obF,obG,obI,List.map,AO.sh,AV.sh,AV.shl,Nat.reduceAdd];done)|exact rfl) (by first|(dsimp only[obA,obB,obD,obE,obF,obG,obI,List.map,AO.sh,AV.sh,AV.shl,Nat.reduceAdd];done)|exact rfl) rfl ?_ | (((first | apply w_q); (focus (refine Q_call (.inl ⟨rfl, rfl⟩) (All1_ac ?_ ?_) ?_; rotate_left 2; (focus ((repeat' (first | exact trivial | exact Vw.rowro2 rfl (by decide) (by with_unfolding_all exact rfl) | refine ⟨?_, ?_⟩ )); done)); all_goals (skip))); (focus exact rfl))))); (try all_goals (try show retA _ _ _ _ _ _ _))
  refine ⟨[_], [], ⟨resV_tmp (by conv => lhs; whnf), trivial⟩, VwOs.mk (by decide) trivial, ?_, rfl⟩
  exact Vw.val _
end Go.Proofs.YtbgecpjlopdkfaaDoor
