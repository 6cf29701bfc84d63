import Derived.Test.YtjepdcfiogjmgaaFw
set_option linter.unusedSimpArgs false
set_option linter.unusedVariables false
set_option maxRecDepth 20000
namespace Go.Proofs.Ytjepdcfiogjmgaa
attribute [local irreducible] QOp aL aC qL
/-- Does a come ahead of b: by the first of the points that one alone has. -/
def lec (a b : Nat) : Bool := (List.range 10).any fun k => !a.testBit k && b.testBit k && (List.range k).all fun i => a.testBit i == b.testBit i
theorem lec_iff {a b : Nat} : lec a b = true ↔ ∃ k, k < 10 ∧ a.testBit k = false ∧ b.testBit k = true ∧ ∀ i, i < k → a.testBit i = b.testBit i := by
  unfold lec
  simp only [List.any_eq_true, List.mem_range, Bool.and_eq_true, Bool.not_eq_true', List.all_eq_true, beq_iff_eq, and_assoc]
theorem lec_irr (a : Nat) : lec a a = false := by
  cases h : lec a a
  · rfl
  · obtain ⟨k, _, h1, h2, _⟩ := lec_iff.1 h
    rw [h1] at h2; cases h2
theorem lec_trans {a b c : Nat} (h1 : lec a b = true) (h2 : lec b c = true) : lec a c = true := by
  obtain ⟨k, k1, k2, k3, k4⟩ := lec_iff.1 h1
  obtain ⟨l, l1, l2, l3, l4⟩ := lec_iff.1 h2
  rcases Nat.lt_trichotomy k l with h | h | h
  · exact lec_iff.2 ⟨k, k1, k2, by rw [← l4 k h]; exact k3, fun i hi => (k4 i hi).trans (l4 i (by omega))⟩
  · subst h; rw [k3] at l2; cases l2
  · exact lec_iff.2 ⟨l, l1, by rw [k4 l h]; exact l2, l3, fun i hi => (k4 i (by omega)).trans (l4 i hi)⟩
theorem xor_low {a b : Nat} (ha : a < 1024) (hb : b < 1024) (h : a ≠ b) : ∃ k, k < 10 ∧ low (a ^^^ b) = 2 ^ k ∧ a.testBit k ≠ b.testBit k ∧ ∀ i, i < k → a.testBit i = b.testBit i := by
  have hlt : a ^^^ b < 2 ^ 10 := Nat.xor_lt_two_pow ha hb
  have hne : a ^^^ b ≠ 0 := fun h0 => h (by
    apply Nat.eq_of_testBit_eq
    intro i
    have := congrArg (·.testBit i) h0
    simp only [Nat.testBit_xor, Nat.zero_testBit] at this
    cases ha : a.testBit i <;> cases hb : b.testBit i <;> rw [ha, hb] at this <;> first | rfl | cases this)
  obtain ⟨k, h1, h2, h3⟩ := low_pow (Nat.pos_of_ne_zero hne) (Nat.lt_trans hlt (by decide))
  refine ⟨k, ?_, h1, ?_, fun i hi => ?_⟩
  · rcases Nat.lt_or_ge k 10 with hk | hk
    · exact hk
    · rw [Nat.testBit_lt_two_pow (Nat.lt_of_lt_of_le hlt (Nat.pow_le_pow_right (by decide) hk))] at h2; cases h2
  · intro he
    rw [Nat.testBit_xor, he, Bool.xor_self] at h2; cases h2
  · have := h3 i hi
    rw [Nat.testBit_xor] at this
    cases ha : a.testBit i <;> cases hb : b.testBit i <;> rw [ha, hb] at this <;> first | rfl | cases this
theorem lec_total {a b : Nat} (ha : a < 1024) (hb : b < 1024) (h : a ≠ b) : lec a b = true ∨ lec b a = true := by
  obtain ⟨k, h1, _, h3, h4⟩ := xor_low ha hb h
  cases hk : a.testBit k
  · refine .inl (lec_iff.2 ⟨k, h1, hk, ?_, h4⟩)
    cases hk2 : b.testBit k
    · rw [hk, hk2] at h3; exact absurd rfl h3
    · rfl
  · refine .inr (lec_iff.2 ⟨k, h1, ?_, hk, fun i hi => (h4 i hi).symm⟩)
    cases hk2 : b.testBit k
    · rfl
    · rw [hk, hk2] at h3; exact absurd rfl h3
theorem lec_asymm {a b : Nat} (h : lec a b = true) : lec b a = false := by
  cases h2 : lec b a
  · rfl
  · have := lec_trans h h2
    rw [lec_irr] at this; cases this
theorem ahead_lec {a b : Nat} (ha : a < 1024) (hb : b < 1024) (h : a ≠ b) : decide (a &&& low (a ^^^ b) = 0) = lec a b := by
  obtain ⟨k, h1, h2, h3, h4⟩ := xor_low ha hb h
  have e : (a &&& 2 ^ k = 0) ↔ a.testBit k = false := by
    constructor
    · intro h0
      have := congrArg (·.testBit k) h0
      simpa [Nat.testBit_and, Nat.testBit_two_pow_self] using this
    · intro h0
      apply Nat.eq_of_testBit_eq
      intro i
      rw [Nat.testBit_and, Nat.testBit_two_pow, Nat.zero_testBit]
      by_cases hi : k = i
      · subst hi; rw [h0, Bool.false_and]
      · simp [hi]
  rw [h2]
  cases hk : a.testBit k
  · rw [decide_eq_true (e.2 hk)]
    refine (lec_iff.2 ⟨k, h1, hk, ?_, h4⟩).symm
    cases hk2 : b.testBit k
    · rw [hk, hk2] at h3; exact absurd rfl h3
    · rfl
  · rw [decide_eq_false (fun h0 => by rw [e.1 h0] at hk; cases hk)]
    symm
    refine lec_asymm (lec_iff.2 ⟨k, h1, ?_, hk, fun i hi => (h4 i hi).symm⟩)
    cases hk2 : b.testBit k
    · rfl
    · rw [hk, hk2] at h3; exact absurd rfl h3
theorem ahead_ac (a b : Nat) (ha : a < 1024) (hb : b < 1024) : AC Try.prog 120 [.val (.int .i64 a), .val (.int .i64 b)] [] (.val (.bool (lec a b))) [] := by
  have hlt : a ^^^ b < 2 ^ 10 := Nat.xor_lt_two_pow ha hb
  have hlow : low (a ^^^ b) ≤ a ^^^ b := by
    unfold low
    split
    · omega
    · exact Nat.and_le_left
  have hal := @ahead_lec a b ha hb
  have hir := lec_irr a
  refine AC.mk (n := 21) (fn := Try.f120) Try.func120 (by kernel_rfl) rfl rfl rfl rfl (fun cx => ?_); dsimp only [argv, Nat.reduceAdd]
  (repeat' (first | refine a_seq ?_ | refine a_block ?_ | refine a_skip ?_ | refine a_ret ?_ | refine a_exit ?_ | refine a_region ?_ | refine l_nil ?_ | (apply w_q; (focus (first | exact Q_move (by conv => lhs; whnf) | exact Q_assign (by conv => lhs; whnf) | exact Q_eql rfl rfl | exact Q_eqlB rfl rfl KBo.h | exact Q_neq rfl rfl | exact Q_neqB rfl rfl KBo.h | exact Q_and1 rfl rfl | exact Q_neg rfl (by omega) | exact Q_eqlP rfl rfl inferInstance | exact Q_neqP rfl rfl inferInstance | exact Q_pick_t rfl (by assumption) (by conv => lhs; whnf) | exact Q_pick_f rfl (by assumption) (by conv => lhs; whnf) | exact Q_pick_t rfl rfl (by conv => lhs; whnf) | exact Q_pick_f rfl rfl (by conv => lhs; whnf))); (focus exact rfl)) | refine w_guard_u rfl rfl rfl ?_ | refine w_guard_y rfl rfl rfl (by first | assumption | rfl) ?_ | refine w_guard_n rfl rfl rfl (by first | assumption | rfl) ?_ | (refine w_guard rfl rfl rfl ?_ ?_ <;> (intro h; (try (have hp := of_decide_eq_true h)); (try (have hp := of_decide_eq_false h)); (try contradiction); (try (exfalso; omega)))) | (((first | apply w_q | apply w_qq); (focus exact Q_xorN rfl rfl (by omega) (by omega)); (focus exact rfl))) | (((first | apply w_q | apply w_qq); (focus exact Q_low rfl rfl rfl (by omega)); (focus exact rfl))) | (((first | apply w_q | apply w_qq); (focus exact Q_andN rfl rfl (by omega) (by omega)); (focus exact rfl))))); (try all_goals (try show retA _ _ _ _ _ _ _))
  · refine ⟨[_], [], ⟨resV_tmp (by conv => lhs; whnf), trivial⟩, VwOs.mk (by decide) trivial, ?_, rfl⟩
    refine Vw.bool' ?_
    by_cases hab : a = b
    · subst hab
      rw [hir]; simp
    · rw [← hal hab, decide_eq_true (show a &&& low (a ^^^ b) = 0 by omega), decide_eq_true (show ¬ (a : Int) = b by omega)]
  · refine ⟨[_], [], ⟨resV_tmp (by conv => lhs; whnf), trivial⟩, VwOs.mk (by decide) trivial, ?_, rfl⟩
    refine Vw.bool' ?_
    by_cases hab : a = b
    · subst hab
      rw [hir]
    · rw [← hal hab, decide_eq_false (show ¬ a &&& low (a ^^^ b) = 0 by omega)]
theorem Closure_ac (t m : Nat) (ns : List Nat) (s : Nat) (hc : Ctx t m ns) (hs : s ≤ 9223372036854775807) : AC Try.prog 119 [ctx t m (nl ns), .val (.int .i64 s)] [] (.val (.int .i64 (marksN m ns (thingsN ns s) : Nat))) [] := by
  have hth : thingsN ns s < 1024 := Nat.lt_of_lt_of_le (thingsTo_lt ns s ns.length) (by rw [hc.len]; exact pow10 hc.ht)
  refine AC.mk (n := 10) (fn := Try.f119) Try.func119 (by kernel_rfl) rfl rfl rfl rfl (fun cx => ?_); dsimp only [argv, Nat.reduceAdd]
  (repeat' (first | refine a_seq ?_ | refine a_block ?_ | refine a_skip ?_ | refine a_ret ?_ | refine a_exit ?_ | refine a_region ?_ | refine l_nil ?_ | refine q_nil ?_ | ((first | apply w_q | apply w_qq); (focus (first | exact Q_move (by conv => lhs; whnf) | exact Q_assign (by conv => lhs; whnf) | exact Q_load_ptr rfl rfl rfl KSc.h | exact Q_load_all rfl rfl KAg.h | exact Q_ld_rpa rfl KAg.h rfl rfl (by first | (dsimp only [List.drop_zero, List.drop_succ_cons, List.take_succ_cons, List.take_zero, List.map, ofD]; done) | exact rfl) | exact Q_ld_rv rfl rfl KSc.h | exact Q_ld_rs rfl rfl KSc.h | exact Q_ld_nats rfl (by omega) KSc.h | exact Q_ld_ints rfl (by omega) KSc.h | exact Q_ld_ownN rfl rfl (by omega) KSc.h | exact Q_ld_own rfl rfl (by omega) KSc.h | exact Q_ld_rows rfl (by omega) KSc.h | exact Q_ld_pair1N rfl (by omega) KSc.h | exact Q_ld_pair2N rfl (by omega) KSc.h | exact Q_ld_pair1 rfl (by omega) KSc.h | exact Q_ld_pair2 rfl (by omega) KSc.h | exact Q_ld_pairN rfl (by omega) KAg.h | exact Q_ld_pair rfl (by omega) KAg.h | exact Q_ld_ord rfl (by omega) KAg.h | exact Q_ld_ownb rfl rfl (by omega) KSc.h)); (focus exact rfl)) | refine a_draw (by kernel_rfl) (by kernel_rfl) ?_ | refine w_box rfl rfl (by first|(dsimp only[obA,obB,obD,obE,obF,obG,obI,List.map,AO.sh,AV.sh,AV.shl,Nat.reduceAdd];done)|exact rfl) (by first|(dsimp only[obA,obB,obD,obE,obF,obG,obI,List.map,AO.sh,AV.sh,AV.shl,Nat.reduceAdd];done)|exact rfl) rfl ?_ | refine w_box1 (by conv => lhs; whnf) rfl rfl (by first|(dsimp only[obA,obB,obD,obE,obF,obG,obI,List.map,AO.sh,AV.sh,AV.shl,Nat.reduceAdd];done)|exact rfl) (by first|(dsimp only[obA,obB,obD,obE,obF,obG,obI,List.map,AO.sh,AV.sh,AV.shl,Nat.reduceAdd];done)|exact rfl) rfl ?_ | (((first | apply w_q | apply w_qq); (focus (refine Q_call (.inl ⟨rfl, rfl⟩) (things_ac t m ns s hc hs) ?_; ((repeat' (first | exact trivial | exact vwR rfl | exact vwRL rfl | exact Vw.val _ | exact Vw.ro _ | exact Vw.any _ | exact Vw.valro _ | exact Vw.own _ _ rfl | exact Vw.ptr _ _ _ rfl | exact Vw.rpt _ _ | exact Vw.nilro _ | exact Vw.rowro _ _ _ _ rfl (by decide) | exact Vw.rowro2 rfl (by decide) (by with_unfolding_all exact rfl) | refine Vw.agg' ?_ | refine Vw.tup' ?_ | refine Vw.clo' ?_ | refine Vw.boxrpt' rfl (by decide) ?_ | exact Nat.le_of_ble_eq_true rfl | refine ⟨?_, ?_⟩ )); done))); (focus exact rfl))) | (((first | apply w_q | apply w_qq); (focus (refine Q_call (.inl ⟨rfl, rfl⟩) (marks_ac t m ns (thingsN ns s) hc (by omega)) ?_; ((repeat' (first | exact trivial | exact vwR rfl | exact vwRL rfl | exact Vw.val _ | exact Vw.ro _ | exact Vw.any _ | exact Vw.valro _ | exact Vw.own _ _ rfl | exact Vw.ptr _ _ _ rfl | exact Vw.rpt _ _ | exact Vw.nilro _ | exact Vw.rowro _ _ _ _ rfl (by decide) | exact Vw.rowro2 rfl (by decide) (by with_unfolding_all exact rfl) | refine Vw.agg' ?_ | refine Vw.tup' ?_ | refine Vw.clo' ?_ | refine Vw.boxrpt' rfl (by decide) ?_ | exact Nat.le_of_ble_eq_true rfl | refine ⟨?_, ?_⟩ )); done))); (focus exact rfl))))); (try all_goals (try show retA _ _ _ _ _ _ _))
  refine ⟨[_], [], ⟨resV_tmp (by conv => lhs; whnf), trivial⟩, VwOs.mk (by decide) trivial, ?_, rfl⟩
  exact Vw.val _
def closC (m : Nat) (ns : List Nat) (s : Nat) : Bool := decide (marksN m ns (thingsN ns s) = s)
theorem closed_ac (t m : Nat) (ns : List Nat) (s : Nat) (hc : Ctx t m ns) (hs : s ≤ 9223372036854775807) : AC Try.prog 118 [.val (.int .i64 s), .rpt [.val (.int .i64 t), .val (.int .i64 m), .sl 1 (intc (nl ns))] 0] [] (.val (.bool (closC m ns s))) [] := by
  refine AC.mk (n := 9) (fn := Try.f118) Try.func118 (by kernel_rfl) rfl rfl rfl rfl (fun cx => ?_); dsimp only [argv, Nat.reduceAdd]
  (repeat' (first | refine a_seq ?_ | refine a_block ?_ | refine a_skip ?_ | refine a_ret ?_ | refine a_exit ?_ | refine a_region ?_ | refine l_nil ?_ | (apply w_q; (focus (first | exact Q_move (by conv => lhs; whnf) | exact Q_assign (by conv => lhs; whnf) | exact Q_load_ptr rfl rfl rfl KSc.h | exact Q_load_all rfl rfl KAg.h | exact Q_eql rfl rfl | exact Q_eqlB rfl rfl KBo.h | exact Q_ld_rpa rfl KAg.h rfl rfl (by first | (dsimp only [List.drop_zero, List.drop_succ_cons, List.take_succ_cons, List.take_zero, List.map, ofD]; done) | exact rfl) | exact Q_ld_rv rfl rfl KSc.h | exact Q_ld_rs rfl rfl KSc.h | exact Q_ld_nats rfl (by omega) KSc.h | exact Q_ld_ints rfl (by omega) KSc.h | exact Q_ld_ownN rfl rfl (by omega) KSc.h | exact Q_ld_own rfl rfl (by omega) KSc.h | exact Q_ld_rows rfl (by omega) KSc.h | exact Q_ld_pair1N rfl (by omega) KSc.h | exact Q_ld_pair2N rfl (by omega) KSc.h | exact Q_ld_pair1 rfl (by omega) KSc.h | exact Q_ld_pair2 rfl (by omega) KSc.h | exact Q_ld_pairN rfl (by omega) KAg.h | exact Q_ld_pair rfl (by omega) KAg.h | exact Q_eqlP rfl rfl inferInstance | exact Q_ld_ord rfl (by omega) KAg.h | exact Q_ld_ownb rfl rfl (by omega) KSc.h)); (focus exact rfl)) | (((first | apply w_q | apply w_qq); (focus (refine Q_call (.inl ⟨rfl, rfl⟩) (Closure_ac t m ns s hc hs) ?_; ((repeat' (first | exact trivial | exact vwR rfl | exact vwRL rfl | exact Vw.val _ | exact Vw.ro _ | exact Vw.any _ | exact Vw.valro _ | exact Vw.own _ _ rfl | exact Vw.ptr _ _ _ rfl | exact Vw.rpt _ _ | exact Vw.nilro _ | exact Vw.rowro _ _ _ _ rfl (by decide) | exact Vw.rowro2 rfl (by decide) (by with_unfolding_all exact rfl) | refine Vw.agg' ?_ | refine Vw.tup' ?_ | refine Vw.clo' ?_ | refine Vw.boxrpt' rfl (by decide) ?_ | exact Nat.le_of_ble_eq_true rfl | refine ⟨?_, ?_⟩ )); done))); (focus exact rfl))))); (try all_goals (try show retA _ _ _ _ _ _ _))
  refine ⟨[_], [], ⟨resV_tmp (by conv => lhs; whnf), trivial⟩, VwOs.mk (by decide) trivial, ?_, rfl⟩
  exact Vw.bool' (by unfold closC; congr 1; apply propext; omega)
/-- The first one of a family, if there is one. -/
structure Best (S : Nat → Prop) (o : Option Nat) : Prop where
  nn : o = none → ∀ x, ¬ S x
  sm : ∀ y, o = some y → S y ∧ ∀ x, S x → x = y ∨ lec y x = true
theorem Best.uniq {S : Nat → Prop} {o o' : Option Nat} (h : Best S o) (h' : Best S o') : o = o' := by
  cases o with
  | none => cases o' with
    | none => rfl
    | some y => exact absurd (h'.sm y rfl).1 (h.nn rfl y)
  | some x => cases o' with
    | none => exact absurd (h.sm x rfl).1 (h'.nn rfl x)
    | some y =>
      obtain ⟨h1, h2⟩ := h.sm x rfl
      obtain ⟨h3, h4⟩ := h'.sm y rfl
      rcases h2 y h3 with h5 | h5
      · rw [h5]
      · rcases h4 x h1 with h6 | h6
        · rw [h6]
        · rw [lec_asymm h5] at h6; cases h6
/-- One more. -/
theorem Best.step {S S' : Nat → Prop} {o : Option Nat} {s : Nat} (h : Best S o) (hs : S' s) (hS : ∀ x, S' x ↔ S x ∨ x = s) (hlt : ∀ x, S' x → x < 1024) (hb : ∀ y, o = some y → lec y s = false) : Best S' (some s) := by
  refine ⟨fun h => (by cases h), fun y hy => ?_⟩
  obtain rfl := Option.some.inj hy
  refine ⟨hs, fun x hx => ?_⟩
  rcases (hS x).1 hx with h1 | h1
  · by_cases hxs : x = s
    · exact .inl hxs
    · right
      cases o with
      | none => exact absurd h1 (h.nn rfl x)
      | some y =>
        obtain ⟨h2, h3⟩ := h.sm y rfl
        have h4 := hb y rfl
        have hys : y = s ∨ lec s y = true := by
          by_cases hq : y = s
          · exact .inl hq
          · rcases lec_total (hlt y ((hS y).2 (.inl h2))) (hlt s hs) hq with h5 | h5
            · rw [h4] at h5; cases h5
            · exact .inr h5
        rcases h3 x h1 with h5 | h5 <;> rcases hys with h6 | h6
        · exact absurd (h5.trans h6) hxs
        · rw [h5]; exact h6
        · rw [← h6]; exact h5
        · exact lec_trans h6 h5
  · exact .inl h1
theorem Best.stay {S S' : Nat → Prop} {o : Option Nat} {s : Nat} (h : Best S o) (hS : ∀ x, S x → S' x) (hS' : ∀ x, S' x → S x ∨ x = s) (hb : ¬ S' s ∨ ∃ y, o = some y ∧ (y = s ∨ lec y s = true)) : Best S' o := by
  refine ⟨fun ho x hx => ?_, fun y hy => ?_⟩
  · rcases hS' x hx with h1 | h1
    · exact h.nn ho x h1
    · subst h1
      rcases hb with h2 | ⟨y, h2, _⟩
      · exact h2 hx
      · rw [ho] at h2; cases h2
  · obtain ⟨h1, h2⟩ := h.sm y hy
    refine ⟨hS y h1, fun x hx => ?_⟩
    rcases hS' x hx with h3 | h3
    · exact h2 x h3
    · subst h3
      rcases hb with h4 | ⟨y', h4, h5⟩
      · exact absurd hx h4
      · rw [hy] at h4
        obtain rfl := Option.some.inj h4
        rcases h5 with h5 | h5
        · exact .inl h5.symm
        · exact .inr h5
end Go.Proofs.Ytjepdcfiogjmgaa
