import Derived.Test.YtbgecpjlopdkfaaDoorSra
set_option linter.unusedSimpArgs false
set_option linter.unusedVariables false
set_option linter.unusedSectionVars false
set_option maxRecDepth 20000
namespace Go.Proofs.YtbgecpjlopdkfaaDoor
attribute [local irreducible] QOp aL aC qL
/-- a is below b. -/
def lt (ns : List Nat) (a b : Nat) : Bool := (ns.getD b 0).testBit a
def okPair (ns : List Nat) (b a : Nat) : Bool := !lt ns a b || ndiff (ns.getD a 0) (ns.getD b 0) == 0
def okRow (N : Nat) (ns : List Nat) (b : Nat) : Bool := !lt ns b b && (List.range N).all (okPair ns b)
/-- No point is below itself, and what is below something below a point is below it. -/
def okB (N : Nat) (ns : List Nat) : Bool := (List.range N).all (okRow N ns)
def chk (N : Int) (l : List Int) : Int :=
  if N < 0 ∨ 10 < N then 2 else if (l.length : Int) ≠ N then 1 else if ∃ x ∈ l, x < 0 ∨ x / 2 ^ N.toNat ≠ 0 then 3 else if okB N.toNat (l.map Int.toNat) then 0 else 4

theorem chk_3 {n : Nat} {l : List Int} (hn : n ≤ 10) (hl : l.length = n) {k : Nat} (hk : k < n) (h : l.getD k 0 < 0 ∨ l.getD k 0 / 2 ^ n ≠ 0) : chk n l = 3 := by
  have hm : l.getD k 0 ∈ l := by
    rw [List.getD_eq_getElem?_getD, List.getElem?_eq_getElem (by omega)]; exact List.getElem_mem _
  unfold chk
  rw [if_neg (by omega), if_neg (by omega), if_pos ⟨_, hm, by simpa using h⟩]

theorem nl_map (ns : List Nat) : (nl ns).map Int.toNat = ns := by
  induction ns with
  | nil => rfl
  | cons x l ih => simp only [nl, List.map_cons, Int.toNat_natCast] at ih ⊢; rw [ih]

theorem chk_nl {n : Nat} {ns : List Nat} (hn : n ≤ 10) (hl : ns.length = n) (h : ∀ x ∈ ns, x < 2 ^ n) : chk n (nl ns) = if okB n ns then 0 else 4 := by
  unfold chk
  rw [if_neg (by omega), if_neg (by rw [nl_len]; omega), if_neg, nl_map]
  · simp
  · rintro ⟨x, hx, h2⟩
    obtain ⟨m, hm, rfl⟩ := List.mem_map.1 hx
    have := h m hm
    simp only [Int.toNat_natCast] at h2
    have h3 : ((m : Int) / 2 ^ n) = ((m / 2 ^ n : Nat) : Int) := by simp
    rw [h3, Nat.div_eq_of_lt this] at h2
    omega

theorem nl_valid {n : Nat} {l : List Int} (hl : l.length = n) (h : ∀ j, j < n → 0 ≤ l.getD j 0 ∧ l.getD j 0 / 2 ^ n = 0) : ∃ ns, l = nl ns ∧ ∀ x ∈ ns, x < 2 ^ n := by
  have h1 : ∀ x ∈ l, 0 ≤ x ∧ x / 2 ^ n = 0 := by
    intro x hx
    obtain ⟨i, hi, rfl⟩ := List.getElem_of_mem hx
    have := h i (by omega)
    rwa [List.getD_eq_getElem?_getD, List.getElem?_eq_getElem hi] at this
  refine ⟨l.map Int.toNat, nl_of (fun x hx => (h1 x hx).1), fun x hx => ?_⟩
  obtain ⟨y, hy, rfl⟩ := List.mem_map.1 hx
  obtain ⟨h2, h3⟩ := h1 y hy
  obtain ⟨m, rfl⟩ := Int.eq_ofNat_of_zero_le h2
  have h4 : ((m : Int) / 2 ^ n) = ((m / 2 ^ n : Nat) : Int) := by simp
  rw [h4] at h3
  have h5 : m / 2 ^ n = 0 := by omega
  have hpos : 0 < 2 ^ n := Nat.pow_pos (by decide)
  simp only [Int.toNat_natCast]
  rcases (Nat.div_eq_zero_iff).1 h5 with h6 | h6
  · omega
  · exact h6

theorem getD_le {n : Nat} {ns : List Nat} (hn : n ≤ 10) (h : ∀ x ∈ ns, x < 2 ^ n) (k : Nat) : ns.getD k 0 < 1024 := by
  rw [List.getD_eq_getElem?_getD]
  cases hk : ns[k]? with
  | none => decide
  | some x =>
    have h1 := h x (List.mem_of_getElem? hk)
    have h2 : 2 ^ n ≤ 2 ^ 10 := Nat.pow_le_pow_right (by decide) hn
    simp only [Option.getD_some]
    omega

theorem okB_false {n : Nat} {ns : List Nat} {b : Nat} (hb : b < n) (h : okRow n ns b = false) : okB n ns = false := by
  rw [okB, List.all_eq_false]
  exact ⟨b, List.mem_range.2 hb, by simp [h]⟩
theorem okRow_false {n : Nat} {ns : List Nat} {b a : Nat} (ha : a < n) (h : okPair ns b a = false) : okRow n ns b = false := by
  rw [okRow, Bool.and_eq_false_iff]
  exact .inr (List.all_eq_false.2 ⟨a, List.mem_range.2 ha, by simp [h]⟩)

set_option maxHeartbeats 1000000 in
theorem check_ac (N : Int) (l : List Int) : AC Tryd.prog 122 [.agg [.val (.int .i64 N), ints l]] [] (.val (.int .i64 (chk N l))) [] := by
  by_cases h1 : N < 0 ∨ 10 < N
  · rw [show chk N l = 2 by unfold chk; rw [if_pos h1]]
    refine AC.mk (n := 74) (fn := Tryd.f122) Tryd.func122 (by kernel_rfl) rfl rfl rfl rfl (fun cx => ?_); dsimp only [argv, Nat.reduceAdd]
    (repeat' (first | refine a_seq ?_ | refine a_ret ?_ | refine a_region ?_ | refine l_nil ?_ | (apply w_q; (focus (first | exact Q_move (by conv => lhs; whnf) | exact Q_assign (by conv => lhs; whnf) | exact Q_fieldAddr_ptr rfl KFl.h | exact Q_load_ptr rfl rfl rfl KSc.h | exact Q_lss rfl rfl | exact Q_gtr rfl rfl | exact Q_pick_t rfl (by assumption) (by conv => lhs; whnf) | exact Q_pick_f rfl (by assumption) (by conv => lhs; whnf))); (focus exact rfl)) | (refine a_cond rfl ?_ ?_ <;> (intro h; (try (have hp := of_decide_eq_true h)); (try (have hp := of_decide_eq_false h)); (try contradiction); (try (exfalso; omega)))) | refine w_guard_y rfl rfl rfl (by first | assumption | rfl) ?_ | refine w_guard_n rfl rfl rfl (by first | assumption | rfl) ?_ | (refine w_guard rfl rfl rfl ?_ ?_ <;> (intro h; (try (have hp := of_decide_eq_true h)); (try (have hp := of_decide_eq_false h)); (try contradiction); (try (exfalso; omega)))) | refine w_box rfl rfl (by first|(dsimp only[obA,obB,obD,obE,obF,obG,obI,List.map,AO.sh,AV.sh,AV.shl,Nat.reduceAdd];done)|exact rfl) (by first|(dsimp only[obA,obB,obD,obE,obF,obG,obI,List.map,AO.sh,AV.sh,AV.shl,Nat.reduceAdd];done)|exact rfl) rfl ?_ | (refine ⟨[_], [], ⟨resV_tmp (by conv => lhs; whnf), trivial⟩, VwOs.mk (by decide) trivial, ?_, rfl⟩; exact Vw.val _))); (try all_goals (try show retA _ _ _ _ _ _ _))
  by_cases h2 : (l.length : Int) ≠ N
  · rw [show chk N l = 1 by unfold chk; rw [if_neg h1, if_pos h2]]
    refine AC.mk (n := 74) (fn := Tryd.f122) Tryd.func122 (by kernel_rfl) rfl rfl rfl rfl (fun cx => ?_); dsimp only [argv, Nat.reduceAdd]
    (repeat' (first | refine a_seq ?_ | refine a_skip ?_ | refine a_ret ?_ | refine a_region ?_ | refine l_nil ?_ | (apply w_q; (focus (first | exact Q_move (by conv => lhs; whnf) | exact Q_assign (by conv => lhs; whnf) | exact Q_fieldAddr_ptr rfl KFl.h | exact Q_load_ptr rfl rfl rfl KSc.h | exact Q_lss rfl rfl | exact Q_gtr rfl rfl | exact Q_neq rfl rfl | exact Q_len_ints rfl KSl.h | exact Q_pick_f rfl (by assumption) (by conv => lhs; whnf))); (focus exact rfl)) | (refine a_cond rfl ?_ ?_ <;> (intro h; (try (have hp := of_decide_eq_true h)); (try (have hp := of_decide_eq_false h)); (try contradiction); (try (exfalso; omega)))) | refine w_guard_y rfl rfl rfl (by first | assumption | rfl) ?_ | (refine w_guard rfl rfl rfl ?_ ?_ <;> (intro h; (try (have hp := of_decide_eq_true h)); (try (have hp := of_decide_eq_false h)); (try contradiction); (try (exfalso; omega)))) | refine w_box rfl rfl (by first|(dsimp only[obA,obB,obD,obE,obF,obG,obI,List.map,AO.sh,AV.sh,AV.shl,Nat.reduceAdd];done)|exact rfl) (by first|(dsimp only[obA,obB,obD,obE,obF,obG,obI,List.map,AO.sh,AV.sh,AV.shl,Nat.reduceAdd];done)|exact rfl) rfl ?_ | (refine ⟨[_], [], ⟨resV_tmp (by conv => lhs; whnf), trivial⟩, VwOs.mk (by decide) trivial, ?_, rfl⟩; exact Vw.val _))); (try all_goals (try show retA _ _ _ _ _ _ _))
  obtain ⟨n, rfl⟩ : ∃ n : Nat, N = n := ⟨N.toNat, by omega⟩
  have hn : n ≤ 10 := by omega
  have hl : l.length = n := by omega
  refine AC.mk (n := 74) (fn := Tryd.f122) Tryd.func122 (by kernel_rfl) rfl rfl rfl rfl (fun cx => ?_); dsimp only [argv, Nat.reduceAdd]
  (repeat' (first | refine a_seq ?_ | refine a_block ?_ | refine a_skip ?_ | refine a_region ?_ | refine l_nil ?_ | (apply w_q; (focus (first | exact Q_move (by conv => lhs; whnf) | exact Q_assign (by conv => lhs; whnf) | exact Q_fieldAddr_ptr rfl KFl.h | exact Q_load_ptr rfl rfl rfl KSc.h | exact Q_lss rfl rfl | exact Q_gtr rfl rfl | exact Q_neq rfl rfl | exact Q_len_ints rfl KSl.h | exact Q_pick_f rfl rfl (by conv => lhs; whnf))); (focus exact rfl)) | (refine a_cond rfl ?_ ?_ <;> (intro h; (try (have hp := of_decide_eq_true h)); (try (have hp := of_decide_eq_false h)); (try contradiction); (try (exfalso; omega)))) | refine w_guard_y rfl rfl rfl (by first | assumption | rfl) ?_ | refine w_box rfl rfl (by first|(dsimp only[obA,obB,obD,obE,obF,obG,obI,List.map,AO.sh,AV.sh,AV.shl,Nat.reduceAdd];done)|exact rfl) (by first|(dsimp only[obA,obB,obD,obE,obF,obG,obI,List.map,AO.sh,AV.sh,AV.shl,Nat.reduceAdd];done)|exact rfl) rfl ?_)); (try all_goals (try show retA _ _ _ _ _ _ _))
  refine w_loop (X := Nat) [1, 24, 25] (by simp only [keepv, getv_cons, Nat.reduceEqDiff, ↓reduceIte]; exact rfl) (fun k => [(26, .val (.int .i64 (k : Int)))]) (fun _ => [.box [.val (.int .i64 n), ints l]]) (fun k => k ≤ n ∧ ∀ j, j < k → 0 ≤ l.getD j 0 ∧ l.getD j 0 / 2 ^ n = 0) (fun k => n - k) (0) ([0]) ?_ ?_ rfl ?_ <;> (try dsimp only [List.cons_append, List.nil_append])
  · exact ⟨Nat.zero_le _, fun j hj => by omega⟩
  · (refine St.le_mk rfl (VwOs.mk (by decide) ?_) ?_ <;> (repeat' (first | exact trivial | exact vwR rfl | exact Vw.ro _ | exact Vw.ptr _ _ _ rfl | refine VwO.box' ?_ | refine ⟨⟨_, rfl, ?_⟩, ?_⟩ | refine ⟨?_, ?_⟩ )))
  rintro k ⟨hk, hall⟩
  (repeat' (first | refine a_seq ?_ | refine a_block ?_ | refine a_skip ?_ | refine a_ret ?_ | refine a_exit ?_ | refine a_region ?_ | refine l_nil ?_ | (apply w_q; (focus (first | exact Q_move (by conv => lhs; whnf) | exact Q_assign (by conv => lhs; whnf) | exact Q_fieldAddr_ptr rfl KFl.h | exact Q_load_ptr rfl rfl rfl KSc.h | exact Q_lss rfl rfl | exact Q_neq rfl rfl | exact Q_add rfl rfl (by omega) | exact Q_ix_ints rfl rfl rfl KSl.h (by omega) | exact Q_ld_ints rfl (by omega) KSc.h | exact Q_len_ints rfl KSl.h | exact Q_pick_t rfl (by assumption) (by conv => lhs; whnf) | exact Q_pick_f rfl (by assumption) (by conv => lhs; whnf))); (focus exact rfl)) | (refine a_cond rfl ?_ ?_ <;> (intro h; (try (have hp := of_decide_eq_true h)); (try (have hp := of_decide_eq_false h)); (try contradiction); (try (exfalso; omega)))) | refine w_guard_y rfl rfl rfl (by first | assumption | rfl) ?_ | refine w_guard_n rfl rfl rfl (by first | assumption | rfl) ?_ | (refine w_guard rfl rfl rfl ?_ ?_ <;> (intro h; (try (have hp := of_decide_eq_true h)); (try (have hp := of_decide_eq_false h)); (try contradiction); (try (exfalso; omega)))) | (((first | apply w_q); (focus exact Q_shr rfl rfl (by omega)); (focus exact rfl))))); (try all_goals (try show retA _ _ _ _ _ _ _))
  · refine ⟨[_], [], ⟨resV_tmp (by conv => lhs; whnf), trivial⟩, VwOs.mk (by decide) trivial, ?_, rfl⟩
    exact Vw.int' (chk_3 hn hl (by omega) (.inr hp)).symm
  · refine ⟨k + 1, [0], ?_, ?_, ?_, rfl⟩ <;> (try dsimp only)
    · refine ⟨by omega, fun j hj => ?_⟩
      by_cases hjk : j = k
      · subst hjk; exact ⟨by omega, by simpa using hp⟩
      · exact hall j (by omega)
    · omega
    · (refine St.le_mk rfl (VwOs.mk (by decide) ?_) ?_ <;> (repeat' (first | exact trivial | exact vwR rfl | exact Vw.ro _ | exact Vw.ptr _ _ _ rfl | refine VwO.box' ?_ | refine ⟨⟨_, rfl, ?_⟩, ?_⟩ | refine ⟨?_, ?_⟩ )))
  · refine ⟨[_], [], ⟨resV_tmp (by conv => lhs; whnf), trivial⟩, VwOs.mk (by decide) trivial, ?_, rfl⟩
    exact Vw.int' (chk_3 hn hl (by omega) (.inl hp)).symm
  have hkn : k = n := by omega
  subst hkn
  obtain ⟨ns, rfl, hns⟩ := nl_valid hl hall
  have hbd := getD_le hn hns
  have hl' : ns.length = k := by rw [← hl, nl_len]
  rw [chk_nl hn hl' hns]
  refine w_loop (X := Nat) [1, 41, 42] (by simp only [keepv, getv_cons, Nat.reduceEqDiff, ↓reduceIte]; exact rfl) (fun b => [(43, .val (.int .i64 (b : Int)))]) (fun _ => [.box [.val (.int .i64 k), ints (nl ns)]]) (fun b => b ≤ k ∧ ∀ j, j < b → okRow k ns j = true) (fun b => k - b) (0) ([0]) ?_ ?_ rfl ?_ <;> (try dsimp only [List.cons_append, List.nil_append])
  · exact ⟨Nat.zero_le _, fun j hj => by omega⟩
  · (refine St.le_mk rfl (VwOs.mk (by decide) ?_) ?_ <;> (repeat' (first | exact trivial | exact vwR rfl | exact Vw.ro _ | exact Vw.ptr _ _ _ rfl | refine VwO.box' ?_ | refine ⟨⟨_, rfl, ?_⟩, ?_⟩ | refine ⟨?_, ?_⟩ )))
  rintro b ⟨hb, hrows⟩
  (repeat' (first | refine a_seq ?_ | refine a_block ?_ | refine a_skip ?_ | refine a_ret ?_ | refine a_exit ?_ | refine a_region ?_ | refine l_nil ?_ | (apply w_q; (focus (first | exact Q_move (by conv => lhs; whnf) | exact Q_assign (by conv => lhs; whnf) | exact Q_fieldAddr_ptr rfl KFl.h | exact Q_load_ptr rfl rfl rfl KSc.h | exact Q_lss rfl rfl | exact Q_eql rfl rfl | exact Q_shrN rfl rfl (by omega) | exact Q_and1 rfl rfl | exact Q_ix_nats rfl rfl rfl KSl.h (by omega) | exact Q_ld_nats rfl (by omega) KSc.h | exact Q_len_nats rfl KSl.h)); (focus exact rfl)) | (refine a_cond rfl ?_ ?_ <;> (intro h; (try (have hp := of_decide_eq_true h)); (try (have hp := of_decide_eq_false h)); (try contradiction); (try (exfalso; omega)))))); (try all_goals (try show retA _ _ _ _ _ _ _))
  · refine ⟨[_], [], ⟨resV_tmp (by conv => lhs; whnf), trivial⟩, VwOs.mk (by decide) trivial, ?_, rfl⟩
    refine Vw.int' ?_
    have : lt ns b b = true := by unfold lt; rw [← bit_dec]; exact h
    rw [okB_false (b := b) (by rw [nl_len] at *; omega) (by simp [okRow, this])]
    rfl
  · have hbk : b < k := by rw [nl_len] at *; omega
    have hbb : lt ns b b = false := by unfold lt; rw [← bit_dec]; exact h
    refine w_loop (X := Nat) [1, 6, 41, 42, 43, 54, 55] (by simp only [keepv, getv_cons, Nat.reduceEqDiff, ↓reduceIte]; exact rfl) (fun a => [(56, .val (.int .i64 (a : Int)))]) (fun _ => [.box [.val (.int .i64 k), ints (nl ns)]]) (fun a => a ≤ k ∧ ∀ j, j < a → okPair ns b j = true) (fun a => k - a) (0) ([0]) ?_ ?_ rfl ?_ <;> (try dsimp only [List.cons_append, List.nil_append])
    · exact ⟨Nat.zero_le _, fun j hj => by omega⟩
    · (refine St.le_mk rfl (VwOs.mk (by decide) ?_) ?_ <;> (repeat' (first | exact trivial | exact vwR rfl | exact Vw.ro _ | exact Vw.ptr _ _ _ rfl | refine VwO.box' ?_ | refine ⟨⟨_, rfl, ?_⟩, ?_⟩ | refine ⟨?_, ?_⟩ )))
    rintro a ⟨ha, hcols⟩
    (repeat' (first | refine a_seq ?_ | refine a_block ?_ | refine a_skip ?_ | refine a_ret ?_ | refine a_exit ?_ | refine a_region ?_ | refine l_nil ?_ | (apply w_q; (focus (first | exact Q_move (by conv => lhs; whnf) | exact Q_assign (by conv => lhs; whnf) | exact Q_lss rfl rfl | exact Q_eql rfl rfl | exact Q_neq rfl rfl | exact Q_add rfl rfl (by omega) | exact Q_shrN rfl rfl (by omega) | exact Q_and1 rfl rfl | exact Q_ix_nats rfl rfl rfl KSl.h (by omega) | exact Q_ld_nats rfl (by omega) KSc.h | exact Q_pick_t rfl (by assumption) (by conv => lhs; whnf) | exact Q_pick_f rfl (by assumption) (by conv => lhs; whnf))); (focus exact rfl)) | (refine a_cond rfl ?_ ?_ <;> (intro h; (try (have hp := of_decide_eq_true h)); (try (have hp := of_decide_eq_false h)); (try contradiction); (try (exfalso; omega)))) | refine w_guard_y rfl rfl rfl (by first | assumption | rfl) ?_ | refine w_guard_n rfl rfl rfl (by first | assumption | rfl) ?_ | (refine w_guard rfl rfl rfl ?_ ?_ <;> (intro h; (try (have hp := of_decide_eq_true h)); (try (have hp := of_decide_eq_false h)); (try contradiction); (try (exfalso; omega)))) | (((first | apply w_q); (focus exact Q_andNotN rfl rfl (Nat.le_of_lt_succ (Nat.lt_of_lt_of_le (hbd _) (by decide))) (Nat.le_of_lt_succ (Nat.lt_of_lt_of_le (hbd _) (by decide)))); (focus exact rfl))))); (try all_goals (try show retA _ _ _ _ _ _ _))
    · refine ⟨[_], [], ⟨resV_tmp (by conv => lhs; whnf), trivial⟩, VwOs.mk (by decide) trivial, ?_, rfl⟩
      refine Vw.int' ?_
      have h3 : okPair ns b a = false := by
        unfold okPair lt
        rw [← bit_dec, decide_eq_true (by assumption)]
        simpa using hp
      rw [okB_false hbk (okRow_false (a := a) (by omega) h3)]
      rfl
    · refine ⟨a + 1, [0], ?_, ?_, ?_, rfl⟩ <;> (try dsimp only)
      · refine ⟨by omega, fun j hj => ?_⟩
        by_cases hja : j = a
        · subst hja
          unfold okPair
          have : ndiff (ns.getD j 0) (ns.getD b 0) = 0 := by omega
          rw [this]
          simp
        · exact hcols j (by omega)
      · omega
      · (refine St.le_mk rfl (VwOs.mk (by decide) ?_) ?_ <;> (repeat' (first | exact trivial | exact vwR rfl | exact Vw.ro _ | exact Vw.ptr _ _ _ rfl | refine VwO.box' ?_ | refine ⟨⟨_, rfl, ?_⟩, ?_⟩ | refine ⟨?_, ?_⟩ )))
    · refine ⟨a + 1, [0], ?_, ?_, ?_, rfl⟩ <;> (try dsimp only)
      · refine ⟨by omega, fun j hj => ?_⟩
        by_cases hja : j = a
        · subst hja
          unfold okPair lt
          rw [← bit_dec, decide_eq_false hp]
          rfl
        · exact hcols j (by omega)
      · omega
      · (refine St.le_mk rfl (VwOs.mk (by decide) ?_) ?_ <;> (repeat' (first | exact trivial | exact vwR rfl | exact Vw.ro _ | exact Vw.ptr _ _ _ rfl | refine VwO.box' ?_ | refine ⟨⟨_, rfl, ?_⟩, ?_⟩ | refine ⟨?_, ?_⟩ )))
    · refine ⟨b + 1, [0], ?_, ?_, ?_, rfl⟩ <;> (try dsimp only)
      · refine ⟨by omega, fun j hj => ?_⟩
        by_cases hjb : j = b
        · subst hjb
          unfold okRow
          rw [hbb]
          simp only [Bool.not_false, Bool.true_and, List.all_eq_true]
          intro i hi
          exact hcols i (by have := List.mem_range.1 hi; omega)
        · exact hrows j (by omega)
      · omega
      · (refine St.le_mk rfl (VwOs.mk (by decide) ?_) ?_ <;> (repeat' (first | exact trivial | exact vwR rfl | exact Vw.ro _ | exact Vw.ptr _ _ _ rfl | refine VwO.box' ?_ | refine ⟨⟨_, rfl, ?_⟩, ?_⟩ | refine ⟨?_, ?_⟩ )))
  · refine ⟨[_], [], ⟨resV_tmp (by conv => lhs; whnf), trivial⟩, VwOs.mk (by decide) trivial, ?_, rfl⟩
    refine Vw.int' ?_
    rw [if_pos]
    rw [okB, List.all_eq_true]
    intro j hj
    exact hrows j (by rw [nl_len] at *; have := List.mem_range.1 hj; omega)
end Go.Proofs.YtbgecpjlopdkfaaDoor
