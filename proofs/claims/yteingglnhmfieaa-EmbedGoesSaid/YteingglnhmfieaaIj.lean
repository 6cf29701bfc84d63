/- Where a number stands; the first two words of which one goes into the other; what is kept of several (plain). -/
import Derived.Test.YteingglnhmfieaaIi
set_option linter.unusedSimpArgs false
set_option linter.unusedVariables false
namespace Go.Proofs.Yteingglnhmfieaa
attribute [local irreducible] QOp aL aC qL
theorem Place_ac (l : List Int) (x : Int) (hl : l.length ≤ 9223372036854775807) : AC Try.prog 29 [ints l, .val (.int .i64 x)] [] (.val (.int .i64 (idx (fun y => decide (y = x)) l))) [] := by
  refine AC.mk (n := 19) (fn := Try.f29) Try.func29 (by kernel_rfl) rfl rfl rfl rfl (fun cx => ?_); dsimp only [argv, Nat.reduceAdd]
  (repeat' (first | refine a_seq ?_ | refine a_block ?_ | refine a_skip ?_ | refine a_ret ?_ | refine a_exit ?_ | refine a_region ?_ | refine l_nil ?_ | (apply w_q; (focus (first | exact Q_move (by conv => lhs; whnf) | exact Q_assign (by conv => lhs; whnf) | exact Q_load_ptr rfl rfl rfl KSc.h | exact Q_load_all rfl rfl KAg.h | exact Q_lss rfl rfl | exact Q_eql rfl rfl | exact Q_eqlB rfl rfl KBo.h | exact Q_add rfl rfl (by omega) | exact Q_ix_nats rfl rfl rfl KSl.h (by omega) | exact Q_ix_ints rfl rfl rfl KSl.h (by omega) | exact Q_ix_ownN rfl rfl rfl rfl KSl.h (by omega) | exact Q_ix_own rfl rfl rfl rfl KSl.h (by omega) | exact Q_ix_rows rfl rfl rfl KSl.h (by omega) | exact Q_ix_pairsN rfl rfl rfl KSl.h (by omega) | exact Q_ix_pairs rfl rfl rfl KSl.h (by omega) | exact Q_ix_ords rfl rfl rfl KSl.h (by omega) | exact Q_ix_ownb rfl rfl rfl rfl KSl.h (by omega) | exact Q_ix_arr rfl rfl rfl KAr.h (by first | decide | omega) | exact Q_ix_arp rfl rfl rfl KAr.h (by first | decide | omega) | exact Q_ld_rpa rfl KAg.h rfl rfl (by first | (dsimp only [List.drop_zero, List.drop_succ_cons, List.take_succ_cons, List.take_zero, List.map, ofD]; done) | exact rfl) | exact Q_ld_rv rfl rfl KSc.h | exact Q_ld_rs rfl rfl KSc.h | exact Q_ld_nats rfl (by omega) KSc.h | exact Q_ld_ints rfl (by omega) KSc.h | exact Q_ld_ownN rfl rfl (by omega) KSc.h | exact Q_ld_own rfl rfl (by omega) KSc.h | exact Q_ld_rows rfl (by omega) KSc.h | exact Q_ld_pair1N rfl (by omega) KSc.h | exact Q_ld_pair2N rfl (by omega) KSc.h | exact Q_ld_pair1 rfl (by omega) KSc.h | exact Q_ld_pair2 rfl (by omega) KSc.h | exact Q_ld_pairN rfl (by omega) KAg.h | exact Q_ld_pair rfl (by omega) KAg.h | exact Q_eqlP rfl rfl inferInstance | exact Q_ld_ord rfl (by omega) KAg.h | exact Q_ld_ownb rfl rfl (by omega) KSc.h | exact Q_len_nats rfl KSl.h | exact Q_len_ints rfl KSl.h | exact Q_len_ownN rfl rfl KSl.h | exact Q_len_own' rfl rfl KSl.h | exact Q_len_rows rfl KSl.h | exact Q_len_pairsN rfl KSl.h | exact Q_len_pairs rfl KSl.h | exact Q_len_ords rfl KSl.h | exact Q_len_nil' rfl KSl.h | exact Q_len_ownp rfl rfl KSl.h)); (focus exact rfl)) | (refine a_cond rfl ?_ ?_ <;> (intro h; (try (have hp := of_decide_eq_true h)); (try (have hp := of_decide_eq_false h)); (try contradiction); (try (exfalso; omega)))))); (try all_goals (try show retA _ _ _ _ _ _ _))
  (refine w_loop (X := Nat) [0, 1] (by simp only [keepv, getv_cons, Nat.reduceEqDiff, ↓reduceIte]; exact rfl) (fun k => [(5, .val (.int .i64 (k : Int)))]) (fun _ => []) (fun k => k ≤ l.length ∧ ∀ j, j < k → (fun i => ¬ l.getD i 0 = x) j) (fun k => l.length - k) (0) ([]) ?_ ?_ rfl ?_ <;> (try dsimp only [List.cons_append, List.nil_append]); (focus exact ⟨Nat.zero_le _, fun j hj => absurd hj (Nat.not_lt_zero _)⟩); (focus (refine St.le_mk rfl (VwOs.mk (by decide) ?_) ?_ <;> (repeat' (first | exact trivial | exact vwR rfl | exact Vw.val _ | exact Vw.ro _ | exact Vw.any _ | exact Vw.own _ _ rfl | exact Vw.ptr _ _ _ rfl | exact Vw.rpt _ _ | exact Vw.valro _ | exact Vw.nilro _ | exact Vw.rowro _ _ _ _ rfl (by decide) | (refine Vw.int' ?_; first | rfl | omega | (simp; done)) | (refine Vw.bool' ?_; first | rfl | (simp; done)) | refine Vw.agg' ?_ | refine Vw.tup' ?_ | refine Vw.clo' ?_ | exact VwO.row _ _ _ | refine VwO.box' ?_ | exact VwO.gone _ | exact VwO.mat _ _ _ | refine ⟨⟨_, rfl, ?_⟩, ?_⟩ | refine ⟨?_, ?_⟩ )))); rintro k ⟨hk, hall⟩; try dsimp only at *)
  have hs1 : k < l.length → l.getD k 0 = x → idx (fun y => decide (y = x)) l = k := fun h1 h2 => idx_some h1 (fun i h3 h4 => decide_eq_false (by rw [← getD_of h3 0]; exact hall i h4)) (decide_eq_true (by rw [← getD_of h1 0]; exact h2))
  have hs2 : k = l.length → idx (fun y => decide (y = x)) l = -1 := fun h1 => idx_none fun i h2 => decide_eq_false (by rw [← getD_of h2 0]; exact hall i (by omega))
  (repeat' (first | refine a_seq ?_ | refine a_block ?_ | refine a_skip ?_ | refine a_ret ?_ | refine a_exit ?_ | refine a_region ?_ | refine l_nil ?_ | (apply w_q; (focus (first | exact Q_move (by conv => lhs; whnf) | exact Q_assign (by conv => lhs; whnf) | exact Q_load_ptr rfl rfl rfl KSc.h | exact Q_load_all rfl rfl KAg.h | exact Q_lss rfl rfl | exact Q_eql rfl rfl | exact Q_eqlB rfl rfl KBo.h | exact Q_add rfl rfl (by omega) | exact Q_ix_nats rfl rfl rfl KSl.h (by omega) | exact Q_ix_ints rfl rfl rfl KSl.h (by omega) | exact Q_ix_ownN rfl rfl rfl rfl KSl.h (by omega) | exact Q_ix_own rfl rfl rfl rfl KSl.h (by omega) | exact Q_ix_rows rfl rfl rfl KSl.h (by omega) | exact Q_ix_pairsN rfl rfl rfl KSl.h (by omega) | exact Q_ix_pairs rfl rfl rfl KSl.h (by omega) | exact Q_ix_ords rfl rfl rfl KSl.h (by omega) | exact Q_ix_ownb rfl rfl rfl rfl KSl.h (by omega) | exact Q_ix_arr rfl rfl rfl KAr.h (by first | decide | omega) | exact Q_ix_arp rfl rfl rfl KAr.h (by first | decide | omega) | exact Q_ld_rpa rfl KAg.h rfl rfl (by first | (dsimp only [List.drop_zero, List.drop_succ_cons, List.take_succ_cons, List.take_zero, List.map, ofD]; done) | exact rfl) | exact Q_ld_rv rfl rfl KSc.h | exact Q_ld_rs rfl rfl KSc.h | exact Q_ld_nats rfl (by omega) KSc.h | exact Q_ld_ints rfl (by omega) KSc.h | exact Q_ld_ownN rfl rfl (by omega) KSc.h | exact Q_ld_own rfl rfl (by omega) KSc.h | exact Q_ld_rows rfl (by omega) KSc.h | exact Q_ld_pair1N rfl (by omega) KSc.h | exact Q_ld_pair2N rfl (by omega) KSc.h | exact Q_ld_pair1 rfl (by omega) KSc.h | exact Q_ld_pair2 rfl (by omega) KSc.h | exact Q_ld_pairN rfl (by omega) KAg.h | exact Q_ld_pair rfl (by omega) KAg.h | exact Q_eqlP rfl rfl inferInstance | exact Q_ld_ord rfl (by omega) KAg.h | exact Q_ld_ownb rfl rfl (by omega) KSc.h | exact Q_len_nats rfl KSl.h | exact Q_len_ints rfl KSl.h | exact Q_len_ownN rfl rfl KSl.h | exact Q_len_own' rfl rfl KSl.h | exact Q_len_rows rfl KSl.h | exact Q_len_pairsN rfl KSl.h | exact Q_len_pairs rfl KSl.h | exact Q_len_ords rfl KSl.h | exact Q_len_nil' rfl KSl.h | exact Q_len_ownp rfl rfl KSl.h)); (focus exact rfl)) | (refine a_cond rfl ?_ ?_ <;> (intro h; (try (have hp := of_decide_eq_true h)); (try (have hp := of_decide_eq_false h)); (try contradiction); (try (exfalso; omega)))))); (try all_goals (try show retA _ _ _ _ _ _ _))
  all_goals first
    | (exfalso; omega)
    | ((refine ⟨k + 1, [], ?_, ?_, ?_, rfl⟩ <;> (try dsimp only); (focus (refine ⟨by omega, fun j hj => ?_⟩; by_cases hq : j = k; (focus (subst hq; assumption)); (focus exact hall j (by omega)))); (focus omega); (focus (refine St.le_mk rfl (VwOs.mk (by decide) ?_) ?_ <;> (repeat' (first | exact trivial | exact vwR rfl | exact Vw.val _ | exact Vw.ro _ | exact Vw.any _ | exact Vw.own _ _ rfl | exact Vw.ptr _ _ _ rfl | exact Vw.rpt _ _ | exact Vw.valro _ | exact Vw.nilro _ | exact Vw.rowro _ _ _ _ rfl (by decide) | (refine Vw.int' ?_; first | rfl | omega | (simp; done)) | (refine Vw.bool' ?_; first | rfl | (simp; done)) | refine Vw.agg' ?_ | refine Vw.tup' ?_ | refine Vw.clo' ?_ | exact VwO.row _ _ _ | refine VwO.box' ?_ | exact VwO.gone _ | exact VwO.mat _ _ _ | refine ⟨⟨_, rfl, ?_⟩, ?_⟩ | refine ⟨?_, ?_⟩ ))))); done)
    | (rw [hs1 (by omega) (by assumption)]; refine ⟨[_], [], ⟨resV_tmp (by conv => lhs; whnf), trivial⟩, VwOs.mk (by decide) trivial, ?_, rfl⟩; (repeat' (first | exact trivial | exact vwR rfl | exact vwRL rfl | exact Vw.val _ | exact Vw.ro _ | exact Vw.any _ | exact Vw.valro _ | exact Vw.own _ _ rfl | exact Vw.ptr _ _ _ rfl | exact Vw.rpt _ _ | exact Vw.nilro _ | exact Vw.rowro _ _ _ _ rfl (by decide) | exact Vw.rowro2 rfl (by decide) (by with_unfolding_all exact rfl) | refine Vw.agg' ?_ | refine Vw.tup' ?_ | refine Vw.clo' ?_ | refine Vw.boxrpt' rfl (by decide) ?_ | exact Nat.le_of_ble_eq_true rfl | refine ⟨?_, ?_⟩ )); done)
    | (rw [hs2 (by omega)]; refine ⟨[_], [], ⟨resV_tmp (by conv => lhs; whnf), trivial⟩, VwOs.mk (by decide) trivial, ?_, rfl⟩; (repeat' (first | exact trivial | exact vwR rfl | exact vwRL rfl | exact Vw.val _ | exact Vw.ro _ | exact Vw.any _ | exact Vw.valro _ | exact Vw.own _ _ rfl | exact Vw.ptr _ _ _ rfl | exact Vw.rpt _ _ | exact Vw.nilro _ | exact Vw.rowro _ _ _ _ rfl (by decide) | exact Vw.rowro2 rfl (by decide) (by with_unfolding_all exact rfl) | refine Vw.agg' ?_ | refine Vw.tup' ?_ | refine Vw.clo' ?_ | refine Vw.boxrpt' rfl (by decide) ?_ | exact Nat.le_of_ble_eq_true rfl | refine ⟨?_, ?_⟩ )); done)
    | (all_goals trace_state); fail
/-! What is kept of several. -/
def cnE (p : Nat → Bool) : Nat → Nat
  | 0 => 0
  | k + 1 => cnE p k + if p k = true then 1 else 0
theorem cnE_s (p : Nat → Bool) (k : Nat) : cnE p (k + 1) = cnE p k + if p k = true then 1 else 0 := rfl
theorem cnE_le {p q : Nat → Bool} : ∀ n, (∀ i, i < n → p i = true → q i = true) → cnE p n ≤ cnE q n
  | 0, _ => Nat.le_refl 0
  | n + 1, h => by
    have h1 := cnE_le n fun i hi => h i (by omega)
    have h2 := h n (by omega)
    rw [cnE_s, cnE_s]
    cases hp : p n
    · simp; omega
    · rw [h2 hp]; simp; omega
theorem cnE_lt {p q : Nat → Bool} {j : Nat} (hp : p j = false) (hq : q j = true) : ∀ n, j < n → (∀ i, i < n → p i = true → q i = true) → cnE p n < cnE q n
  | 0, h, _ => absurd h (Nat.not_lt_zero j)
  | n + 1, hj, h => by
    rw [cnE_s, cnE_s]
    by_cases e : j = n
    · subst e
      have h1 := cnE_le j fun i hi => h i (by omega)
      rw [hp, hq]; simp; omega
    · have h1 := cnE_lt hp hq n (by omega) fun i hi => h i (by omega)
      have h2 := h n (by omega)
      cases hp2 : p n
      · simp; omega
      · rw [h2 hp2]; simp; omega
/-- One stands in another one's way. -/
def bef (p : Nat → Nat → Bool) (j i : Nat) : Bool := decide (i ≠ j) && (p j i && (decide (j < i) || !p i j))
theorem bef_iff {p : Nat → Nat → Bool} {j i : Nat} : bef p j i = true ↔ i ≠ j ∧ p j i = true ∧ (j < i ∨ p i j = false) := by
  unfold bef
  simp only [Bool.and_eq_true, decide_eq_true_eq, Bool.or_eq_true, Bool.not_eq_true']
theorem lsB_iff {n : Nat} {p : Nat → Nat → Bool} {i : Nat} : lsB n p i = true ↔ ∀ j, j < n → bef p j i = false := by
  unfold lsB
  rw [List.all_eq_true]
  constructor
  · intro h j hj
    have := h j (List.mem_range.2 hj)
    unfold lsQ at this
    rw [Bool.not_eq_true'] at this
    exact this
  · intro h j hj
    have := h j (List.mem_range.1 hj)
    unfold lsQ
    rw [Bool.not_eq_true']
    exact this
theorem lsT_mem {n : Nat} {p : Nat → Nat → Bool} {x : Nat} : ∀ {k : Nat}, x ∈ lsT n p k ↔ x < k ∧ lsB n p x = true
  | 0 => by rw [lsT]; simp
  | k + 1 => by
    rw [lsT]
    split
    · rename_i h
      rw [List.mem_append, List.mem_singleton, lsT_mem]
      constructor
      · rintro (⟨h1, h2⟩ | h1)
        · exact ⟨by omega, h2⟩
        · subst h1; exact ⟨by omega, h⟩
      · rintro ⟨h1, h2⟩
        by_cases e : x = k
        · exact .inr e
        · exact .inl ⟨by omega, h2⟩
    · rename_i h
      rw [lsT_mem]
      constructor
      · rintro ⟨h1, h2⟩; exact ⟨by omega, h2⟩
      · rintro ⟨h1, h2⟩
        by_cases e : x = k
        · subst e; exact absurd h2 h
        · exact ⟨by omega, h2⟩
/-- Nothing that is kept goes into another one that is kept. -/
theorem kept_apart {n : Nat} {p : Nat → Nat → Bool} {i k : Nat} (hi : i ∈ lsT n p n) (hk : k ∈ lsT n p n) (hne : i ≠ k) : p i k = false := by
  obtain ⟨h1, h2⟩ := lsT_mem.1 hi
  obtain ⟨h3, h4⟩ := lsT_mem.1 hk
  have h5 := lsB_iff.1 h2 k h3
  have h6 := lsB_iff.1 h4 i h1
  cases hq : p i k
  · rfl
  · exfalso
    have e6 : ¬ bef p i k = true := by rw [h6]; decide
    have e5 : ¬ bef p k i = true := by rw [h5]; decide
    rw [bef_iff] at e6 e5
    have h7 : ¬ i < k := fun h => e6 ⟨Ne.symm hne, hq, .inl h⟩
    have h8 : p k i = true := by
      cases h9 : p k i
      · exact absurd ⟨Ne.symm hne, hq, .inr h9⟩ e6
      · rfl
    exact e5 ⟨hne, h8, .inl (by omega)⟩
theorem kept_some {n : Nat} {p : Nat → Nat → Bool} (hr : ∀ i, i < n → p i i = true) (ht : ∀ i j k, i < n → j < n → k < n → p i j = true → p j k = true → p i k = true) : ∀ c k, k < n → cnE (fun j => bef p j k) n ≤ c → ∃ i, i ∈ lsT n p n ∧ p i k = true := by
  intro c
  induction c using Nat.strongRecOn with
  | _ c ih =>
    intro k hk hc
    cases hb : lsB n p k
    · have : ¬ ∀ j, j < n → bef p j k = false := fun h => by rw [lsB_iff.2 h] at hb; cases hb
      obtain ⟨j, hj⟩ := Classical.not_forall.1 this
      obtain ⟨hjn, hj2⟩ := Classical.not_imp.1 hj
      rw [Bool.not_eq_false] at hj2
      obtain ⟨b1, b2, b3⟩ := bef_iff.1 hj2
      have hlt : cnE (fun x => bef p x j) n < cnE (fun x => bef p x k) n := by
        refine cnE_lt (j := j) ?_ hj2 n hjn fun x hx hxj => ?_
        · cases h : bef p j j
          · rfl
          · exact absurd rfl (bef_iff.1 h).1
        · obtain ⟨c1, c2, c3⟩ := bef_iff.1 hxj
          have hxk := ht x j k hx hjn hk c2 b2
          have key : p k x = true → x < k := fun h => by
            have h1 := ht k x j hk hx hjn h c2
            have h2 := ht j k x hjn hk hx b2 h
            have h3 : x < j := c3.resolve_right (by rw [h2]; decide)
            have h4 : j < k := b3.resolve_right (by rw [h1]; decide)
            omega
          refine bef_iff.2 ⟨fun e => ?_, hxk, ?_⟩
          · subst e
            have := key (hr k hk)
            omega
          · cases h : p k x
            · exact .inr rfl
            · exact .inl (key h)
      obtain ⟨i, h1, h2⟩ := ih _ (Nat.lt_of_lt_of_le hlt hc) j hjn (Nat.le_refl _)
      exact ⟨i, h1, ht i j k (lsT_mem.1 h1).1 hjn hk h2 b2⟩
    · exact ⟨k, lsT_mem.2 ⟨hk, hb⟩, hr k hk⟩
/-! What goes into what goes into a third one goes into that. -/
theorem emb_trans {n : Nat} {u : Nat → Nat → Bool} (ht : ∀ x y z, y < n → z < n → u x y = true → u y z = true → u x z = true) {a b c : List Nat} {i j k : Nat} (hb : ∀ q, q < j → b.getD q 0 < n) (hc : ∀ q, q < k → c.getD q 0 < n) (h1 : Emb u a b i j) (h2 : Emb u b c j k) : Emb u a c i k := by
  obtain ⟨f, f1, f2⟩ := h1
  obtain ⟨g, g1, g2⟩ := h2
  refine ⟨fun p => g (f p), fun p hp => ⟨(g1 _ (f1 p hp).1).1, ht _ _ _ (hb _ (f1 p hp).1) (hc _ (g1 _ (f1 p hp).1).1) (f1 p hp).2 (g1 _ (f1 p hp).1).2⟩, fun p q hpq hq => g2 _ _ (f2 p q hpq hq) (f1 q hq).1⟩
theorem emb_self {u : Nat → Nat → Bool} (hr : ∀ x, u x x = true) {a : List Nat} {i : Nat} : Emb u a a i i := ⟨id, fun p hp => ⟨hp, hr _⟩, fun p q h _ => h⟩
theorem upto_refl (ns : List Nat) (x : Nat) : uptoB ns x x = true := by unfold uptoB; simp
theorem upto_tr {n : Nat} {ns : List Nat} (hok : okB n ns = true) (x y z : Nat) (hy : y < n) (hz : z < n) (h1 : uptoB ns x y = true) (h2 : uptoB ns y z = true) : uptoB ns x z = true := by
  unfold uptoB at *
  rw [Bool.or_eq_true, decide_eq_true_eq] at *
  rcases h1 with h1 | h1
  · subst h1; exact h2
  · rcases h2 with h2 | h2
    · subst h2; exact .inr h1
    · exact .inr (okB_tr hok hz hy h2 h1)
theorem go_trans {n : Nat} {ns a b c : List Nat} (hok : okB n ns = true) (hb : Wd n b) (hc : Wd n c) (h1 : goB ns a b = true) (h2 : goB ns b c = true) : goB ns a c = true :=
  goB_iff.2 (emb_trans (upto_tr hok) hb.2 hc.2 (goB_iff.1 h1) (goB_iff.1 h2))
theorem go_self {ns a : List Nat} : goB ns a a = true := goB_iff.2 (emb_self (upto_refl ns))
end Go.Proofs.Yteingglnhmfieaa
