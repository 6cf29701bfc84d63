/- Rows and numbers go together one by one, and rise (plain). -/
import Derived.Test.YtipkcabpfhmngaaHf
set_option linter.unusedSimpArgs false
set_option linter.unusedVariables false
namespace Go.Proofs.Ytipkcabpfhmngaa
attribute [local irreducible] QOp aL aC qL
theorem sumTo_at {g : Nat → Nat} {p : Nat} : ∀ {k : Nat}, p < k → g p ≤ sumTo g k
  | 0, h => by omega
  | k + 1, h => by
    show g p ≤ sumTo g k + g k
    by_cases hp : p = k
    · subst hp; omega
    · have := sumTo_at (g := g) (p := p) (k := k) (by omega)
      omega
theorem may_ex {n : Nat} {ns : List Nat} (hv : Vld n ns) (hok : okB n ns = true) {s : Nat} : ∀ h i, i < n → hgt n ns i ≤ h → s.testBit i = false → ∃ p, p < n ∧ mayO ns s p = true
  | h, i, hi, hh, hs => by
    by_cases hsub : sub (ns.getD i 0) s = true
    · exact ⟨i, hi, by unfold mayO; rw [hs, hsub]; rfl⟩
    · have : ∃ j, (ns.getD i 0).testBit j = true ∧ s.testBit j = false := by
        rcases Classical.em (∃ j, (ns.getD i 0).testBit j = true ∧ s.testBit j = false) with h1 | h1
        · exact h1
        · exfalso
          apply hsub
          rw [sub_iff]
          intro j hj
          cases hq : s.testBit j
          · exact absurd ⟨j, hj, hq⟩ h1
          · rfl
      obtain ⟨j, hj1, hj2⟩ := this
      have hjn : j < n := by
        rcases Nat.lt_or_ge j n with h1 | h1
        · exact h1
        · rw [Nat.testBit_lt_two_pow (Nat.lt_of_lt_of_le (hv.get i) (Nat.pow_le_pow_right (by decide) h1))] at hj1
          cases hj1
      have hup := hgt_up hok hjn hi hj1
      match h with
      | 0 => omega
      | h + 1 => exact may_ex hv hok h j hjn (by omega) hj2
theorem cnt_pos {n : Nat} {ns : List Nat} (hv : Vld n ns) (hok : okB n ns = true) : ∀ f s, mis n s = f → 1 ≤ cnt n (mayO ns) f s
  | 0, s, _ => Nat.le_refl 1
  | f + 1, s, h => by
    have : ∃ i, i < n ∧ s.testBit i = false := by
      rcases Classical.em (∃ i, i < n ∧ s.testBit i = false) with h1 | h1
      · exact h1
      · exfalso
        have := (mis_zero (n := n) (s := s)).2 fun i hi => by
          cases hq : s.testBit i
          · exact absurd ⟨i, hi, hq⟩ h1
          · rfl
        omega
    obtain ⟨i, hi, hs⟩ := this
    obtain ⟨p, hp, hm⟩ := may_ex hv hok _ i hi (Nat.le_refl _) hs
    have h2 := sumTo_at (g := fun p => if mayO ns s p = true then cnt n (mayO ns) f (s ||| 2 ^ p) else 0) hp
    have h3 := mis_add (mayO_not hm) hp
    have h4 := cnt_pos hv hok f (s ||| 2 ^ p) (by omega)
    simp only [hm, if_true] at h2
    show 1 ≤ sumTo _ n
    omega
theorem rest_pos {n : Nat} {ns : List Nat} (hv : Vld n ns) (hok : okB n ns = true) (s : Nat) : 1 ≤ rest n (mayO ns) s := cnt_pos hv hok _ s rfl
/-! The row of a number. -/
theorem nst_get {n : Nat} {may : Nat → Nat → Bool} {k0 : Nat} : ∀ j i, i < j → (nst n may k0 j).2.2.length = j → ((∀ m, m ≤ j → (nst n may k0 m).2.2.length = m)) → (nst n may k0 j).2.2.getD i 0 = pk n may (nst n may k0 i).1 (nst n may k0 i).2.1
  | 0, i, h, _, _ => by omega
  | j + 1, i, h, hl, ha => by
    have hj := ha j (by omega)
    show ((nst n may k0 j).2.2 ++ [_]).getD i 0 = _
    by_cases hi : i = j
    · subst hi
      rw [List.getD_eq_getElem?_getD, List.getElem?_append_right (by omega), hj, Nat.sub_self]; rfl
    · have ih := nst_get (n := n) (may := may) (k0 := k0) j i (by omega) hj fun m hm => ha m (by omega)
      rw [← ih]
      simp only [List.getD_eq_getElem?_getD]
      rw [List.getElem?_append_left (by omega)]
structure NthR (n : Nat) (ns : List Nat) (k : Nat) : Prop where
  row : RowN n ns (nthN n ns k)
  rk : rkN n ns (nthN n ns k) n = k
  at' : ∀ j, j < n → ∃ kj, rkN n ns (nthN n ns k) j + kj = k ∧ kj < sumTo (term n (mayO ns) (rsN (nthN n ns k) j)) n ∧ (nthN n ns k).getD j 0 = pk n (mayO ns) (rsN (nthN n ns k) j) kj
theorem nth_ok {n : Nat} {ns : List Nat} {k : Nat} (hk : k < rest n (mayO ns) 0) : NthR n ns k := by
  have hN := nst_ok (may := mayO ns) (fun s p h => mayO_not h) hk
  have hlen : ∀ m, m ≤ n → (nst n (mayO ns) k m).2.2.length = m := fun m hm => (hN m hm).len
  have hg : ∀ i, i < n → (nthN n ns k).getD i 0 = pk n (mayO ns) (nst n (mayO ns) k i).1 (nst n (mayO ns) k i).2.1 := fun i hi => nst_get n i hi (hlen n (Nat.le_refl n)) hlen
  have hS := fun j (h : j < n) => nst_sum (may := mayO ns) (fun s p h => mayO_not h) (hN j (by omega)) h
  have hrs : ∀ j, j ≤ n → rsN (nthN n ns k) j = (nst n (mayO ns) k j).1 := by
    intro j
    induction j with
    | zero => intro _; rfl
    | succ j ih =>
      intro hj
      rw [rsN, ih (by omega), hg j (by omega)]; rfl
  have hrk : ∀ j, j ≤ n → rkN n ns (nthN n ns k) j + (nst n (mayO ns) k j).2.1 = k := by
    intro j
    induction j with
    | zero => intro _; show 0 + k = k; omega
    | succ j ih =>
      intro hj
      have := ih (by omega)
      have h3 := (pk_spec (hS j (by omega))).2.2 _ (Nat.le_refl _)
      show rkN n ns (nthN n ns k) j + sumTo (term n (mayO ns) (rsN (nthN n ns k) j)) ((nthN n ns k).getD j 0) + ((nst n (mayO ns) k j).2.1 - sumTo (term n (mayO ns) (nst n (mayO ns) k j).1) (pk n (mayO ns) (nst n (mayO ns) k j).1 (nst n (mayO ns) k j).2.1)) = k
      rw [hrs j (by omega), hg j (by omega)]
      omega
  refine ⟨⟨hlen n (Nat.le_refl n), fun j hj => ?_, fun j hj => ?_⟩, ?_, fun j hj => ⟨(nst n (mayO ns) k j).2.1, hrk j (by omega), ?_, ?_⟩⟩
  · rw [hg j hj]; exact (pk_spec (hS j hj)).1
  · rw [hg j hj, hrs j (by omega)]; exact (pk_may (hS j hj)).1
  · have h1 := hN n (Nat.le_refl n)
    have h2 := hrk n (Nat.le_refl n)
    have h3 := h1.hk
    have h4 : mis n (nst n (mayO ns) k n).1 = 0 := by have := h1.mis; omega
    unfold rest at h3
    rw [h4] at h3
    have : cnt n (mayO ns) 0 (nst n (mayO ns) k n).1 = 1 := rfl
    omega
  · rw [hrs j (by omega)]; exact hS j hj
  · rw [hrs j (by omega)]; exact hg j hj
theorem pk_mono {n : Nat} {may : Nat → Nat → Bool} {s k k' : Nat} (hkk : k ≤ k') (h : k < sumTo (term n may s) n) (h' : k' < sumTo (term n may s) n) : pk n may s k ≤ pk n may s k' := by
  obtain ⟨a1, a2, a3⟩ := pk_spec h
  obtain ⟨b1, b2, b3⟩ := pk_spec h'
  rcases Nat.lt_or_ge (pk n may s k') (pk n may s k) with h1 | h1
  · exfalso
    have := a3 (pk n may s k' + 1) (by omega)
    omega
  · exact h1
theorem rs_ext {r r' : List Nat} : ∀ j, (∀ i, i < j → r.getD i 0 = r'.getD i 0) → rsN r j = rsN r' j
  | 0, _ => rfl
  | j + 1, h => by rw [rsN, rsN, rs_ext j fun i hi => h i (by omega), h j (by omega)]
theorem rk_ext {n : Nat} {ns r r' : List Nat} : ∀ j, (∀ i, i < j → r.getD i 0 = r'.getD i 0) → rkN n ns r j = rkN n ns r' j
  | 0, _ => rfl
  | j + 1, h => by
    show rkN n ns r j + rkT n ns r j = rkN n ns r' j + rkT n ns r' j
    rw [rk_ext j fun i hi => h i (by omega)]
    unfold rkT
    rw [rs_ext j fun i hi => h i (by omega), h j (by omega)]
def befN (a b : List Nat) (j : Nat) : Prop := a.getD j 0 < b.getD j 0 ∧ ∀ i, i < j → a.getD i 0 = b.getD i 0
theorem nth_before {n : Nat} {ns : List Nat} {k k' : Nat} (hkk : k < k') (hk' : k' < rest n (mayO ns) 0) : ∃ j, j < n ∧ befN (nthN n ns k) (nthN n ns k') j := by
  have A := nth_ok (n := n) (ns := ns) (k := k) (by omega)
  have B := nth_ok (n := n) (ns := ns) (k := k') hk'
  have key : ∀ j, j ≤ n → (∀ i, i < j → (nthN n ns k).getD i 0 = (nthN n ns k').getD i 0) ∨ ∃ i, i < j ∧ befN (nthN n ns k) (nthN n ns k') i := by
    intro j
    induction j with
    | zero => intro _; exact .inl fun i hi => by omega
    | succ j ih =>
      intro hj
      rcases ih (by omega) with h1 | ⟨i, hi, h1⟩
      · by_cases heq : (nthN n ns k).getD j 0 = (nthN n ns k').getD j 0
        · refine .inl fun i hi => ?_
          by_cases hij : i = j
          · rw [hij]; exact heq
          · exact h1 i (by omega)
        · refine .inr ⟨j, by omega, ?_, h1⟩
          obtain ⟨a, a1, a2, a3⟩ := A.at' j (by omega)
          obtain ⟨b, b1, b2, b3⟩ := B.at' j (by omega)
          rw [← rs_ext j h1] at b2 b3
          rw [← rk_ext j h1] at b1
          have := pk_mono (k := a) (k' := b) (by omega) a2 b2
          omega
      · exact .inr ⟨i, by omega, h1⟩
  rcases key n (Nat.le_refl n) with h1 | ⟨i, hi, h1⟩
  · exfalso
    have e := rk_ext (n := n) (ns := ns) n h1
    rw [A.rk, B.rk] at e
    omega
  · exact ⟨i, hi, h1⟩
theorem row_is {n : Nat} {ns r : List Nat} (h : RowN n ns r) : isRow n ns (nl r) = true := by
  have hm : (nl r).map Int.toNat = r := by
    unfold nl
    rw [List.map_map]
    apply List.ext_getElem
    · simp
    · intro i h1 h2
      simp
  have hgI : ∀ j, (nl r).getD j 0 = ((r.getD j 0 : Nat) : Int) := fun j => by
    unfold nl
    simp only [List.getD_eq_getElem?_getD, List.getElem?_map]
    cases r[j]? <;> rfl
  rw [isRow_all fun j hj => ?_]
  · rw [decide_eq_true_eq, nl_len, h.len]
  · rw [nl_len, h.len] at hj
    unfold okAt
    rw [hm, hgI, Int.toNat_natCast, h.may j hj, decide_eq_true (by omega), decide_eq_true (by have := h.lt j hj; omega)]
    rfl
theorem Before_ac (a b : List Nat) (j : Nat) (ha : j < a.length) (hb : j < b.length) (hl : a.length ≤ 9223372036854775807) (hl2 : b.length ≤ 9223372036854775807) (h : befN a b j) : AC Try.prog 27 [ints (nl a), ints (nl b)] [] (.val (.bool true)) [] := by
  obtain ⟨h1, h2⟩ := h
  refine AC.mk (n := 41) (fn := Try.f27) Try.func27 (by kernel_rfl) rfl rfl rfl rfl (fun cx => ?_); dsimp only [argv, Nat.reduceAdd]
  (repeat' (first | refine a_seq ?_ | refine a_block ?_ | refine a_skip ?_ | refine a_ret ?_ | refine a_exit ?_ | refine a_region ?_ | refine l_nil ?_ | refine q_nil ?_ | ((first | apply w_q | apply w_qq); (focus (first | exact Q_move (by conv => lhs; whnf) | exact Q_assign (by conv => lhs; whnf) | exact Q_load_ptr rfl rfl rfl KSc.h | exact Q_load_all rfl rfl KAg.h | exact Q_lss rfl rfl | exact Q_neq rfl rfl | exact Q_neqB rfl rfl KBo.h | exact Q_add rfl rfl (by omega) | exact Q_ix_nats rfl rfl rfl KSl.h (by omega) | exact Q_ix_ints rfl rfl rfl KSl.h (by omega) | exact Q_ix_ownN rfl rfl rfl rfl KSl.h (by omega) | exact Q_ix_own rfl rfl rfl rfl KSl.h (by omega) | exact Q_ix_rows rfl rfl rfl KSl.h (by omega) | exact Q_ix_pairsN rfl rfl rfl KSl.h (by omega) | exact Q_ix_pairs rfl rfl rfl KSl.h (by omega) | exact Q_ix_ords rfl rfl rfl KSl.h (by omega) | exact Q_ix_ownb rfl rfl rfl rfl KSl.h (by omega) | exact Q_ix_arr rfl rfl rfl KAr.h (by first | decide | omega) | exact Q_ix_arp rfl rfl rfl KAr.h (by first | decide | omega) | exact Q_ld_rpa rfl KAg.h rfl rfl (by first | (dsimp only [List.drop_zero, List.drop_succ_cons, List.take_succ_cons, List.take_zero, List.map, ofD]; done) | exact rfl) | exact Q_ld_rv rfl rfl KSc.h | exact Q_ld_rs rfl rfl KSc.h | exact Q_ld_nats rfl (by omega) KSc.h | exact Q_ld_ints rfl (by omega) KSc.h | exact Q_ld_ownN rfl rfl (by omega) KSc.h | exact Q_ld_own rfl rfl (by omega) KSc.h | exact Q_ld_rows rfl (by omega) KSc.h | exact Q_ld_pair1N rfl (by omega) KSc.h | exact Q_ld_pair2N rfl (by omega) KSc.h | exact Q_ld_pair1 rfl (by omega) KSc.h | exact Q_ld_pair2 rfl (by omega) KSc.h | exact Q_ld_pairN rfl (by omega) KAg.h | exact Q_ld_pair rfl (by omega) KAg.h | exact Q_neqP rfl rfl inferInstance | exact Q_ld_ord rfl (by omega) KAg.h | exact Q_ld_ownb rfl rfl (by omega) KSc.h | exact Q_len_nats rfl KSl.h | exact Q_len_ints rfl KSl.h | exact Q_len_ownN rfl rfl KSl.h | exact Q_len_own' rfl rfl KSl.h | exact Q_len_rows rfl KSl.h | exact Q_len_pairsN rfl KSl.h | exact Q_len_pairs rfl KSl.h | exact Q_len_ords rfl KSl.h | exact Q_len_nil' rfl KSl.h | exact Q_len_ownp rfl rfl KSl.h | exact Q_pick_t rfl (by assumption) (by conv => lhs; whnf) | exact Q_pick_f rfl (by assumption) (by conv => lhs; whnf) | exact Q_pick_t rfl rfl (by conv => lhs; whnf) | exact Q_pick_f rfl rfl (by conv => lhs; whnf))); (focus exact rfl)) | (refine a_cond rfl ?_ ?_ <;> (intro h; (try (have hp := of_decide_eq_true h)); (try (have hp := of_decide_eq_false h)); (try contradiction); (try (exfalso; omega)))) | refine w_guard_u rfl rfl rfl ?_ | refine w_qguard_u rfl rfl rfl ?_ | refine w_guard_y rfl rfl rfl (by first | assumption | rfl) ?_ | refine w_guard_n rfl rfl rfl (by first | assumption | rfl) ?_ | refine w_qguard_y rfl rfl rfl (by first | assumption | rfl) ?_ | refine w_qguard_n rfl rfl rfl (by first | assumption | rfl) ?_ | ((first | refine w_guard rfl rfl rfl ?_ ?_ | refine w_qguard rfl rfl rfl ?_ ?_) <;> (intro h; (try (have hp := of_decide_eq_true h)); (try (have hp := of_decide_eq_false h)); (try contradiction); (try (exfalso; omega)))) | refine a_draw (by kernel_rfl) (by kernel_rfl) ?_)); (try all_goals (try show retA _ _ _ _ _ _ _))
  refine w_loop (X := Nat) [0, 1] (by simp only [keepv, getv_cons, Nat.reduceEqDiff, ↓reduceIte]; exact rfl) (fun i => [(5, .val (.int .i64 (i : Int)))]) (fun _ => []) (fun i => i ≤ j) (fun i => j - i) (0) ([]) ?_ ?_ rfl ?_ <;> (try dsimp only [List.cons_append, List.nil_append])
  · exact Nat.zero_le _
  · (refine St.le_mk rfl (VwOs.mk (by decide) ?_) ?_ <;> (repeat' (first | exact trivial | exact vwR rfl | exact Vw.val _ | exact Vw.ro _ | exact Vw.any _ | exact Vw.own _ _ rfl | exact Vw.ptr _ _ _ rfl | exact Vw.rpt _ _ | exact Vw.valro _ | exact Vw.nilro _ | exact Vw.rowro _ _ _ _ rfl (by decide) | (refine Vw.int' ?_; first | rfl | omega | (simp; done)) | (refine Vw.bool' ?_; first | rfl | (simp; done)) | refine Vw.agg' ?_ | refine Vw.tup' ?_ | refine Vw.clo' ?_ | exact VwO.row _ _ _ | refine VwO.box' ?_ | exact VwO.gone _ | exact VwO.mat _ _ _ | refine ⟨⟨_, rfl, ?_⟩, ?_⟩ | refine ⟨?_, ?_⟩ )))
  rintro i hi
  have c := h2 i
  have c2 : i = j → a.getD i 0 < b.getD i 0 := fun h => by rw [h]; exact h1
  (repeat' (first | refine a_seq ?_ | refine a_block ?_ | refine a_skip ?_ | refine a_ret ?_ | refine a_exit ?_ | refine a_region ?_ | refine l_nil ?_ | refine q_nil ?_ | ((first | apply w_q | apply w_qq); (focus (first | exact Q_move (by conv => lhs; whnf) | exact Q_assign (by conv => lhs; whnf) | exact Q_load_ptr rfl rfl rfl KSc.h | exact Q_load_all rfl rfl KAg.h | exact Q_lss rfl rfl | exact Q_neq rfl rfl | exact Q_neqB rfl rfl KBo.h | exact Q_add rfl rfl (by omega) | exact Q_ix_nats rfl rfl rfl KSl.h (by omega) | exact Q_ix_ints rfl rfl rfl KSl.h (by omega) | exact Q_ix_ownN rfl rfl rfl rfl KSl.h (by omega) | exact Q_ix_own rfl rfl rfl rfl KSl.h (by omega) | exact Q_ix_rows rfl rfl rfl KSl.h (by omega) | exact Q_ix_pairsN rfl rfl rfl KSl.h (by omega) | exact Q_ix_pairs rfl rfl rfl KSl.h (by omega) | exact Q_ix_ords rfl rfl rfl KSl.h (by omega) | exact Q_ix_ownb rfl rfl rfl rfl KSl.h (by omega) | exact Q_ix_arr rfl rfl rfl KAr.h (by first | decide | omega) | exact Q_ix_arp rfl rfl rfl KAr.h (by first | decide | omega) | exact Q_ld_rpa rfl KAg.h rfl rfl (by first | (dsimp only [List.drop_zero, List.drop_succ_cons, List.take_succ_cons, List.take_zero, List.map, ofD]; done) | exact rfl) | exact Q_ld_rv rfl rfl KSc.h | exact Q_ld_rs rfl rfl KSc.h | exact Q_ld_nats rfl (by omega) KSc.h | exact Q_ld_ints rfl (by omega) KSc.h | exact Q_ld_ownN rfl rfl (by omega) KSc.h | exact Q_ld_own rfl rfl (by omega) KSc.h | exact Q_ld_rows rfl (by omega) KSc.h | exact Q_ld_pair1N rfl (by omega) KSc.h | exact Q_ld_pair2N rfl (by omega) KSc.h | exact Q_ld_pair1 rfl (by omega) KSc.h | exact Q_ld_pair2 rfl (by omega) KSc.h | exact Q_ld_pairN rfl (by omega) KAg.h | exact Q_ld_pair rfl (by omega) KAg.h | exact Q_neqP rfl rfl inferInstance | exact Q_ld_ord rfl (by omega) KAg.h | exact Q_ld_ownb rfl rfl (by omega) KSc.h | exact Q_len_nats rfl KSl.h | exact Q_len_ints rfl KSl.h | exact Q_len_ownN rfl rfl KSl.h | exact Q_len_own' rfl rfl KSl.h | exact Q_len_rows rfl KSl.h | exact Q_len_pairsN rfl KSl.h | exact Q_len_pairs rfl KSl.h | exact Q_len_ords rfl KSl.h | exact Q_len_nil' rfl KSl.h | exact Q_len_ownp rfl rfl KSl.h | exact Q_pick_t rfl (by assumption) (by conv => lhs; whnf) | exact Q_pick_f rfl (by assumption) (by conv => lhs; whnf) | exact Q_pick_t rfl rfl (by conv => lhs; whnf) | exact Q_pick_f rfl rfl (by conv => lhs; whnf))); (focus exact rfl)) | (refine a_cond rfl ?_ ?_ <;> (intro h; (try (have hp := of_decide_eq_true h)); (try (have hp := of_decide_eq_false h)); (try contradiction); (try (exfalso; omega)))) | refine w_guard_u rfl rfl rfl ?_ | refine w_qguard_u rfl rfl rfl ?_ | refine w_guard_y rfl rfl rfl (by first | assumption | rfl) ?_ | refine w_guard_n rfl rfl rfl (by first | assumption | rfl) ?_ | refine w_qguard_y rfl rfl rfl (by first | assumption | rfl) ?_ | refine w_qguard_n rfl rfl rfl (by first | assumption | rfl) ?_ | ((first | refine w_guard rfl rfl rfl ?_ ?_ | refine w_qguard rfl rfl rfl ?_ ?_) <;> (intro h; (try (have hp := of_decide_eq_true h)); (try (have hp := of_decide_eq_false h)); (try contradiction); (try (exfalso; omega)))) | refine a_draw (by kernel_rfl) (by kernel_rfl) ?_)); (try all_goals (try show retA _ _ _ _ _ _ _))
  all_goals first
    | (exfalso; omega)
    | (refine ⟨i + 1, [], ?_, ?_, ?_, rfl⟩ <;> (try dsimp only); (focus (show i + 1 ≤ j; have := c2; omega)); (focus omega); (focus (refine St.le_mk rfl (VwOs.mk (by decide) ?_) ?_ <;> (repeat' (first | exact trivial | exact vwR rfl | exact Vw.val _ | exact Vw.ro _ | exact Vw.any _ | exact Vw.own _ _ rfl | exact Vw.ptr _ _ _ rfl | exact Vw.rpt _ _ | exact Vw.valro _ | exact Vw.nilro _ | exact Vw.rowro _ _ _ _ rfl (by decide) | (refine Vw.int' ?_; first | rfl | omega | (simp; done)) | (refine Vw.bool' ?_; first | rfl | (simp; done)) | refine Vw.agg' ?_ | refine Vw.tup' ?_ | refine Vw.clo' ?_ | exact VwO.row _ _ _ | refine VwO.box' ?_ | exact VwO.gone _ | exact VwO.mat _ _ _ | refine ⟨⟨_, rfl, ?_⟩, ?_⟩ | refine ⟨?_, ?_⟩ )))); done)
    | (refine ⟨[_], [], ⟨resV_tmp (by conv => lhs; whnf), trivial⟩, VwOs.mk (by decide) trivial, ?_, rfl⟩; exact Vw.bool' (decide_eq_true (by have := c2; omega)); done)
/-- Of n things the one that a number speaks of. -/
def chooseT (c : Int) (n : Nat) : Nat := (if c < 0 then -(c + 1) else c).toNat % n
theorem choose_ltT {c : Int} {n : Nat} (hn : 0 < n) : chooseT c n < n := Nat.mod_lt _ hn
theorem choose_acT (c : Int) (n : Nat) (hn : 0 < n) (hb : n ≤ 9223372036854775807) (hc : -9223372036854775808 ≤ c ∧ c ≤ 9223372036854775807) : AC Try.prog 26 [.val (.int .i64 c), .val (.int .i64 n)] [] (.val (.int .i64 (chooseT c n : Nat))) [] := by
  have e : ((chooseT c n : Nat) : Int) = (if c < 0 then -(c + 1) else c) % (n : Int) := by
    unfold chooseT
    rw [Int.natCast_emod]
    congr 1
    split <;> omega
  rw [e]
  refine AC.mk (n := 13) (fn := Try.f26) Try.func26 (by kernel_rfl) rfl rfl rfl rfl (fun cx => ?_); dsimp only [argv, Nat.reduceAdd]
  (repeat' (first | refine a_seq ?_ | refine a_block ?_ | refine a_skip ?_ | refine a_ret ?_ | refine a_exit ?_ | refine a_region ?_ | refine l_nil ?_ | (apply w_q; (focus (first | exact Q_move (by conv => lhs; whnf) | exact Q_assign (by conv => lhs; whnf) | exact Q_lss rfl rfl | exact Q_add rfl rfl (by omega) | exact Q_rem2 rfl rfl | exact Q_neg rfl (by omega))); (focus exact rfl)) | (refine a_cond rfl ?_ ?_ <;> (intro h; (try (have hp := of_decide_eq_true h)); (try (have hp := of_decide_eq_false h)); (try contradiction); (try (exfalso; omega)))) | (((first | apply w_q | apply w_qq); (focus exact Q_add rfl rfl (by omega)); (focus exact rfl))) | (((first | apply w_q | apply w_qq); (focus exact Q_neg rfl (by omega)); (focus exact rfl))) | (((first | apply w_q | apply w_qq); (focus exact Q_rem rfl rfl (by omega)); (focus exact rfl))))); (try all_goals (try show retA _ _ _ _ _ _ _))
  · refine ⟨[_], [], ⟨resV_tmp (by conv => lhs; whnf), trivial⟩, VwOs.mk (by decide) trivial, ?_, rfl⟩
    rw [if_pos hp]
    (repeat' (first | exact trivial | exact vwR rfl | exact vwRL rfl | exact Vw.val _ | exact Vw.ro _ | exact Vw.any _ | exact Vw.valro _ | exact Vw.own _ _ rfl | exact Vw.ptr _ _ _ rfl | exact Vw.rpt _ _ | exact Vw.nilro _ | exact Vw.rowro _ _ _ _ rfl (by decide) | exact Vw.rowro2 rfl (by decide) (by with_unfolding_all exact rfl) | refine Vw.agg' ?_ | refine Vw.tup' ?_ | refine Vw.clo' ?_ | refine Vw.boxrpt' rfl (by decide) ?_ | exact Nat.le_of_ble_eq_true rfl | refine ⟨?_, ?_⟩ ))
  · refine ⟨[_], [], ⟨resV_tmp (by conv => lhs; whnf), trivial⟩, VwOs.mk (by decide) trivial, ?_, rfl⟩
    rw [if_neg hp]
    (repeat' (first | exact trivial | exact vwR rfl | exact vwRL rfl | exact Vw.val _ | exact Vw.ro _ | exact Vw.any _ | exact Vw.valro _ | exact Vw.own _ _ rfl | exact Vw.ptr _ _ _ rfl | exact Vw.rpt _ _ | exact Vw.nilro _ | exact Vw.rowro _ _ _ _ rfl (by decide) | exact Vw.rowro2 rfl (by decide) (by with_unfolding_all exact rfl) | refine Vw.agg' ?_ | refine Vw.tup' ?_ | refine Vw.clo' ?_ | refine Vw.boxrpt' rfl (by decide) ?_ | exact Nat.le_of_ble_eq_true rfl | refine ⟨?_, ?_⟩ ))
end Go.Proofs.Ytipkcabpfhmngaa
