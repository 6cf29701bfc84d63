import Derived.Test.YtdkkalplgfhpdaaDoorWq
set_option linter.unusedSimpArgs false
set_option linter.unusedVariables false
set_option linter.unusedSectionVars false
set_option maxRecDepth 20000
namespace Go.Proofs.YtdkkalplgfhpdaaDoor
attribute [local irreducible] QOp aL aC qL
/-! Plain: the sets of the chain, one behind the other. -/
theorem sub_le {s t : Nat} (h : subN s t) : s ≤ t := by
  have e : s &&& t = s := by
    apply Nat.eq_of_testBit_eq
    intro i
    rw [Nat.testBit_and]
    cases hs : s.testBit i with
    | false => rfl
    | true => rw [h i hs]; rfl
  rw [← e]; exact Nat.and_le_right
theorem cntI {P : Nat → Bool} : ∀ {L : List Nat} {j : Nat}, (∀ i (hi : i < L.length), P L[i] = decide (i < j)) → j ≤ L.length → L.countP P = j
  | [], j, _, hj => by simp at hj; subst hj; rfl
  | x :: L, j, h, hj => by
    have h0 := h 0 (by simp)
    rw [List.getElem_cons_zero] at h0
    rw [List.countP_cons, h0]
    cases j with
    | zero =>
      have : L.countP P = 0 := by
        refine cntI (L := L) (j := 0) (fun i hi => ?_) (Nat.zero_le _)
        have := h (i + 1) (by simpa using hi)
        rw [List.getElem_cons_succ] at this
        rw [this]; simp
      rw [this]; rfl
    | succ j =>
      have : L.countP P = j := by
        refine cntI (L := L) (j := j) (fun i hi => ?_) (by simp at hj; omega)
        have := h (i + 1) (by simpa using hi)
        rw [List.getElem_cons_succ] at this
        rw [this]; simp
      rw [this]; simp
section
variable {n : Nat} {ns : List Nat} (hn : n ≤ 10) (hv : Vld n ns) (hok : okB n ns = true) (hc : ChN (dsN n ns))
include hv hc in
theorem ds_sub {i j : Nat} (hj : j < (dsN n ns).length) (hij : i < j) : subN ((dsN n ns)[i]'(by omega)) (dsN n ns)[j] := by
  have hi : i < (dsN n ns).length := by omega
  have hr := List.pairwise_iff_getElem.1 (dsN_rise n ns) i j hi hj hij
  rcases hc _ (List.getElem_mem hi) _ (List.getElem_mem hj) with h | h
  · exact h
  · have := sub_le h; omega
include hv hc in
theorem ds_new {i j : Nat} (hj : j < (dsN n ns).length) (hij : i < j) : ∃ p, (dsN n ns)[j].testBit p = true ∧ ((dsN n ns)[i]'(by omega)).testBit p = false := by
  have hi : i < (dsN n ns).length := by omega
  have hr := List.pairwise_iff_getElem.1 (dsN_rise n ns) i j hi hj hij
  obtain ⟨p, hp⟩ := Nat.exists_testBit_ne_of_ne (x := (dsN n ns)[i]) (y := (dsN n ns)[j]) (by omega)
  have hs := ds_sub hv hc hj hij p
  refine ⟨p, ?_⟩
  cases h1 : ((dsN n ns)[i]).testBit p with
  | true => rw [h1, hs h1] at hp; exact absurd rfl hp
  | false =>
    refine ⟨?_, rfl⟩
    cases h2 : ((dsN n ns)[j]).testBit p with
    | true => rfl
    | false => rw [h1, h2] at hp; exact absurd rfl hp
include hn hv hc in
theorem ds_first {j : Nat} (hj : j < (dsN n ns).length) : cSm (dsN n ns)[j] (dsN n ns) = j := by
  have hb : ∀ s ∈ dsN n ns, s < 1024 := fun s hs => Nat.lt_of_lt_of_le (hv.2 s ((dsN_mem hv).1 hs)) (p2_10 hn)
  have less : ∀ i k (hk : k < (dsN n ns).length) (hik : i < k), (mbs ((dsN n ns)[i]'(by omega))).length < (mbs (dsN n ns)[k]).length := fun i k hk hik => by
    obtain ⟨p, h1, h2⟩ := ds_new hv hc hk hik
    exact mbs_sub_lt (hb _ (List.getElem_mem hk)) (ds_sub hv hc hk hik) h1 h2
  refine cntI (fun i hi => ?_) (by omega)
  rw [Bool.eq_iff_iff, decide_eq_true_eq, decide_eq_true_eq]
  rcases Nat.lt_trichotomy i j with h | h | h
  · exact ⟨fun _ => h, fun _ => less i j hj h⟩
  · subst h; exact ⟨fun h => by omega, fun h => by omega⟩
  · have := less j i hi h
    exact ⟨fun h => by omega, fun h => by omega⟩
include hn hv hok hc in
theorem ds_last {k : Nat} (hk : k < (dsN n ns).length) : ∃ p, p < n ∧ cWo p (dsN n ns) = k + 1 := by
  by_cases hk1 : k + 1 < (dsN n ns).length
  · obtain ⟨p, h1, h2⟩ := ds_new hv hc hk1 (Nat.lt_succ_self k)
    refine ⟨p, ?_, cntI (fun i hi => ?_) (by omega)⟩
    · rcases Nat.lt_or_ge p n with h | h
      · exact h
      · have h3 := hv.2 _ ((dsN_mem hv).1 (List.getElem_mem hk1))
        rw [Nat.testBit_lt_two_pow (Nat.lt_of_lt_of_le h3 (Nat.pow_le_pow_right (by decide) h))] at h1
        cases h1
    · rw [Bool.eq_iff_iff, decide_eq_true_eq]
      rcases Nat.lt_or_ge i (k + 1) with h | h
      · refine ⟨fun _ => h, fun _ => ?_⟩
        have : ((dsN n ns)[i]).testBit p = false := by
          rcases Nat.lt_or_eq_of_le (show i ≤ k by omega) with h' | h'
          · cases hb : ((dsN n ns)[i]).testBit p with
            | false => rfl
            | true => rw [ds_sub hv hc hk h' p hb] at h2; cases h2
          · subst h'; exact h2
        rw [this]; rfl
      · refine ⟨fun h' => ?_, fun h' => by omega⟩
        have : ((dsN n ns)[i]).testBit p = true := by
          rcases Nat.lt_or_eq_of_le h with h' | h'
          · exact ds_sub hv hc hi h' p h1
          · subst h'; exact h1
        rw [this] at h'; cases h'
  · have hmem := (dsN_mem hv).1 (List.getElem_mem hk)
    obtain ⟨p, hp, he⟩ := List.getElem_of_mem hmem
    have hl := hv.1
    have hpp : ((dsN n ns)[k]).testBit p = false := by
      have := okB_irr hok (i := p) (by omega)
      rw [lt, List.getD_eq_getElem?_getD, List.getElem?_eq_getElem hp] at this
      rw [← he]; exact this
    refine ⟨p, by omega, cntI (fun i hi => ?_) (by omega)⟩
    rw [Bool.eq_iff_iff, decide_eq_true_eq]
    refine ⟨fun _ => by omega, fun _ => ?_⟩
    have : ((dsN n ns)[i]).testBit p = false := by
      rcases Nat.lt_or_eq_of_le (show i ≤ k by omega) with h' | h'
      · cases hb : ((dsN n ns)[i]).testBit p with
        | false => rfl
        | true => rw [ds_sub hv hc hk h' p hb] at hpp; cases hpp
      · subst h'; exact hpp
    rw [this]; rfl
end
/-- As many first numbers as last ones. -/
def EndP (s : List (Int × Int)) : Prop := s.length ≤ 10 ∧ (∀ i, i < s.length → 0 ≤ (s.getD i (0, 0)).1 ∧ (s.getD i (0, 0)).1 ≤ (s.getD i (0, 0)).2 ∧ (s.getD i (0, 0)).2 ≤ 1000) ∧
  ∀ k : Nat, (∃ i, i < s.length ∧ (k : Int) ≤ (s.getD i (0, 0)).2) → (∃ i, i < s.length ∧ (s.getD i (0, 0)).1 = k) ∧ (∃ i, i < s.length ∧ (s.getD i (0, 0)).2 = k)
theorem endP_of {n : Nat} {ns : List Nat} (hn : n ≤ 10) (hv : Vld n ns) (hok : okB n ns = true) (hc : ChN (dsN n ns)) : EndP (snT n ns n) := by
  have hl := hv.1
  have htl := snT_len n ns n
  have hge : ∀ p, p < n → (snT n ns n).getD p (0, 0) = snR n ns p := fun p hp => snT_get hp
  have hm : ∀ p, p < n → ns.getD p 0 ∈ dsN n ns := fun p hp => (dsN_mem hv).2 (by rw [List.getD_eq_getElem?_getD, List.getElem?_eq_getElem (by omega)]; exact List.getElem_mem _)
  have hDl : (dsN n ns).length ≤ n := by
    have := dst_len (nl ns)
    rw [dst_nl hv, nl_len, nl_len] at this
    omega
  have hwl : ∀ p, cWo p (dsN n ns) ≤ (dsN n ns).length := fun p => List.countP_le_length
  refine ⟨by omega, fun i hi => ?_, fun k ⟨i, hi, hk⟩ => ?_⟩
  · rw [htl] at hi
    rw [hge i hi]
    have h1 := chN_out hc (hm i hi) (p := i) (okB_irr hok hi)
    have h2 := hwl i
    show 0 ≤ ((cSm (ns.getD i 0) (dsN n ns) : Nat) : Int) ∧ ((cSm (ns.getD i 0) (dsN n ns) : Nat) : Int) ≤ ((cWo i (dsN n ns) : Nat) : Int) - 1 ∧ ((cWo i (dsN n ns) : Nat) : Int) - 1 ≤ 1000
    omega
  · rw [htl] at hi ⊢
    rw [hge i hi] at hk
    have h2 := hwl i
    have hk : (k : Int) ≤ ((cWo i (dsN n ns) : Nat) : Int) - 1 := hk
    have hkm : k < (dsN n ns).length := by omega
    constructor
    · obtain ⟨p, hp, he⟩ := List.getElem_of_mem ((dsN_mem hv).1 (List.getElem_mem hkm))
      refine ⟨p, by omega, ?_⟩
      rw [hge p (by omega)]
      show ((cSm (ns.getD p 0) (dsN n ns) : Nat) : Int) = k
      rw [List.getD_eq_getElem?_getD, List.getElem?_eq_getElem hp, Option.getD_some, he, ds_first hn hv hc hkm]
    · obtain ⟨p, hp, he⟩ := ds_last hn hv hok hc hkm
      refine ⟨p, hp, ?_⟩
      rw [hge p hp]
      show ((cWo p (dsN n ns) : Nat) : Int) - 1 = k
      rw [he]; omega
/-! The walk. -/
def msE (s : List (Int × Int)) : Nat → Int
  | 0 => -1
  | i + 1 => max (msE s i) (s.getD i (0, 0)).2
theorem msE_s (s : List (Int × Int)) (i : Nat) : msE s (i + 1) = max (msE s i) (s.getD i (0, 0)).2 := rfl
theorem msE_bd {s : List (Int × Int)} (h : EndP s) : ∀ i, i ≤ s.length → -1 ≤ msE s i ∧ msE s i ≤ 1000 ∧ ∀ k : Nat, (k : Int) ≤ msE s i → ∃ j, j < s.length ∧ (k : Int) ≤ (s.getD j (0, 0)).2
  | 0, _ => ⟨by rw [msE]; decide, by rw [msE]; decide, fun k h => by rw [msE] at h; omega⟩
  | i + 1, hi => by
    obtain ⟨h1, h2, h3⟩ := msE_bd h i (by omega)
    have h4 := h.2.1 i (by omega)
    rw [msE_s]
    refine ⟨by omega, by omega, fun k hk => ?_⟩
    by_cases hq : (k : Int) ≤ msE s i
    · exact h3 k hq
    · exact ⟨i, by omega, by omega⟩
def fsE (s : List (Int × Int)) (k i : Nat) : Bool := (List.range i).any fun j => decide ((s.getD j (0, 0)).1 = k)
def lsE (s : List (Int × Int)) (k i : Nat) : Bool := (List.range i).any fun j => decide ((s.getD j (0, 0)).2 = k)
theorem fsE_s (s : List (Int × Int)) (k i : Nat) : fsE s k (i + 1) = (fsE s k i || decide ((s.getD i (0, 0)).1 = k)) := by simp [fsE, List.range_succ]
theorem lsE_s (s : List (Int × Int)) (k i : Nat) : lsE s k (i + 1) = (lsE s k i || decide ((s.getD i (0, 0)).2 = k)) := by simp [lsE, List.range_succ]
set_option maxHeartbeats 4000000 in
theorem ends_acW (s : List (Int × Int)) (hE : EndP s) : AC Tryd.prog 36 [pairs s] [] (.val (.bool true)) [] := by
  have hl := hE.1
  have hb := hE.2.1
  have hm := msE_bd hE
  have hfl : ∀ k : Nat, (k : Int) ≤ msE s s.length → fsE s k s.length = true ∧ lsE s k s.length = true := fun k hk => by
    obtain ⟨⟨i, h1, h2⟩, j, h3, h4⟩ := hE.2.2 k ((hm s.length (Nat.le_refl _)).2.2 k hk)
    unfold fsE lsE
    rw [List.any_eq_true, List.any_eq_true]
    exact ⟨⟨i, List.mem_range.2 h1, decide_eq_true h2⟩, ⟨j, List.mem_range.2 h3, decide_eq_true h4⟩⟩
  have hms := msE_s s
  have hf0 : ∀ k, fsE s k 0 = false := fun _ => rfl
  have hl0 : ∀ k, lsE s k 0 = false := fun _ => rfl
  have hfs := fsE_s s
  have hls := lsE_s s
  have hm0 : msE s 0 = -1 := rfl
  generalize hM : msE s = M at *
  generalize fsE s = F at *
  generalize lsE s = G at *
  clear hM hE
  refine AC.mk (n := 86) (fn := Tryd.f36) Tryd.func36 (by kernel_rfl) rfl rfl rfl rfl (fun cx => ?_); dsimp only [argv, Nat.reduceAdd]
  (repeat' (first | refine a_seq ?_ | refine a_block ?_ | refine a_skip ?_ | refine a_ret ?_ | refine a_exit ?_ | refine a_region ?_ | refine l_nil ?_ | (apply w_q; (focus (first | exact Q_assign (by conv => lhs; whnf))); (focus exact rfl)) | (refine a_cond rfl ?_ ?_ <;> (intro h; (try (have hp := of_decide_eq_true h)); (try (have hp := of_decide_eq_false h)); (try contradiction); (try (exfalso; omega)))))); (try all_goals (try show retA _ _ _ _ _ _ _))
  refine w_loop (X := Nat) [0] (by simp only [keepv, getv_cons, Nat.reduceEqDiff, ↓reduceIte]; exact rfl) (fun i => [(3, .val (.int .i64 (M i))), (4, .val (.int .i64 (i : Nat)))]) (fun _ => []) (fun i => i ≤ s.length) (fun i => s.length - i) (0) ([]) ?_ ?_ rfl ?_ <;> (try dsimp only [List.cons_append, List.nil_append])
  · exact Nat.zero_le _
  · rw [hm0]
    (refine St.le_mk rfl (VwOs.mk (by decide) ?_) ?_ <;> (repeat' (first | exact trivial | exact vwR rfl | exact Vw.val _ | exact Vw.ro _ | exact Vw.any _ | exact Vw.own _ _ rfl | exact Vw.ptr _ _ _ rfl | exact Vw.rpt _ _ | exact Vw.valro _ | exact Vw.nilro _ | exact Vw.rowro _ _ _ _ rfl (by decide) | (refine Vw.int' ?_; first | rfl | omega | (simp; done)) | (refine Vw.bool' ?_; first | rfl | (simp; done)) | refine Vw.agg' ?_ | refine Vw.tup' ?_ | refine Vw.clo' ?_ | exact VwO.row _ _ _ | refine VwO.box' ?_ | exact VwO.gone _ | exact VwO.mp _ | exact VwO.mat _ _ _ | refine ⟨⟨_, rfl, ?_⟩, ?_⟩ | refine ⟨?_, ?_⟩ )))
  intro i hi
  by_cases hil : i < s.length
  · obtain ⟨b1, b2, b3⟩ := hb i hil
    have hmi := hm i hi
    have hmsi := hms i
    (repeat' (first | refine a_seq ?_ | refine a_block ?_ | refine a_skip ?_ | refine a_ret ?_ | refine a_exit ?_ | refine a_region ?_ | refine l_nil ?_ | refine q_nil ?_ | ((first | apply w_q | apply w_qq); (focus (first | exact Q_move (by conv => lhs; whnf) | exact Q_assign (by conv => lhs; whnf) | exact Q_load_ptr rfl rfl rfl KSc.h | exact Q_load_all rfl rfl KAg.h | exact Q_lss rfl rfl | exact Q_gtr rfl rfl | exact Q_add rfl rfl (by omega) | exact Q_ix_nats rfl rfl rfl KSl.h (by omega) | exact Q_ix_ints rfl rfl rfl KSl.h (by omega) | exact Q_ix_ownN rfl rfl rfl rfl KSl.h (by omega) | exact Q_ix_own rfl rfl rfl rfl KSl.h (by omega) | exact Q_ix_rows rfl rfl rfl KSl.h (by omega) | exact Q_ix_pairsN rfl rfl rfl KSl.h (by omega) | exact Q_ix_pairs rfl rfl rfl KSl.h (by omega) | exact Q_ix_ords rfl rfl rfl KSl.h (by omega) | exact Q_ix_ownb rfl rfl rfl rfl KSl.h (by omega) | exact Q_ix_arr rfl rfl rfl KAr.h (by first | decide | omega) | exact Q_ix_arp rfl rfl rfl KAr.h (by first | decide | omega) | exact Q_ld_rpa rfl KAg.h rfl rfl (by first | (dsimp only [List.drop_zero, List.drop_succ_cons, List.take_succ_cons, List.take_zero, List.map, ofD]; done) | exact rfl) | exact Q_ld_rv rfl rfl KSc.h | exact Q_ld_rs rfl rfl KSc.h | exact Q_ld_nats rfl (by omega) KSc.h | exact Q_ld_ints rfl (by omega) KSc.h | exact Q_ld_ownN rfl rfl (by omega) KSc.h | exact Q_ld_own rfl rfl (by omega) KSc.h | exact Q_ld_rows rfl (by omega) KSc.h | exact Q_ld_pair1N rfl (by omega) KSc.h | exact Q_ld_pair2N rfl (by omega) KSc.h | exact Q_ld_pair1 rfl (by omega) KSc.h | exact Q_ld_pair2 rfl (by omega) KSc.h | exact Q_ld_pairN rfl (by omega) KAg.h | exact Q_ld_pair rfl (by omega) KAg.h | exact Q_ld_ord rfl (by omega) KAg.h | exact Q_ld_ownb rfl rfl (by omega) KSc.h | exact Q_len_nats rfl KSl.h | exact Q_len_ints rfl KSl.h | exact Q_len_ownN rfl rfl KSl.h | exact Q_len_own' rfl rfl KSl.h | exact Q_len_rows rfl KSl.h | exact Q_len_pairsN rfl KSl.h | exact Q_len_pairs rfl KSl.h | exact Q_len_ords rfl KSl.h | exact Q_len_nil' rfl KSl.h | exact Q_len_ownp rfl rfl KSl.h | exact Q_pick_t rfl (by assumption) (by conv => lhs; whnf) | exact Q_pick_f rfl (by assumption) (by conv => lhs; whnf) | exact Q_pick_t rfl rfl (by conv => lhs; whnf) | exact Q_pick_f rfl rfl (by conv => lhs; whnf) | exact Q_maxN rfl rfl | exact Q_max rfl rfl rfl)); (focus exact rfl)) | (refine a_cond rfl ?_ ?_ <;> (intro h; (try (have hp := of_decide_eq_true h)); (try (have hp := of_decide_eq_false h)); (try contradiction); (try (exfalso; omega)))) | refine w_guard_u rfl rfl rfl ?_ | refine w_qguard_u rfl rfl rfl ?_ | refine w_guard_y rfl rfl rfl (by first | assumption | rfl) ?_ | refine w_guard_n rfl rfl rfl (by first | assumption | rfl) ?_ | refine w_qguard_y rfl rfl rfl (by first | assumption | rfl) ?_ | refine w_qguard_n rfl rfl rfl (by first | assumption | rfl) ?_ | ((first | refine w_guard rfl rfl rfl ?_ ?_ | refine w_qguard rfl rfl rfl ?_ ?_) <;> (intro h; (try (have hp := of_decide_eq_true h)); (try (have hp := of_decide_eq_false h)); (try contradiction); (try (exfalso; omega)))) | refine a_draw (by kernel_rfl) (by kernel_rfl) ?_)); (try all_goals (try show retA _ _ _ _ _ _ _))
    all_goals first
      | (exfalso; omega)
      | (refine ⟨i + 1, [], ?_, ?_, ?_, rfl⟩ <;> (try dsimp only)
         · omega
         · omega
         · rw [hmsi]
           (refine St.le_mk rfl (VwOs.mk (by decide) ?_) ?_ <;> (repeat' (first | exact trivial | exact vwR rfl | exact Vw.val _ | exact Vw.ro _ | exact Vw.any _ | exact Vw.own _ _ rfl | exact Vw.ptr _ _ _ rfl | exact Vw.rpt _ _ | exact Vw.valro _ | exact Vw.nilro _ | exact Vw.rowro _ _ _ _ rfl (by decide) | (refine Vw.int' ?_; first | rfl | omega | (simp; done)) | (refine Vw.bool' ?_; first | rfl | (simp; done)) | refine Vw.agg' ?_ | refine Vw.tup' ?_ | refine Vw.clo' ?_ | exact VwO.row _ _ _ | refine VwO.box' ?_ | exact VwO.gone _ | exact VwO.mp _ | exact VwO.mat _ _ _ | refine ⟨⟨_, rfl, ?_⟩, ?_⟩ | refine ⟨?_, ?_⟩ ))))
      | (all_goals trace_state); fail
  obtain rfl : i = s.length := by omega
  obtain ⟨h1, h2, _⟩ := hm s.length (Nat.le_refl _)
  generalize M s.length = W at *
  (repeat' (first | refine a_seq ?_ | refine a_block ?_ | refine a_skip ?_ | refine a_ret ?_ | refine a_exit ?_ | refine a_region ?_ | refine l_nil ?_ | (apply w_q; (focus (first | exact Q_move (by conv => lhs; whnf) | exact Q_assign (by conv => lhs; whnf) | exact Q_lss rfl rfl | exact Q_len_nats rfl KSl.h | exact Q_len_ints rfl KSl.h | exact Q_len_ownN rfl rfl KSl.h | exact Q_len_own' rfl rfl KSl.h | exact Q_len_rows rfl KSl.h | exact Q_len_pairsN rfl KSl.h | exact Q_len_pairs rfl KSl.h | exact Q_len_ords rfl KSl.h | exact Q_len_nil' rfl KSl.h | exact Q_len_ownp rfl rfl KSl.h)); (focus exact rfl)) | (refine a_cond rfl ?_ ?_ <;> (intro h; (try (have hp := of_decide_eq_true h)); (try (have hp := of_decide_eq_false h)); (try contradiction); (try (exfalso; omega)))))); (try all_goals (try show retA _ _ _ _ _ _ _))
  all_goals first
    | (exfalso; omega)
    | skip
  refine w_loop (X := Nat) [0, 3] (by simp only [keepv, getv_cons, Nat.reduceEqDiff, ↓reduceIte]; exact rfl) (fun k => [(5, .val (.int .i64 (k : Nat)))]) (fun _ => []) (fun k => (k : Int) ≤ W + 1) (fun k => (W + 1 - k).toNat) (0) ([]) ?_ ?_ rfl ?_ <;> (try dsimp only [List.cons_append, List.nil_append])
  · omega
  · (refine St.le_mk rfl (VwOs.mk (by decide) ?_) ?_ <;> (repeat' (first | exact trivial | exact vwR rfl | exact Vw.val _ | exact Vw.ro _ | exact Vw.any _ | exact Vw.own _ _ rfl | exact Vw.ptr _ _ _ rfl | exact Vw.rpt _ _ | exact Vw.valro _ | exact Vw.nilro _ | exact Vw.rowro _ _ _ _ rfl (by decide) | (refine Vw.int' ?_; first | rfl | omega | (simp; done)) | (refine Vw.bool' ?_; first | rfl | (simp; done)) | refine Vw.agg' ?_ | refine Vw.tup' ?_ | refine Vw.clo' ?_ | exact VwO.row _ _ _ | refine VwO.box' ?_ | exact VwO.gone _ | exact VwO.mp _ | exact VwO.mat _ _ _ | refine ⟨⟨_, rfl, ?_⟩, ?_⟩ | refine ⟨?_, ?_⟩ )))
  intro k hk
  by_cases hkW : (k : Int) ≤ W
  · obtain ⟨e1, e2⟩ := hfl k hkW
    have f0 := hf0 k
    have l0 := hl0 k
    have fs := hfs k
    have ls := hls k
    generalize F k = Fk at *
    generalize G k = Gk at *
    (repeat' (first | refine a_seq ?_ | refine a_block ?_ | refine a_skip ?_ | refine a_ret ?_ | refine a_exit ?_ | refine a_region ?_ | refine l_nil ?_ | (apply w_q; (focus (first | exact Q_move (by conv => lhs; whnf) | exact Q_assign (by conv => lhs; whnf) | exact Q_leq rfl rfl)); (focus exact rfl)) | (refine a_cond rfl ?_ ?_ <;> (intro h; (try (have hp := of_decide_eq_true h)); (try (have hp := of_decide_eq_false h)); (try contradiction); (try (exfalso; omega)))))); (try all_goals (try show retA _ _ _ _ _ _ _))
    all_goals first
      | (exfalso; omega)
      | skip
    refine w_loop (X := Nat) [0, 3, 5] (by simp only [keepv, getv_cons, Nat.reduceEqDiff, ↓reduceIte]; exact rfl) (fun j => [(6, .val (.bool (Fk j))), (7, .val (.bool (Gk j))), (8, .val (.int .i64 (j : Nat)))]) (fun _ => []) (fun j => j ≤ s.length) (fun j => s.length - j) (0) ([]) ?_ ?_ rfl ?_ <;> (try dsimp only [List.cons_append, List.nil_append])
    · exact Nat.zero_le _
    · rw [f0, l0]
      (refine St.le_mk rfl (VwOs.mk (by decide) ?_) ?_ <;> (repeat' (first | exact trivial | exact vwR rfl | exact Vw.val _ | exact Vw.ro _ | exact Vw.any _ | exact Vw.own _ _ rfl | exact Vw.ptr _ _ _ rfl | exact Vw.rpt _ _ | exact Vw.valro _ | exact Vw.nilro _ | exact Vw.rowro _ _ _ _ rfl (by decide) | (refine Vw.int' ?_; first | rfl | omega | (simp; done)) | (refine Vw.bool' ?_; first | rfl | (simp; done)) | refine Vw.agg' ?_ | refine Vw.tup' ?_ | refine Vw.clo' ?_ | exact VwO.row _ _ _ | refine VwO.box' ?_ | exact VwO.gone _ | exact VwO.mp _ | exact VwO.mat _ _ _ | refine ⟨⟨_, rfl, ?_⟩, ?_⟩ | refine ⟨?_, ?_⟩ )))
    intro j hj
    by_cases hjl : j < s.length
    · have fsj := fs j
      have lsj := ls j
      cases hv1 : Fk j <;> cases hv2 : Gk j
      all_goals
        rw [hv1] at fsj
        rw [hv2] at lsj
        simp only [Bool.true_or, Bool.false_or] at fsj lsj
        (repeat' (first | refine a_seq ?_ | refine a_block ?_ | refine a_skip ?_ | refine a_ret ?_ | refine a_exit ?_ | refine a_region ?_ | refine l_nil ?_ | (apply w_q; (focus (first | exact Q_move (by conv => lhs; whnf) | exact Q_assign (by conv => lhs; whnf) | exact Q_load_ptr rfl rfl rfl KSc.h | exact Q_load_all rfl rfl KAg.h | exact Q_lss rfl rfl | exact Q_eql rfl rfl | exact Q_eqlB rfl rfl KBo.h | exact Q_add rfl rfl (by omega) | exact Q_ix_nats rfl rfl rfl KSl.h (by omega) | exact Q_ix_ints rfl rfl rfl KSl.h (by omega) | exact Q_ix_ownN rfl rfl rfl rfl KSl.h (by omega) | exact Q_ix_own rfl rfl rfl rfl KSl.h (by omega) | exact Q_ix_rows rfl rfl rfl KSl.h (by omega) | exact Q_ix_pairsN rfl rfl rfl KSl.h (by omega) | exact Q_ix_pairs rfl rfl rfl KSl.h (by omega) | exact Q_ix_ords rfl rfl rfl KSl.h (by omega) | exact Q_ix_ownb rfl rfl rfl rfl KSl.h (by omega) | exact Q_ix_arr rfl rfl rfl KAr.h (by first | decide | omega) | exact Q_ix_arp rfl rfl rfl KAr.h (by first | decide | omega) | exact Q_ld_rpa rfl KAg.h rfl rfl (by first | (dsimp only [List.drop_zero, List.drop_succ_cons, List.take_succ_cons, List.take_zero, List.map, ofD]; done) | exact rfl) | exact Q_ld_rv rfl rfl KSc.h | exact Q_ld_rs rfl rfl KSc.h | exact Q_ld_nats rfl (by omega) KSc.h | exact Q_ld_ints rfl (by omega) KSc.h | exact Q_ld_ownN rfl rfl (by omega) KSc.h | exact Q_ld_own rfl rfl (by omega) KSc.h | exact Q_ld_rows rfl (by omega) KSc.h | exact Q_ld_pair1N rfl (by omega) KSc.h | exact Q_ld_pair2N rfl (by omega) KSc.h | exact Q_ld_pair1 rfl (by omega) KSc.h | exact Q_ld_pair2 rfl (by omega) KSc.h | exact Q_ld_pairN rfl (by omega) KAg.h | exact Q_ld_pair rfl (by omega) KAg.h | exact Q_eqlP rfl rfl inferInstance | exact Q_ld_ord rfl (by omega) KAg.h | exact Q_ld_ownb rfl rfl (by omega) KSc.h | exact Q_len_nats rfl KSl.h | exact Q_len_ints rfl KSl.h | exact Q_len_ownN rfl rfl KSl.h | exact Q_len_own' rfl rfl KSl.h | exact Q_len_rows rfl KSl.h | exact Q_len_pairsN rfl KSl.h | exact Q_len_pairs rfl KSl.h | exact Q_len_ords rfl KSl.h | exact Q_len_nil' rfl KSl.h | exact Q_len_ownp rfl rfl KSl.h | exact Q_pick_t rfl (by assumption) (by conv => lhs; whnf) | exact Q_pick_f rfl (by assumption) (by conv => lhs; whnf) | exact Q_pick_t rfl rfl (by conv => lhs; whnf) | exact Q_pick_f rfl rfl (by conv => lhs; whnf))); (focus exact rfl)) | (refine a_cond rfl ?_ ?_ <;> (intro h; (try (have hp := of_decide_eq_true h)); (try (have hp := of_decide_eq_false h)); (try contradiction); (try (exfalso; omega)))) | refine w_guard_u rfl rfl rfl ?_ | refine w_guard_y rfl rfl rfl (by first | assumption | rfl) ?_ | refine w_guard_n rfl rfl rfl (by first | assumption | rfl) ?_ | (refine w_guard rfl rfl rfl ?_ ?_ <;> (intro h; (try (have hp := of_decide_eq_true h)); (try (have hp := of_decide_eq_false h)); (try contradiction); (try (exfalso; omega)))))); (try all_goals (try show retA _ _ _ _ _ _ _))
        all_goals first
          | (exfalso; omega)
          | (refine ⟨j + 1, [], ?_, ?_, ?_, rfl⟩ <;> (try dsimp only)
             · omega
             · omega
             · rw [fsj, lsj]
               (refine St.le_mk rfl (VwOs.mk (by decide) ?_) ?_ <;> (repeat' (first | exact trivial | exact vwR rfl | exact Vw.val _ | exact Vw.ro _ | exact Vw.any _ | exact Vw.own _ _ rfl | exact Vw.ptr _ _ _ rfl | exact Vw.rpt _ _ | exact Vw.valro _ | exact Vw.nilro _ | exact Vw.rowro _ _ _ _ rfl (by decide) | (refine Vw.int' ?_; first | rfl | omega | (simp; done)) | (refine Vw.bool' ?_; first | rfl | (simp; done)) | refine Vw.agg' ?_ | refine Vw.tup' ?_ | refine Vw.clo' ?_ | exact VwO.row _ _ _ | refine VwO.box' ?_ | exact VwO.gone _ | exact VwO.mp _ | exact VwO.mat _ _ _ | refine ⟨⟨_, rfl, ?_⟩, ?_⟩ | refine ⟨?_, ?_⟩ ))))
          | (all_goals trace_state); fail
    · obtain rfl : j = s.length := by omega
      rw [e1, e2]
      (repeat' (first | refine a_seq ?_ | refine a_block ?_ | refine a_skip ?_ | refine a_ret ?_ | refine a_exit ?_ | refine a_region ?_ | refine l_nil ?_ | (apply w_q; (focus (first | exact Q_move (by conv => lhs; whnf) | exact Q_assign (by conv => lhs; whnf) | exact Q_lss rfl rfl | exact Q_add rfl rfl (by omega) | exact Q_len_nats rfl KSl.h | exact Q_len_ints rfl KSl.h | exact Q_len_ownN rfl rfl KSl.h | exact Q_len_own' rfl rfl KSl.h | exact Q_len_rows rfl KSl.h | exact Q_len_pairsN rfl KSl.h | exact Q_len_pairs rfl KSl.h | exact Q_len_ords rfl KSl.h | exact Q_len_nil' rfl KSl.h | exact Q_len_ownp rfl rfl KSl.h | exact Q_not rfl | exact Q_pick_t rfl (by assumption) (by conv => lhs; whnf) | exact Q_pick_f rfl (by assumption) (by conv => lhs; whnf) | exact Q_pick_t rfl rfl (by conv => lhs; whnf) | exact Q_pick_f rfl rfl (by conv => lhs; whnf))); (focus exact rfl)) | (refine a_cond rfl ?_ ?_ <;> (intro h; (try (have hp := of_decide_eq_true h)); (try (have hp := of_decide_eq_false h)); (try contradiction); (try (exfalso; omega)))) | refine w_guard_u rfl rfl rfl ?_ | refine w_guard_y rfl rfl rfl (by first | assumption | rfl) ?_ | refine w_guard_n rfl rfl rfl (by first | assumption | rfl) ?_ | (refine w_guard rfl rfl rfl ?_ ?_ <;> (intro h; (try (have hp := of_decide_eq_true h)); (try (have hp := of_decide_eq_false h)); (try contradiction); (try (exfalso; omega)))))); (try all_goals (try show retA _ _ _ _ _ _ _))
      all_goals first
        | (exfalso; omega)
        | (refine ⟨k + 1, [], ?_, ?_, ?_, rfl⟩ <;> (try dsimp only)
           · omega
           · omega
           · (refine St.le_mk rfl (VwOs.mk (by decide) ?_) ?_ <;> (repeat' (first | exact trivial | exact vwR rfl | exact Vw.val _ | exact Vw.ro _ | exact Vw.any _ | exact Vw.own _ _ rfl | exact Vw.ptr _ _ _ rfl | exact Vw.rpt _ _ | exact Vw.valro _ | exact Vw.nilro _ | exact Vw.rowro _ _ _ _ rfl (by decide) | (refine Vw.int' ?_; first | rfl | omega | (simp; done)) | (refine Vw.bool' ?_; first | rfl | (simp; done)) | refine Vw.agg' ?_ | refine Vw.tup' ?_ | refine Vw.clo' ?_ | exact VwO.row _ _ _ | refine VwO.box' ?_ | exact VwO.gone _ | exact VwO.mp _ | exact VwO.mat _ _ _ | refine ⟨⟨_, rfl, ?_⟩, ?_⟩ | refine ⟨?_, ?_⟩ ))))
        | (all_goals trace_state); fail
  · (repeat' (first | refine a_seq ?_ | refine a_block ?_ | refine a_skip ?_ | refine a_ret ?_ | refine a_exit ?_ | refine a_region ?_ | refine l_nil ?_ | (apply w_q; (focus (first | exact Q_move (by conv => lhs; whnf) | exact Q_assign (by conv => lhs; whnf) | exact Q_leq rfl rfl)); (focus exact rfl)) | (refine a_cond rfl ?_ ?_ <;> (intro h; (try (have hp := of_decide_eq_true h)); (try (have hp := of_decide_eq_false h)); (try contradiction); (try (exfalso; omega)))))); (try all_goals (try show retA _ _ _ _ _ _ _))
    all_goals first
      | (exfalso; omega)
      | (refine ⟨[_], [], ⟨resV_tmp (by conv => lhs; whnf), trivial⟩, VwOs.mk (by decide) trivial, ?_, rfl⟩; (repeat' (first | exact trivial | exact vwR rfl | exact vwRL rfl | exact Vw.val _ | exact Vw.ro _ | exact Vw.any _ | exact Vw.valro _ | exact Vw.own _ _ rfl | exact Vw.ptr _ _ _ rfl | exact Vw.rpt _ _ | exact Vw.nilro _ | exact Vw.rowro _ _ _ _ rfl (by decide) | exact Vw.rowro2 rfl (by decide) (by with_unfolding_all exact rfl) | refine Vw.agg' ?_ | refine Vw.tup' ?_ | refine Vw.clo' ?_ | refine Vw.boxrpt' rfl (by decide) ?_ | exact Nat.le_of_ble_eq_true rfl | refine ⟨?_, ?_⟩ )); done)
      | (all_goals trace_state); fail
end Go.Proofs.YtdkkalplgfhpdaaDoor
