/- Each concept's marks told once, one behind the other (plain); where a number stands. -/
import Derived.Test.YtmfhmpdpebpijaaGj
import Derived.Test.YtmfhmpdpebpijaaFy
import Derived.Test.YtmfhmpdpebpijaaFm
set_option linter.unusedSimpArgs false
set_option linter.unusedVariables false
namespace Go.Proofs.Ytmfhmpdpebpijaa
attribute [local irreducible] QOp aL aC qL
theorem pigeonG : ∀ (L T : Nat) (f : Nat → Nat), (∀ i, i < T → f i < L) → (∀ i j, i < j → j < T → f i ≠ f j) → T ≤ L
  | 0, T, f, h, _ => by
    rcases Nat.eq_zero_or_pos T with h0 | h0
    · omega
    · have := h 0 h0; omega
  | L + 1, T, f, h, hi => by
    by_cases hq : ∃ i, i < T ∧ f i = L
    · obtain ⟨i, hiT, hfi⟩ := hq
      have := pigeonG L (T - 1) (fun j => if j < i then f j else f (j + 1)) (fun j hj => by
        show (if j < i then f j else f (j + 1)) < L
        split
        · rename_i hji
          have h1 := h j (by omega)
          have h2 := hi j i hji hiT
          omega
        · rename_i hji
          have h1 := h (j + 1) (by omega)
          have h2 := hi i (j + 1) (by omega) (by omega)
          omega) (fun a b hab hb => by
        show (if a < i then f a else f (a + 1)) ≠ (if b < i then f b else f (b + 1))
        split <;> split
        · exact hi a b hab (by omega)
        · exact hi a (b + 1) (by omega) (by omega)
        · omega
        · exact hi (a + 1) (b + 1) (by omega) (by omega))
      omega
    · have := pigeonG L T f (fun i hiT => by
        have h1 := h i hiT
        have h2 : f i ≠ L := fun h3 => hq ⟨i, hiT, h3⟩
        omega) hi
      omega
theorem count_le {T L : Nat} {P : Nat → Nat → Prop} (h : ∀ i, i < T → ∃ j, j < L ∧ P i j) (hinj : ∀ i i' j, i < i' → i' < T → P i j → P i' j → False) : T ≤ L := by
  have hf : ∃ f : Nat → Nat, ∀ i, i < T → f i < L ∧ P i (f i) := ⟨fun i => if hi : i < T then Classical.choose (h i hi) else 0, fun i hi => by
    dsimp only
    rw [dif_pos hi]
    exact Classical.choose_spec (h i hi)⟩
  obtain ⟨f, hf⟩ := hf
  exact pigeonG L T f (fun i hi => (hf i hi).1) (fun i j hij hj he => hinj i j (f i) hij hj (hf i (by omega)).2 (by rw [he]; exact (hf j hj).2))
theorem getD_snoc {α : Type} (l : List α) (z d : α) (i : Nat) : (l ++ [z]).getD i d = if i < l.length then l.getD i d else if i = l.length then z else d := by
  simp only [List.getD_eq_getElem?_getD, List.getElem?_append]
  split
  · rfl
  · rename_i h
    split
    · rename_i h2
      subst h2; simp
    · rename_i h2
      rw [List.getElem?_eq_none (by simp; omega)]; rfl
/-- The concepts are told with rising things. -/
theorem con_inc (m : Nat) (ns : List Nat) : ∀ k i j, i < j → j < (conTo m ns k).length → ((conTo m ns k).getD i (0, 0)).1 < ((conTo m ns k).getD j (0, 0)).1
  | 0, i, j, _, h => absurd h (Nat.not_lt_zero j)
  | k + 1, i, j, hij, hj => by
    rw [conTo] at hj ⊢
    split at hj
    · rename_i h
      rw [if_pos h, getD_snoc, getD_snoc]
      rw [List.length_append, List.length_singleton] at hj
      rw [if_pos (by omega)]
      split
      · exact con_inc m ns k i j hij (by omega)
      · rw [if_pos (by omega)]
        have hi : i < (conTo m ns k).length := by omega
        have := (conTo_mem m ns _ k).1 (List.getElem_mem hi)
        rw [getD_of hi]
        exact this.1
    · rename_i h
      rw [if_neg h]
      exact con_inc m ns k i j hij hj
theorem con_two {t m : Nat} {ns : List Nat} {i j : Nat} (hij : i < j) (hj : j < (conN t m ns).length) : ((conN t m ns).getD i (0, 0)).2 ≠ ((conN t m ns).getD j (0, 0)).2 := by
  intro he
  have h1 := con_inc m ns (2 ^ t) i j hij hj
  have hk : ∀ k, k < (conN t m ns).length → thingsN ns ((conN t m ns).getD k (0, 0)).2 = ((conN t m ns).getD k (0, 0)).1 := fun k hk => by
    rw [getD_of hk]
    obtain ⟨_, h2, h3⟩ := (conTo_mem m ns _ _).1 (List.getElem_mem hk)
    rw [h3]; exact h2
  have h2 := hk i (by omega)
  have h3 := hk j hj
  rw [he, h3] at h2
  have h1 : ((conN t m ns).getD i (0, 0)).1 < ((conN t m ns).getD j (0, 0)).1 := h1
  omega
/-- What was told up to one. -/
structure Gn (m : Nat) (ns : List Nat) (met : List Nat) (y : Nat) : Prop where
  cl : ∀ i, i < met.length → met.getD i 0 < 2 ^ m ∧ clos m ns (met.getD i 0) = true
  nd : ∀ i j, i < j → j < met.length → met.getD i 0 ≠ met.getD j 0
  le : ∀ i, i < met.length → met.getD i 0 = y ∨ lec (met.getD i 0) y = true
  ty : y < 2 ^ m ∧ clos m ns y = true
  all : ∀ z, z < 2 ^ m → clos m ns z = true → (z = y ∨ lec z y = true) → ∃ i, i < met.length ∧ met.getD i 0 = z
theorem Gn.start {t m : Nat} {ns : List Nat} (hc : Ctx t m ns) : Gn m ns [marksN m ns (thingsN ns 0)] (marksN m ns (thingsN ns 0)) := by
  have hth : thingsN ns 0 < 2 ^ t := by
    have := thingsTo_lt ns 0 ns.length
    rw [hc.len] at this
    unfold thingsN; rw [hc.len]; exact this
  have hf : marksN m ns (thingsN ns 0) < 2 ^ m := marksTo_lt m ns _ _
  have hcl : clos m ns (marksN m ns (thingsN ns 0)) = true := by
    unfold clos; rw [decide_eq_true_eq]; exact gal_idem hc hth
  refine ⟨fun i hi => ?_, fun i j hij hj => ?_, fun i hi => ?_, ⟨hf, hcl⟩, fun z hz hzc hzl => ?_⟩
  · have hi : i < 1 := hi
    obtain rfl : i = 0 := by omega
    exact ⟨hf, hcl⟩
  · have hj : j < 1 := hj
    omega
  · have hi : i < 1 := hi
    obtain rfl : i = 0 := by omega
    exact .inl rfl
  · refine ⟨0, Nat.one_pos, ?_⟩
    show marksN m ns (thingsN ns 0) = z
    rcases hzl with h | h
    · exact h.symm
    · exfalso
      have hs : sub (thingsN ns z) (thingsN ns 0) = true := sub_iff.2 fun i hi => (things_bit hc 0 i).2 ⟨((things_bit hc z i).1 hi).1, fun j hj => by rw [Nat.zero_testBit] at hj; cases hj⟩
      have h2 := marks_anti hc hs
      unfold clos at hzc
      rw [decide_eq_true_eq] at hzc
      rw [hzc] at h2
      obtain ⟨k, _, h3, h4, _⟩ := lec_iff.1 h
      rw [sub_iff.1 h2 k h4] at h3; cases h3
theorem next_none {m : Nat} {ns : List Nat} (hm : m ≤ 10) {y : Nat} (h : nextO m ns y = none) (z : Nat) (hz : z < 2 ^ m) (hc : clos m ns z = true) : lec y z = false := by
  cases hq : lec y z
  · rfl
  · exact absurd ⟨hz, hq, hc⟩ ((nx_best m ns y hm (2 ^ m) (Nat.le_refl _)).nn h z)
theorem next_some {m : Nat} {ns : List Nat} (hm : m ≤ 10) {y z : Nat} (h : nextO m ns y = some z) : z < 2 ^ m ∧ lec y z = true ∧ clos m ns z = true ∧ ∀ w, w < 2 ^ m → clos m ns w = true → lec y w = true → w = z ∨ lec z w = true := by
  obtain ⟨⟨h1, h2, h3⟩, h4⟩ := (nx_best m ns y hm (2 ^ m) (Nat.le_refl _)).sm z h
  exact ⟨h1, h2, h3, fun w a b c => h4 w ⟨a, c, b⟩⟩
theorem Gn.step {m : Nat} {ns met : List Nat} {y z : Nat} (hm : m ≤ 10) (h : Gn m ns met y) (hn : nextO m ns y = some z) : Gn m ns (met ++ [z]) z := by
  obtain ⟨h1, h2, h3, h4⟩ := next_some hm hn
  have hp := pow10 hm
  have hlt : ∀ i, i < met.length → lec (met.getD i 0) z = true := fun i hi => by
    rcases h.le i hi with h5 | h5
    · rw [h5]; exact h2
    · exact lec_trans h5 h2
  refine ⟨fun i hi => ?_, fun i j hij hj => ?_, fun i hi => ?_, ⟨h1, h3⟩, fun w hw hwc hwl => ?_⟩
  · rw [List.length_append, List.length_singleton] at hi
    rw [getD_snoc]
    split
    · exact h.cl i (by omega)
    · rw [if_pos (by omega)]; exact ⟨h1, h3⟩
  · rw [List.length_append, List.length_singleton] at hj
    rw [getD_snoc, getD_snoc, if_pos (by omega)]
    split
    · exact h.nd i j hij (by omega)
    · rw [if_pos (by omega)]
      intro e
      have := hlt i (by omega)
      rw [e, lec_irr] at this; cases this
  · rw [List.length_append, List.length_singleton] at hi
    rw [getD_snoc]
    split
    · exact .inr (hlt i (by omega))
    · rw [if_pos (by omega)]; exact .inl rfl
  · have hlen : (met ++ [z]).length = met.length + 1 := by rw [List.length_append, List.length_singleton]
    by_cases e : w = z
    · subst e
      exact ⟨met.length, by omega, by rw [getD_snoc, if_neg (by omega), if_pos rfl]⟩
    · have hwz := hwl.resolve_left e
      have : w = y ∨ lec w y = true := by
        by_cases e2 : w = y
        · exact .inl e2
        · rcases lec_total (a := w) (b := y) (by omega) (by have := h.ty.1; omega) e2 with h5 | h5
          · exact .inr h5
          · rcases h4 w hw hwc h5 with h6 | h6
            · exact absurd h6 e
            · rw [lec_asymm h6] at hwz; cases hwz
      obtain ⟨i, h5, h6⟩ := h.all w hw hwc this
      exact ⟨i, by omega, by rw [getD_snoc, if_pos h5]; exact h6⟩
theorem Gn.few {t m : Nat} {ns met : List Nat} {y : Nat} (hc : Ctx t m ns) (h : Gn m ns met y) : met.length ≤ (conN t m ns).length :=
  count_le (P := fun i j => met.getD i 0 = ((conN t m ns).getD j (0, 0)).2) (fun i hi => (intent_iff hc _).2 (h.cl i hi)) (fun i i' j hii hi' h1 h2 => h.nd i i' hii hi' (h1.trans h2.symm))
theorem Gn.end_ {t m : Nat} {ns met : List Nat} {y : Nat} (hc : Ctx t m ns) (h : Gn m ns met y) (hn : nextO m ns y = none) : met.length = (conN t m ns).length ∧ ∀ j, j < (conN t m ns).length → ∃ i, i < met.length ∧ met.getD i 0 = ((conN t m ns).getD j (0, 0)).2 := by
  have hm := hc.hm
  have hp := pow10 hm
  have hall : ∀ j, j < (conN t m ns).length → ∃ i, i < met.length ∧ met.getD i 0 = ((conN t m ns).getD j (0, 0)).2 := fun j hj => by
    obtain ⟨h1, h2⟩ := (intent_iff hc _).1 ⟨j, hj, rfl⟩
    refine h.all _ h1 h2 ?_
    by_cases e : ((conN t m ns).getD j (0, 0)).2 = y
    · exact .inl e
    · rcases lec_total (a := ((conN t m ns).getD j (0, 0)).2) (b := y) (by omega) (by have := h.ty.1; omega) e with h5 | h5
      · exact .inr h5
      · rw [next_none hm hn _ h1 h2] at h5; cases h5
  refine ⟨Nat.le_antisymm (h.few hc) ?_, hall⟩
  exact count_le (P := fun j i => met.getD i 0 = ((conN t m ns).getD j (0, 0)).2) hall (fun i i' j hii hi' h1 h2 => con_two hii hi' (h1.symm.trans h2))
theorem PlaceG_ac (l : List Int) (x : Int) (hl : l.length ≤ 9223372036854775807) : AC Try.prog 47 [ints l, .val (.int .i64 x)] [] (.val (.int .i64 (idx (fun y => decide (y = x)) l))) [] := by
  refine AC.mk (n := 19) (fn := Try.f47) Try.func47 (by kernel_rfl) rfl rfl rfl rfl (fun cx => ?_); dsimp only [argv, Nat.reduceAdd]
  (repeat' (first | refine a_seq ?_ | refine a_block ?_ | refine a_skip ?_ | refine a_ret ?_ | refine a_exit ?_ | refine a_region ?_ | refine l_nil ?_ | (apply w_q; (focus (first | exact Q_move (by conv => lhs; whnf) | exact Q_assign (by conv => lhs; whnf) | exact Q_load_ptr rfl rfl rfl KSc.h | exact Q_load_all rfl rfl KAg.h | exact Q_lss rfl rfl | exact Q_eql rfl rfl | exact Q_eqlB rfl rfl KBo.h | exact Q_add rfl rfl (by omega) | exact Q_ix_nats rfl rfl rfl KSl.h (by omega) | exact Q_ix_ints rfl rfl rfl KSl.h (by omega) | exact Q_ix_ownN rfl rfl rfl rfl KSl.h (by omega) | exact Q_ix_own rfl rfl rfl rfl KSl.h (by omega) | exact Q_ix_rows rfl rfl rfl KSl.h (by omega) | exact Q_ix_pairsN rfl rfl rfl KSl.h (by omega) | exact Q_ix_pairs rfl rfl rfl KSl.h (by omega) | exact Q_ix_ords rfl rfl rfl KSl.h (by omega) | exact Q_ix_ownb rfl rfl rfl rfl KSl.h (by omega) | exact Q_ix_arr rfl rfl rfl KAr.h (by first | decide | omega) | exact Q_ix_arp rfl rfl rfl KAr.h (by first | decide | omega) | exact Q_ld_rpa rfl KAg.h rfl rfl (by first | (dsimp only [List.drop_zero, List.drop_succ_cons, List.take_succ_cons, List.take_zero, List.map, ofD]; done) | exact rfl) | exact Q_ld_rv rfl rfl KSc.h | exact Q_ld_rs rfl rfl KSc.h | exact Q_ld_nats rfl (by omega) KSc.h | exact Q_ld_ints rfl (by omega) KSc.h | exact Q_ld_ownN rfl rfl (by omega) KSc.h | exact Q_ld_own rfl rfl (by omega) KSc.h | exact Q_ld_rows rfl (by omega) KSc.h | exact Q_ld_pair1N rfl (by omega) KSc.h | exact Q_ld_pair2N rfl (by omega) KSc.h | exact Q_ld_pair1 rfl (by omega) KSc.h | exact Q_ld_pair2 rfl (by omega) KSc.h | exact Q_ld_pairN rfl (by omega) KAg.h | exact Q_ld_pair rfl (by omega) KAg.h | exact Q_eqlP rfl rfl inferInstance | exact Q_ld_ord rfl (by omega) KAg.h | exact Q_ld_ownb rfl rfl (by omega) KSc.h | exact Q_len_nats rfl KSl.h | exact Q_len_ints rfl KSl.h | exact Q_len_ownN rfl rfl KSl.h | exact Q_len_own' rfl rfl KSl.h | exact Q_len_rows rfl KSl.h | exact Q_len_pairsN rfl KSl.h | exact Q_len_pairs rfl KSl.h | exact Q_len_ords rfl KSl.h | exact Q_len_nil' rfl KSl.h | exact Q_len_ownp rfl rfl KSl.h)); (focus exact rfl)) | (refine a_cond rfl ?_ ?_ <;> (intro h; (try (have hp := of_decide_eq_true h)); (try (have hp := of_decide_eq_false h)); (try contradiction); (try (exfalso; omega)))))); (try all_goals (try show retA _ _ _ _ _ _ _))
  (refine w_loop (X := Nat) [0, 1] (by simp only [keepv, getv_cons, Nat.reduceEqDiff, ↓reduceIte]; exact rfl) (fun k => [(5, .val (.int .i64 (k : Int)))]) (fun _ => []) (fun k => k ≤ l.length ∧ ∀ j, j < k → (fun i => ¬ l.getD i 0 = x) j) (fun k => l.length - k) (0) ([]) ?_ ?_ rfl ?_ <;> (try dsimp only [List.cons_append, List.nil_append]); (focus exact ⟨Nat.zero_le _, fun j hj => absurd hj (Nat.not_lt_zero _)⟩); (focus (refine St.le_mk rfl (VwOs.mk (by decide) ?_) ?_ <;> (repeat' (first | exact trivial | exact vwR rfl | exact Vw.val _ | exact Vw.ro _ | exact Vw.any _ | exact Vw.own _ _ rfl | exact Vw.ptr _ _ _ rfl | exact Vw.rpt _ _ | exact Vw.valro _ | exact Vw.nilro _ | exact Vw.rowro _ _ _ _ rfl (by decide) | (refine Vw.int' ?_; first | rfl | omega | (simp; done)) | (refine Vw.bool' ?_; first | rfl | (simp; done)) | refine Vw.agg' ?_ | refine Vw.tup' ?_ | refine Vw.clo' ?_ | exact VwO.row _ _ _ | refine VwO.box' ?_ | exact VwO.gone _ | exact VwO.mat _ _ _ | refine ⟨⟨_, rfl, ?_⟩, ?_⟩ | refine ⟨?_, ?_⟩ )))); rintro k ⟨hk, hall⟩; try dsimp only at *)
  have hs1 : k < l.length → l.getD k 0 = x → idx (fun y => decide (y = x)) l = k := fun h1 h2 => idx_some h1 (fun i h3 h4 => decide_eq_false (by rw [← getD_of h3 0]; exact hall i h4)) (decide_eq_true (by rw [← getD_of h1 0]; exact h2))
  have hs2 : k = l.length → idx (fun y => decide (y = x)) l = -1 := fun h1 => idx_none fun i h2 => decide_eq_false (by rw [← getD_of h2 0]; exact hall i (by omega))
  (repeat' (first | refine a_seq ?_ | refine a_block ?_ | refine a_skip ?_ | refine a_ret ?_ | refine a_exit ?_ | refine a_region ?_ | refine l_nil ?_ | (apply w_q; (focus (first | exact Q_move (by conv => lhs; whnf) | exact Q_assign (by conv => lhs; whnf) | exact Q_load_ptr rfl rfl rfl KSc.h | exact Q_load_all rfl rfl KAg.h | exact Q_lss rfl rfl | exact Q_eql rfl rfl | exact Q_eqlB rfl rfl KBo.h | exact Q_add rfl rfl (by omega) | exact Q_ix_nats rfl rfl rfl KSl.h (by omega) | exact Q_ix_ints rfl rfl rfl KSl.h (by omega) | exact Q_ix_ownN rfl rfl rfl rfl KSl.h (by omega) | exact Q_ix_own rfl rfl rfl rfl KSl.h (by omega) | exact Q_ix_rows rfl rfl rfl KSl.h (by omega) | exact Q_ix_pairsN rfl rfl rfl KSl.h (by omega) | exact Q_ix_pairs rfl rfl rfl KSl.h (by omega) | exact Q_ix_ords rfl rfl rfl KSl.h (by omega) | exact Q_ix_ownb rfl rfl rfl rfl KSl.h (by omega) | exact Q_ix_arr rfl rfl rfl KAr.h (by first | decide | omega) | exact Q_ix_arp rfl rfl rfl KAr.h (by first | decide | omega) | exact Q_ld_rpa rfl KAg.h rfl rfl (by first | (dsimp only [List.drop_zero, List.drop_succ_cons, List.take_succ_cons, List.take_zero, List.map, ofD]; done) | exact rfl) | exact Q_ld_rv rfl rfl KSc.h | exact Q_ld_rs rfl rfl KSc.h | exact Q_ld_nats rfl (by omega) KSc.h | exact Q_ld_ints rfl (by omega) KSc.h | exact Q_ld_ownN rfl rfl (by omega) KSc.h | exact Q_ld_own rfl rfl (by omega) KSc.h | exact Q_ld_rows rfl (by omega) KSc.h | exact Q_ld_pair1N rfl (by omega) KSc.h | exact Q_ld_pair2N rfl (by omega) KSc.h | exact Q_ld_pair1 rfl (by omega) KSc.h | exact Q_ld_pair2 rfl (by omega) KSc.h | exact Q_ld_pairN rfl (by omega) KAg.h | exact Q_ld_pair rfl (by omega) KAg.h | exact Q_eqlP rfl rfl inferInstance | exact Q_ld_ord rfl (by omega) KAg.h | exact Q_ld_ownb rfl rfl (by omega) KSc.h | exact Q_len_nats rfl KSl.h | exact Q_len_ints rfl KSl.h | exact Q_len_ownN rfl rfl KSl.h | exact Q_len_own' rfl rfl KSl.h | exact Q_len_rows rfl KSl.h | exact Q_len_pairsN rfl KSl.h | exact Q_len_pairs rfl KSl.h | exact Q_len_ords rfl KSl.h | exact Q_len_nil' rfl KSl.h | exact Q_len_ownp rfl rfl KSl.h)); (focus exact rfl)) | (refine a_cond rfl ?_ ?_ <;> (intro h; (try (have hp := of_decide_eq_true h)); (try (have hp := of_decide_eq_false h)); (try contradiction); (try (exfalso; omega)))))); (try all_goals (try show retA _ _ _ _ _ _ _))
  all_goals first
    | (exfalso; omega)
    | ((refine ⟨k + 1, [], ?_, ?_, ?_, rfl⟩ <;> (try dsimp only); (focus (refine ⟨by omega, fun j hj => ?_⟩; by_cases hq : j = k; (focus (subst hq; assumption)); (focus exact hall j (by omega)))); (focus omega); (focus (refine St.le_mk rfl (VwOs.mk (by decide) ?_) ?_ <;> (repeat' (first | exact trivial | exact vwR rfl | exact Vw.val _ | exact Vw.ro _ | exact Vw.any _ | exact Vw.own _ _ rfl | exact Vw.ptr _ _ _ rfl | exact Vw.rpt _ _ | exact Vw.valro _ | exact Vw.nilro _ | exact Vw.rowro _ _ _ _ rfl (by decide) | (refine Vw.int' ?_; first | rfl | omega | (simp; done)) | (refine Vw.bool' ?_; first | rfl | (simp; done)) | refine Vw.agg' ?_ | refine Vw.tup' ?_ | refine Vw.clo' ?_ | exact VwO.row _ _ _ | refine VwO.box' ?_ | exact VwO.gone _ | exact VwO.mat _ _ _ | refine ⟨⟨_, rfl, ?_⟩, ?_⟩ | refine ⟨?_, ?_⟩ ))))); done)
    | (rw [hs1 (by omega) (by assumption)]; refine ⟨[_], [], ⟨resV_tmp (by conv => lhs; whnf), trivial⟩, VwOs.mk (by decide) trivial, ?_, rfl⟩; (repeat' (first | exact trivial | exact vwR rfl | exact vwRL rfl | exact Vw.val _ | exact Vw.ro _ | exact Vw.any _ | exact Vw.valro _ | exact Vw.own _ _ rfl | exact Vw.ptr _ _ _ rfl | exact Vw.rpt _ _ | exact Vw.nilro _ | exact Vw.rowro _ _ _ _ rfl (by decide) | exact Vw.rowro2 rfl (by decide) (by with_unfolding_all exact rfl) | refine Vw.agg' ?_ | refine Vw.tup' ?_ | refine Vw.clo' ?_ | refine Vw.boxrpt' rfl (by decide) ?_ | exact Nat.le_of_ble_eq_true rfl | refine ⟨?_, ?_⟩ )); done)
    | (rw [hs2 (by omega)]; refine ⟨[_], [], ⟨resV_tmp (by conv => lhs; whnf), trivial⟩, VwOs.mk (by decide) trivial, ?_, rfl⟩; (repeat' (first | exact trivial | exact vwR rfl | exact vwRL rfl | exact Vw.val _ | exact Vw.ro _ | exact Vw.any _ | exact Vw.valro _ | exact Vw.own _ _ rfl | exact Vw.ptr _ _ _ rfl | exact Vw.rpt _ _ | exact Vw.nilro _ | exact Vw.rowro _ _ _ _ rfl (by decide) | exact Vw.rowro2 rfl (by decide) (by with_unfolding_all exact rfl) | refine Vw.agg' ?_ | refine Vw.tup' ?_ | refine Vw.clo' ?_ | refine Vw.boxrpt' rfl (by decide) ?_ | exact Nat.le_of_ble_eq_true rfl | refine ⟨?_, ?_⟩ )); done)
    | (all_goals trace_state); fail
theorem place_in {met : List Nat} {x : Nat} (h : ∃ i, i < met.length ∧ met.getD i 0 = x) : 0 ≤ idx (fun y => decide (y = (x : Int))) (nl met) := by
  have h1 := idx_any (fun y => decide (y = (x : Int))) (nl met)
  obtain ⟨i, hi, he⟩ := h
  have h2 : (nl met).any (fun y => decide (y = (x : Int))) = true := List.any_eq_true.2 ⟨(x : Int), List.mem_map.2 ⟨x, by rw [← he, getD_of hi]; exact List.getElem_mem hi, rfl⟩, by simp⟩
  rw [h2] at h1
  exact of_decide_eq_true h1
end Go.Proofs.Ytmfhmpdpebpijaa
