/- As many values as closed elements (plain); where a number stands. -/
import Derived.Test.YtbecnjbkbfpddaaJa
set_option linter.unusedSimpArgs false
set_option linter.unusedVariables false
namespace Go.Proofs.Ytbecnjbkbfpddaa
attribute [local irreducible] QOp aL aC qL
theorem pigeonT : ∀ (L T : Nat) (f : Nat → Nat), (∀ i, i < T → f i < L) → (∀ i j, i < j → j < T → f i ≠ f j) → T ≤ L
  | 0, T, f, h, _ => by
    rcases Nat.eq_zero_or_pos T with h0 | h0
    · omega
    · have := h 0 h0; omega
  | L + 1, T, f, h, hi => by
    by_cases hq : ∃ i, i < T ∧ f i = L
    · obtain ⟨i, hiT, hfi⟩ := hq
      have := pigeonT L (T - 1) (fun j => if j < i then f j else f (j + 1)) (fun j hj => by
        show (if j < i then f j else f (j + 1)) < L
        split
        · rename_i hji
          have h1 := h j (by omega)
          have h2 := hi j i hji hiT
          omega
        · rename_i hji
          have h1 := h (j + 1) (by omega)
          have h2 := hi i (j + 1) (by omega) (by omega)
          omega) (fun a b hab hb => by
        show (if a < i then f a else f (a + 1)) ≠ (if b < i then f b else f (b + 1))
        split <;> split
        · exact hi a b hab (by omega)
        · exact hi a (b + 1) (by omega) (by omega)
        · omega
        · exact hi (a + 1) (b + 1) (by omega) (by omega))
      omega
    · have := pigeonT L T f (fun i hiT => by
        have h1 := h i hiT
        have h2 : f i ≠ L := fun h3 => hq ⟨i, hiT, h3⟩
        omega) hi
      omega
theorem countT_le {T L : Nat} {P : Nat → Nat → Prop} (h : ∀ i, i < T → ∃ j, j < L ∧ P i j) (hinj : ∀ i i' j, i < i' → i' < T → P i j → P i' j → False) : T ≤ L := by
  have hf : ∃ f : Nat → Nat, ∀ i, i < T → f i < L ∧ P i (f i) := ⟨fun i => if hi : i < T then Classical.choose (h i hi) else 0, fun i hi => by
    dsimp only
    rw [dif_pos hi]
    exact Classical.choose_spec (h i hi)⟩
  obtain ⟨f, hf⟩ := hf
  exact pigeonT L T f (fun i hi => (hf i hi).1) (fun i j hij hj he => hinj i j (f i) hij hj (hf i (by omega)).2 (by rw [he]; exact (hf j hj).2))
/-- Those of the first x whose value is new. -/
def fsT (F : List Nat) (x : Nat) : List Nat := (List.range x).filter fun i => !(List.range i).any fun j => decide (fa F j = fa F i)
def seen (F : List Nat) (x y : Nat) : Bool := (List.range x).any fun i => decide (fa F i = y)
theorem seen_iff {F : List Nat} {x y : Nat} : seen F x y = true ↔ ∃ i, i < x ∧ fa F i = y := by
  unfold seen
  rw [List.any_eq_true]
  exact ⟨fun ⟨i, h1, h2⟩ => ⟨i, List.mem_range.1 h1, of_decide_eq_true h2⟩, fun ⟨i, h1, h2⟩ => ⟨i, List.mem_range.2 h1, decide_eq_true h2⟩⟩
theorem fsT_succ (F : List Nat) (x : Nat) : (fsT F (x + 1)).length = (fsT F x).length + (if seen F x (fa F x) = true then 0 else 1) := by
  have e : fsT F (x + 1) = fsT F x ++ (if seen F x (fa F x) = true then [] else [x]) := by
    unfold fsT
    rw [List.range_succ, List.filter_append]
    congr 1
    have : (List.range x).any (fun j => decide (fa F j = fa F x)) = seen F x (fa F x) := rfl
    simp only [List.filter_cons, List.filter_nil, this]
    cases seen F x (fa F x) <;> rfl
  rw [e, List.length_append]
  split <;> rfl
def sn (F : List Nat) (k x : Nat) : List Bool := (List.range k).map (seen F x)
theorem sn_len (F : List Nat) (k x : Nat) : (sn F k x).length = k := by simp [sn]
theorem sn_get {F : List Nat} {k x y : Nat} (hy : y < k) : (sn F k x).getD y false = seen F x y := by
  unfold sn
  rw [List.getD_eq_getElem?_getD, List.getElem?_map, List.getElem?_range hy]; rfl
theorem sn_zero (F : List Nat) (k : Nat) : sn F k 0 = List.replicate k false := by
  unfold sn
  apply List.ext_getElem (by simp)
  intro i h1 h2
  simp [seen]
theorem sn_succ {F : List Nat} {k x : Nat} : sn F k (x + 1) = if seen F x (fa F x) = true then sn F k x else (sn F k x).set (fa F x) true := by
  have hstep : ∀ y, seen F (x + 1) y = (seen F x y || decide (fa F x = y)) := fun y => by
    unfold seen; rw [List.range_succ, List.any_append]; simp only [List.any_cons, List.any_nil, Bool.or_false]
  by_cases hs : seen F x (fa F x) = true
  · rw [if_pos hs]
    unfold sn
    refine List.map_congr_left fun y _ => ?_
    rw [hstep]
    by_cases he : fa F x = y
    · subst he; rw [hs]; rfl
    · rw [decide_eq_false he, Bool.or_false]
  · rw [if_neg hs]
    unfold sn
    apply List.ext_getElem (by simp)
    intro i h1 h2
    rw [List.getElem_set]
    simp only [List.getElem_map, List.getElem_range, hstep]
    by_cases he : fa F x = i
    · rw [if_pos he, decide_eq_true he, Bool.or_true]
    · rw [if_neg he, decide_eq_false he, Bool.or_false]
theorem filt_inc (p : Nat → Bool) (n : Nat) {i j : Nat} (hij : i < j) (hj : j < ((List.range n).filter p).length) : ((List.range n).filter p).getD i 0 < ((List.range n).filter p).getD j 0 := by
  have h := (List.pairwise_lt_range (n := n)).filter p
  rw [List.pairwise_iff_getElem] at h
  have := h i j (by omega) hj hij
  rw [getD_of (by omega), getD_of hj]
  exact this
theorem filt_mem {p : Nat → Bool} {n i : Nat} (hi : i < ((List.range n).filter p).length) : ((List.range n).filter p).getD i 0 < n ∧ p (((List.range n).filter p).getD i 0) = true := by
  have := List.mem_filter.1 (List.getElem_mem hi)
  rw [getD_of hi]
  exact ⟨List.mem_range.1 this.1, this.2⟩
theorem filt_at {p : Nat → Bool} {n x : Nat} (hx : x < n) (h : p x = true) : ∃ i, i < ((List.range n).filter p).length ∧ ((List.range n).filter p).getD i 0 = x := by
  obtain ⟨i, hi, he⟩ := List.getElem_of_mem (List.mem_filter.2 ⟨List.mem_range.2 hx, h⟩ : x ∈ (List.range n).filter p)
  exact ⟨i, hi, by rw [getD_of hi]; exact he⟩
theorem first_ex (F : List Nat) : ∀ c, ∃ i, i ≤ c ∧ fa F i = fa F c ∧ (!(List.range i).any fun j => decide (fa F j = fa F i)) = true := by
  intro c
  induction c using Nat.strongRecOn with
  | ind c ih =>
    by_cases h : (List.range c).any (fun j => decide (fa F j = fa F c)) = true
    · rw [List.any_eq_true] at h
      obtain ⟨j, h1, h2⟩ := h
      have h1 := List.mem_range.1 h1
      have h2 := of_decide_eq_true h2
      obtain ⟨i, i1, i2, i3⟩ := ih j h1
      exact ⟨i, by omega, i2.trans h2, i3⟩
    · exact ⟨c, Nat.le_refl _, rfl, by simpa using h⟩
/-- As many elements come as are closed. -/
theorem fs_cl {n k : Nat} {M J M' J' : List (List Nat)} {F G : List Nat} (hK : Gk n M J k M' J' F) (hB : BkTo n k k M M' F G) : (fsT F n).length = (clT F G n).length := by
  have hF := hK.mF
  have hG := hB.mp
  have fgf : ∀ x, x < n → fa F (fa G (fa F x)) = fa F x := fun x hx => bk_fgf hK.A hK.B hK.ff hB.bk hx
  refine Nat.le_antisymm ?_ ?_
  · refine countT_le (P := fun i j => fa F ((fsT F n).getD i 0) = fa F ((clT F G n).getD j 0)) (fun i hi => ?_) (fun i i' j hii hi' h1 h2 => ?_)
    · obtain ⟨m1, m2⟩ := filt_mem hi
      have hv := hF.lt _ m1
      obtain ⟨j, j1, j2⟩ := filt_at (p := fun i => decide (fa G (fa F i) = i)) (hG.lt _ hv) (decide_eq_true (by rw [fgf _ m1]))
      exact ⟨j, j1, by show fa F _ = fa F (((List.range n).filter fun i => decide (fa G (fa F i) = i)).getD j 0); rw [j2]; exact (fgf _ m1).symm⟩
    · have hlt := filt_inc _ n hii hi'
      obtain ⟨m1, m2⟩ := filt_mem hi'
      rw [Bool.not_eq_true', List.any_eq_false] at m2
      exact m2 _ (List.mem_range.2 hlt) (decide_eq_true (h1.trans h2.symm))
  · refine countT_le (P := fun i j => fa F ((clT F G n).getD i 0) = fa F ((fsT F n).getD j 0)) (fun i hi => ?_) (fun i i' j hii hi' h1 h2 => ?_)
    · obtain ⟨m1, m2⟩ := filt_mem hi
      obtain ⟨c, c1, c2, c3⟩ := first_ex F ((clT F G n).getD i 0)
      obtain ⟨j, j1, j2⟩ := filt_at (p := fun i => !(List.range i).any fun j => decide (fa F j = fa F i)) (Nat.lt_of_le_of_lt c1 m1) c3
      exact ⟨j, j1, by show fa F _ = fa F (((List.range n).filter fun i => !(List.range i).any fun j => decide (fa F j = fa F i)).getD j 0); rw [j2]; exact c2.symm⟩
    · have hlt := filt_inc (fun i => decide (fa G (fa F i) = i)) n hii hi'
      obtain ⟨m1, m2⟩ := filt_mem (p := fun i => decide (fa G (fa F i) = i)) hi'
      obtain ⟨m3, m4⟩ := filt_mem (p := fun i => decide (fa G (fa F i) = i)) (Nat.lt_trans hii hi')
      have m2 := of_decide_eq_true m2
      have m4 := of_decide_eq_true m4
      have e : fa F (((List.range n).filter fun i => decide (fa G (fa F i) = i)).getD i 0) = fa F (((List.range n).filter fun i => decide (fa G (fa F i) = i)).getD i' 0) := h1.trans h2.symm
      rw [e] at m4
      omega
theorem PlaceT_ac (l : List Int) (x : Int) (hl : l.length ≤ 9223372036854775807) : AC Try.prog 26 [ints l, .val (.int .i64 x)] [] (.val (.int .i64 (idx (fun y => decide (y = x)) l))) [] := by
  refine AC.mk (n := 19) (fn := Try.f26) Try.func26 (by kernel_rfl) rfl rfl rfl rfl (fun cx => ?_); dsimp only [argv, Nat.reduceAdd]
  (repeat' (first | refine a_seq ?_ | refine a_block ?_ | refine a_skip ?_ | refine a_ret ?_ | refine a_exit ?_ | refine a_region ?_ | refine l_nil ?_ | (apply w_q; (focus (first | exact Q_move (by conv => lhs; whnf) | exact Q_assign (by conv => lhs; whnf) | exact Q_load_ptr rfl rfl rfl KSc.h | exact Q_load_all rfl rfl KAg.h | exact Q_lss rfl rfl | exact Q_eql rfl rfl | exact Q_eqlB rfl rfl KBo.h | exact Q_add rfl rfl (by omega) | exact Q_ix_nats rfl rfl rfl KSl.h (by omega) | exact Q_ix_ints rfl rfl rfl KSl.h (by omega) | exact Q_ix_ownN rfl rfl rfl rfl KSl.h (by omega) | exact Q_ix_own rfl rfl rfl rfl KSl.h (by omega) | exact Q_ix_rows rfl rfl rfl KSl.h (by omega) | exact Q_ix_pairsN rfl rfl rfl KSl.h (by omega) | exact Q_ix_pairs rfl rfl rfl KSl.h (by omega) | exact Q_ix_ords rfl rfl rfl KSl.h (by omega) | exact Q_ix_ownb rfl rfl rfl rfl KSl.h (by omega) | exact Q_ix_arr rfl rfl rfl KAr.h (by first | decide | omega) | exact Q_ix_arp rfl rfl rfl KAr.h (by first | decide | omega) | exact Q_ld_rpa rfl KAg.h rfl rfl (by first | (dsimp only [List.drop_zero, List.drop_succ_cons, List.take_succ_cons, List.take_zero, List.map, ofD]; done) | exact rfl) | exact Q_ld_rv rfl rfl KSc.h | exact Q_ld_rs rfl rfl KSc.h | exact Q_ld_nats rfl (by omega) KSc.h | exact Q_ld_ints rfl (by omega) KSc.h | exact Q_ld_ownN rfl rfl (by omega) KSc.h | exact Q_ld_own rfl rfl (by omega) KSc.h | exact Q_ld_rows rfl (by omega) KSc.h | exact Q_ld_pair1N rfl (by omega) KSc.h | exact Q_ld_pair2N rfl (by omega) KSc.h | exact Q_ld_pair1 rfl (by omega) KSc.h | exact Q_ld_pair2 rfl (by omega) KSc.h | exact Q_ld_pairN rfl (by omega) KAg.h | exact Q_ld_pair rfl (by omega) KAg.h | exact Q_eqlP rfl rfl inferInstance | exact Q_ld_ord rfl (by omega) KAg.h | exact Q_ld_ownb rfl rfl (by omega) KSc.h | exact Q_len_nats rfl KSl.h | exact Q_len_ints rfl KSl.h | exact Q_len_ownN rfl rfl KSl.h | exact Q_len_own' rfl rfl KSl.h | exact Q_len_rows rfl KSl.h | exact Q_len_pairsN rfl KSl.h | exact Q_len_pairs rfl KSl.h | exact Q_len_ords rfl KSl.h | exact Q_len_nil' rfl KSl.h | exact Q_len_ownp rfl rfl KSl.h)); (focus exact rfl)) | (refine a_cond rfl ?_ ?_ <;> (intro h; (try (have hp := of_decide_eq_true h)); (try (have hp := of_decide_eq_false h)); (try contradiction); (try (exfalso; omega)))))); (try all_goals (try show retA _ _ _ _ _ _ _))
  (refine w_loop (X := Nat) [0, 1] (by simp only [keepv, getv_cons, Nat.reduceEqDiff, ↓reduceIte]; exact rfl) (fun k => [(5, .val (.int .i64 (k : Int)))]) (fun _ => []) (fun k => k ≤ l.length ∧ ∀ j, j < k → (fun i => ¬ l.getD i 0 = x) j) (fun k => l.length - k) (0) ([]) ?_ ?_ rfl ?_ <;> (try dsimp only [List.cons_append, List.nil_append]); (focus exact ⟨Nat.zero_le _, fun j hj => absurd hj (Nat.not_lt_zero _)⟩); (focus (refine St.le_mk rfl (VwOs.mk (by decide) ?_) ?_ <;> (repeat' (first | exact trivial | exact vwR rfl | exact Vw.val _ | exact Vw.ro _ | exact Vw.any _ | exact Vw.own _ _ rfl | exact Vw.ptr _ _ _ rfl | exact Vw.rpt _ _ | exact Vw.valro _ | exact Vw.nilro _ | exact Vw.rowro _ _ _ _ rfl (by decide) | (refine Vw.int' ?_; first | rfl | omega | (simp; done)) | (refine Vw.bool' ?_; first | rfl | (simp; done)) | refine Vw.agg' ?_ | refine Vw.tup' ?_ | refine Vw.clo' ?_ | exact VwO.row _ _ _ | refine VwO.box' ?_ | exact VwO.gone _ | exact VwO.mat _ _ _ | refine ⟨⟨_, rfl, ?_⟩, ?_⟩ | refine ⟨?_, ?_⟩ )))); rintro k ⟨hk, hall⟩; try dsimp only at *)
  have hs1 : k < l.length → l.getD k 0 = x → idx (fun y => decide (y = x)) l = k := fun h1 h2 => idx_some h1 (fun i h3 h4 => decide_eq_false (by rw [← getD_of h3 0]; exact hall i h4)) (decide_eq_true (by rw [← getD_of h1 0]; exact h2))
  have hs2 : k = l.length → idx (fun y => decide (y = x)) l = -1 := fun h1 => idx_none fun i h2 => decide_eq_false (by rw [← getD_of h2 0]; exact hall i (by omega))
  (repeat' (first | refine a_seq ?_ | refine a_block ?_ | refine a_skip ?_ | refine a_ret ?_ | refine a_exit ?_ | refine a_region ?_ | refine l_nil ?_ | (apply w_q; (focus (first | exact Q_move (by conv => lhs; whnf) | exact Q_assign (by conv => lhs; whnf) | exact Q_load_ptr rfl rfl rfl KSc.h | exact Q_load_all rfl rfl KAg.h | exact Q_lss rfl rfl | exact Q_eql rfl rfl | exact Q_eqlB rfl rfl KBo.h | exact Q_add rfl rfl (by omega) | exact Q_ix_nats rfl rfl rfl KSl.h (by omega) | exact Q_ix_ints rfl rfl rfl KSl.h (by omega) | exact Q_ix_ownN rfl rfl rfl rfl KSl.h (by omega) | exact Q_ix_own rfl rfl rfl rfl KSl.h (by omega) | exact Q_ix_rows rfl rfl rfl KSl.h (by omega) | exact Q_ix_pairsN rfl rfl rfl KSl.h (by omega) | exact Q_ix_pairs rfl rfl rfl KSl.h (by omega) | exact Q_ix_ords rfl rfl rfl KSl.h (by omega) | exact Q_ix_ownb rfl rfl rfl rfl KSl.h (by omega) | exact Q_ix_arr rfl rfl rfl KAr.h (by first | decide | omega) | exact Q_ix_arp rfl rfl rfl KAr.h (by first | decide | omega) | exact Q_ld_rpa rfl KAg.h rfl rfl (by first | (dsimp only [List.drop_zero, List.drop_succ_cons, List.take_succ_cons, List.take_zero, List.map, ofD]; done) | exact rfl) | exact Q_ld_rv rfl rfl KSc.h | exact Q_ld_rs rfl rfl KSc.h | exact Q_ld_nats rfl (by omega) KSc.h | exact Q_ld_ints rfl (by omega) KSc.h | exact Q_ld_ownN rfl rfl (by omega) KSc.h | exact Q_ld_own rfl rfl (by omega) KSc.h | exact Q_ld_rows rfl (by omega) KSc.h | exact Q_ld_pair1N rfl (by omega) KSc.h | exact Q_ld_pair2N rfl (by omega) KSc.h | exact Q_ld_pair1 rfl (by omega) KSc.h | exact Q_ld_pair2 rfl (by omega) KSc.h | exact Q_ld_pairN rfl (by omega) KAg.h | exact Q_ld_pair rfl (by omega) KAg.h | exact Q_eqlP rfl rfl inferInstance | exact Q_ld_ord rfl (by omega) KAg.h | exact Q_ld_ownb rfl rfl (by omega) KSc.h | exact Q_len_nats rfl KSl.h | exact Q_len_ints rfl KSl.h | exact Q_len_ownN rfl rfl KSl.h | exact Q_len_own' rfl rfl KSl.h | exact Q_len_rows rfl KSl.h | exact Q_len_pairsN rfl KSl.h | exact Q_len_pairs rfl KSl.h | exact Q_len_ords rfl KSl.h | exact Q_len_nil' rfl KSl.h | exact Q_len_ownp rfl rfl KSl.h)); (focus exact rfl)) | (refine a_cond rfl ?_ ?_ <;> (intro h; (try (have hp := of_decide_eq_true h)); (try (have hp := of_decide_eq_false h)); (try contradiction); (try (exfalso; omega)))))); (try all_goals (try show retA _ _ _ _ _ _ _))
  all_goals first
    | (exfalso; omega)
    | ((refine ⟨k + 1, [], ?_, ?_, ?_, rfl⟩ <;> (try dsimp only); (focus (refine ⟨by omega, fun j hj => ?_⟩; by_cases hq : j = k; (focus (subst hq; assumption)); (focus exact hall j (by omega)))); (focus omega); (focus (refine St.le_mk rfl (VwOs.mk (by decide) ?_) ?_ <;> (repeat' (first | exact trivial | exact vwR rfl | exact Vw.val _ | exact Vw.ro _ | exact Vw.any _ | exact Vw.own _ _ rfl | exact Vw.ptr _ _ _ rfl | exact Vw.rpt _ _ | exact Vw.valro _ | exact Vw.nilro _ | exact Vw.rowro _ _ _ _ rfl (by decide) | (refine Vw.int' ?_; first | rfl | omega | (simp; done)) | (refine Vw.bool' ?_; first | rfl | (simp; done)) | refine Vw.agg' ?_ | refine Vw.tup' ?_ | refine Vw.clo' ?_ | exact VwO.row _ _ _ | refine VwO.box' ?_ | exact VwO.gone _ | exact VwO.mat _ _ _ | refine ⟨⟨_, rfl, ?_⟩, ?_⟩ | refine ⟨?_, ?_⟩ ))))); done)
    | (rw [hs1 (by omega) (by assumption)]; refine ⟨[_], [], ⟨resV_tmp (by conv => lhs; whnf), trivial⟩, VwOs.mk (by decide) trivial, ?_, rfl⟩; (repeat' (first | exact trivial | exact vwR rfl | exact vwRL rfl | exact Vw.val _ | exact Vw.ro _ | exact Vw.any _ | exact Vw.valro _ | exact Vw.own _ _ rfl | exact Vw.ptr _ _ _ rfl | exact Vw.rpt _ _ | exact Vw.nilro _ | exact Vw.rowro _ _ _ _ rfl (by decide) | exact Vw.rowro2 rfl (by decide) (by with_unfolding_all exact rfl) | refine Vw.agg' ?_ | refine Vw.tup' ?_ | refine Vw.clo' ?_ | refine Vw.boxrpt' rfl (by decide) ?_ | exact Nat.le_of_ble_eq_true rfl | refine ⟨?_, ?_⟩ )); done)
    | (rw [hs2 (by omega)]; refine ⟨[_], [], ⟨resV_tmp (by conv => lhs; whnf), trivial⟩, VwOs.mk (by decide) trivial, ?_, rfl⟩; (repeat' (first | exact trivial | exact vwR rfl | exact vwRL rfl | exact Vw.val _ | exact Vw.ro _ | exact Vw.any _ | exact Vw.valro _ | exact Vw.own _ _ rfl | exact Vw.ptr _ _ _ rfl | exact Vw.rpt _ _ | exact Vw.nilro _ | exact Vw.rowro _ _ _ _ rfl (by decide) | exact Vw.rowro2 rfl (by decide) (by with_unfolding_all exact rfl) | refine Vw.agg' ?_ | refine Vw.tup' ?_ | refine Vw.clo' ?_ | refine Vw.boxrpt' rfl (by decide) ?_ | exact Nat.le_of_ble_eq_true rfl | refine ⟨?_, ?_⟩ )); done)
    | (all_goals trace_state); fail
theorem placeT_in {met : List Nat} {x : Nat} (h : ∃ i, i < met.length ∧ met.getD i 0 = x) : 0 ≤ idx (fun y => decide (y = (x : Int))) (nl met) := by
  have h1 := idx_any (fun y => decide (y = (x : Int))) (nl met)
  obtain ⟨i, hi, he⟩ := h
  have h2 : (nl met).any (fun y => decide (y = (x : Int))) = true := List.any_eq_true.2 ⟨(x : Int), List.mem_map.2 ⟨x, by rw [← he, getD_of hi]; exact List.getElem_mem hi, rfl⟩, by simp⟩
  rw [h2] at h1
  exact of_decide_eq_true h1
end Go.Proofs.Ytbecnjbkbfpddaa
