import Derived.Test.YtfjpgficpdbelaaYb
set_option linter.unusedSimpArgs false
set_option linter.unusedVariables false
set_option linter.unusedSectionVars false
set_option maxRecDepth 20000
namespace Go.Proofs.Ytfjpgficpdbelaa
attribute [local irreducible] QOp aL aC qL
def atI (o : List Int) (m : Int) : Nat := (o.takeWhile fun y => decide (y < m)).length
def insI (o : List Int) (m : Int) : List Int := o.take (atI o m) ++ m :: o.drop (atI o m)
theorem atI_le (o : List Int) (m : Int) : atI o m ≤ o.length := (List.takeWhile_prefix _).length_le
theorem insI_perm (o : List Int) (m : Int) : (insI o m).Perm (m :: o) := by
  unfold insI
  refine List.perm_middle.trans ?_
  rw [List.take_append_drop]
theorem atI_lo {o : List Int} {m : Int} : ∀ y ∈ o.take (atI o m), y < m := by
  unfold atI
  induction o with
  | nil => intro y hy; simp at hy
  | cons a r ih =>
    intro y hy
    by_cases h : a < m
    · rw [List.takeWhile_cons_of_pos (by simpa using h), List.length_cons, List.take_succ_cons, List.mem_cons] at hy
      rcases hy with rfl | hy
      · exact h
      · exact ih y hy
    · rw [List.takeWhile_cons_of_neg (by simpa using h)] at hy
      simp at hy
theorem atI_hi {o : List Int} {m : Int} (hs : o.Pairwise (· ≤ ·)) : ∀ y ∈ o.drop (atI o m), m ≤ y := by
  unfold atI
  induction o with
  | nil => intro y hy; simp at hy
  | cons a r ih =>
    intro y hy
    rw [List.pairwise_cons] at hs
    by_cases h : a < m
    · rw [List.takeWhile_cons_of_pos (by simpa using h), List.length_cons, List.drop_succ_cons] at hy
      exact ih hs.2 y hy
    · rw [List.takeWhile_cons_of_neg (by simpa using h), List.length_nil, List.drop_zero, List.mem_cons] at hy
      rcases hy with rfl | hy
      · omega
      · have := hs.1 y hy; omega
theorem insI_sorted {o : List Int} {m : Int} (hs : o.Pairwise (· ≤ ·)) : (insI o m).Pairwise (· ≤ ·) := by
  unfold insI
  rw [List.pairwise_append]
  refine ⟨hs.sublist (List.take_sublist _ _), ?_, fun a ha b hb => ?_⟩
  · rw [List.pairwise_cons]
    exact ⟨atI_hi hs, hs.sublist (List.drop_sublist _ _)⟩
  · have h1 := atI_lo a ha
    rcases List.mem_cons.1 hb with rfl | hb
    · omega
    · have := atI_hi hs b hb; omega
theorem insI_mem {o : List Int} {m y : Int} : y ∈ insI o m ↔ y = m ∨ y ∈ o := by rw [(insI_perm o m).mem_iff, List.mem_cons]
def loB (l : List Ev) (i : Nat) : Bool := decide ((evA l i).1 = 2) && (List.range l.length).all fun k => decide ((evA l k).1 ≠ 3) || decide ((evA l k).2.2 ≠ (evA l i).2.2)
def loT (l : List Ev) : Nat → List Int
  | 0 => []
  | i + 1 => if loB l i = true then insI (loT l i) (evA l i).2.2 else loT l i
theorem loB_iff {l : List Ev} {i : Nat} : loB l i = true ↔ (evA l i).1 = 2 ∧ ∀ k, k < l.length → (evA l k).1 = 3 → (evA l k).2.2 ≠ (evA l i).2.2 := by
  unfold loB
  rw [Bool.and_eq_true, decide_eq_true_eq, List.all_eq_true]
  refine and_congr_right fun _ => ⟨fun h k hk h3 => ?_, fun h k hk => ?_⟩
  · have := h k (List.mem_range.2 hk)
    rw [Bool.or_eq_true, decide_eq_true_eq, decide_eq_true_eq] at this
    exact this.resolve_left fun h => h h3
  · rw [Bool.or_eq_true, decide_eq_true_eq, decide_eq_true_eq]
    by_cases h3 : (evA l k).1 = 3
    · exact .inr (h k (List.mem_range.1 hk) h3)
    · exact .inl h3
theorem loT_sorted (l : List Ev) : ∀ i, (loT l i).Pairwise (· ≤ ·)
  | 0 => List.Pairwise.nil
  | i + 1 => by
    unfold loT
    split
    · exact insI_sorted (loT_sorted l i)
    · exact loT_sorted l i
theorem loT_mem {l : List Ev} {m : Int} : ∀ i, m ∈ loT l i ↔ ∃ k, k < i ∧ loB l k = true ∧ (evA l k).2.2 = m
  | 0 => ⟨fun h => by (cases h), fun ⟨_, h, _⟩ => absurd h (Nat.not_lt_zero _)⟩
  | i + 1 => by
    have ih := loT_mem (l := l) (m := m) i
    unfold loT
    by_cases h : loB l i = true
    · rw [if_pos h, insI_mem, ih]
      constructor
      · rintro (rfl | ⟨k, hk, h1, h2⟩)
        · exact ⟨i, by omega, h, rfl⟩
        · exact ⟨k, by omega, h1, h2⟩
      · rintro ⟨k, hk, h1, h2⟩
        by_cases e : k = i
        · subst e; exact .inl h2.symm
        · exact .inr ⟨k, by omega, h1, h2⟩
    · rw [if_neg h, ih]
      constructor
      · rintro ⟨k, hk, h1, h2⟩; exact ⟨k, by omega, h1, h2⟩
      · rintro ⟨k, hk, h1, h2⟩
        by_cases e : k = i
        · subst e; exact absurd h1 h
        · exact ⟨k, by omega, h1, h2⟩
theorem loT_nodup {w : Nat} {l : List Ev} (h : EvP w l) : ∀ i, i ≤ l.length → (loT l i).Nodup
  | 0, _ => List.nodup_nil
  | i + 1, hi => by
    have ih := loT_nodup h i (by omega)
    unfold loT
    split
    · rename_i hb
      rw [(insI_perm _ _).nodup_iff, List.nodup_cons]
      refine ⟨fun hm => ?_, ih⟩
      obtain ⟨k, hk, h1, h2⟩ := (loT_mem i).1 hm
      exact ev_two h hk (by omega) (by rw [(loB_iff.1 hb).1]; decide) (by rw [(loB_iff.1 h1).1, (loB_iff.1 hb).1]) h2
    · exact ih
theorem lsT_nodup {w : Nat} {l : List Ev} (h : EvP w l) : ∀ i, i ≤ l.length → (lsT l i).Nodup
  | 0, _ => List.nodup_nil
  | i + 1, hi => by
    have ih := lsT_nodup h i (by omega)
    show (lsE (lsT l i) (evA l i)).Nodup
    unfold lsE
    split
    · rename_i h2
      rw [List.nodup_append]
      refine ⟨ih, by simp, fun a ha b hb => ?_⟩
      rw [List.mem_singleton] at hb
      subst hb
      rintro rfl
      obtain ⟨k, hk, h1, h3, _⟩ := (lsT_mem h i (by omega)).1 ha
      exact ev_two h hk (by omega) (by rw [h2]; decide) (by rw [h1, h2]) h3
    · split
      · exact ih.sublist List.filter_sublist
      · exact ih
theorem lost_eq {w : Nat} {l : List Ev} (h : EvP w l) : srl (lsT l l.length) = loT l l.length := by
  refine srl_eq ?_ (loT_sorted l _)
  refine (List.perm_ext_iff_of_nodup (loT_nodup h _ (Nat.le_refl _)) (lsT_nodup h _ (Nat.le_refl _))).2 fun m => ?_
  rw [loT_mem, lsT_mem h _ (Nat.le_refl _)]
  constructor
  · rintro ⟨k, hk, h1, h2⟩
    obtain ⟨h3, h4⟩ := loB_iff.1 h1
    exact ⟨k, hk, h3, h2, fun j hj h5 => by rw [← h2]; exact h4 j hj h5⟩
  · rintro ⟨k, hk, h1, h2, h3⟩
    exact ⟨k, hk, loB_iff.2 ⟨h1, fun j hj h5 => by rw [h2]; exact h3 j hj h5⟩, h2⟩
end Go.Proofs.Ytfjpgficpdbelaa
