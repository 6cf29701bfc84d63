import Derived.Test.YtkapohfnoflhlaaDoorVl
import Derived.Test.YtkapohfnoflhlaaDoorVm
set_option linter.unusedSimpArgs false
set_option linter.unusedVariables false
set_option linter.unusedSectionVars false
set_option maxRecDepth 20000
namespace Go.Proofs.YtkapohfnoflhlaaDoor
open Go.RowKit
theorem ss_ext : ∀ {a b : List Int}, a.Pairwise (· < ·) → b.Pairwise (· < ·) → (∀ x, x ∈ a ↔ x ∈ b) → a = b
  | [], [], _, _, _ => rfl
  | [], y :: b, _, _, h => absurd ((h y).2 (List.mem_cons_self ..)) (by simp)
  | x :: a, [], _, _, h => absurd ((h x).1 (List.mem_cons_self ..)) (by simp)
  | x :: a, y :: b, ha, hb, h => by
    rw [List.pairwise_cons] at ha hb
    have hxy : x = y := by
      rcases List.mem_cons.1 ((h x).1 (List.mem_cons_self ..)) with e | e
      · exact e
      rcases List.mem_cons.1 ((h y).2 (List.mem_cons_self ..)) with f | f
      · exact f.symm
      have h1 := hb.1 x e
      have h2 := ha.1 y f
      omega
    subst hxy
    congr 1
    refine ss_ext ha.2 hb.2 fun z => ⟨fun hz => ?_, fun hz => ?_⟩
    · rcases List.mem_cons.1 ((h z).1 (List.mem_cons_of_mem _ hz)) with e | e
      · have := ha.1 z hz; omega
      · exact e
    · rcases List.mem_cons.1 ((h z).2 (List.mem_cons_of_mem _ hz)) with e | e
      · have := hb.1 z hz; omega
      · exact e
theorem cpt_mem (l : List Int) (x : Int) : x ∈ Go.Lib.compact l ↔ x ∈ l := by
  unfold Go.Lib.compact Go.Lib.compactUpTo
  simp only [List.mem_map, List.mem_filter, List.mem_range]
  constructor
  · rintro ⟨i, ⟨hi, _⟩, rfl⟩
    simp [hi]
  · intro hx
    obtain ⟨i, hi, rfl⟩ := List.getElem_of_mem hx
    have key : ∀ k, (hk : k < l.length) → ∃ j, (j < l.length ∧ Go.Lib.keeps l.toArray j = true) ∧ l.toArray[j]! = l[k] := fun k => by
      induction k with
      | zero => exact fun hk => ⟨0, ⟨hk, by simp [Go.Lib.keeps]⟩, by simp [hk]⟩
      | succ k ih =>
        intro hk
        by_cases hq : l[k + 1] = l[k]'(by omega)
        · obtain ⟨j, h1, h2⟩ := ih (by omega)
          exact ⟨j, h1, by rw [h2, hq]⟩
        · refine ⟨k + 1, ⟨hk, ?_⟩, by simp [hk]⟩
          have hk' : k < l.length := by omega
          simp [Go.Lib.keeps, hk, hk', hq]
    exact key i hi
theorem cpt_rise {l : List Int} (h : l.Pairwise (· ≤ ·)) : (Go.Lib.compact l).Pairwise (· < ·) := by
  unfold Go.Lib.compact Go.Lib.compactUpTo
  rw [List.pairwise_map, List.pairwise_filter]
  rw [List.pairwise_iff_getElem] at h ⊢
  intro i j hi hj hij _ hkj
  rw [List.length_range] at hi hj
  simp only [List.getElem_range] at hkj ⊢
  have hp : j - 1 < l.length := by omega
  have h1 : l[j - 1] ≤ l[j] := h (j - 1) j hp hj (by omega)
  have h2 : l[i] ≤ l[j - 1] := by
    rcases Nat.lt_or_eq_of_le (show i ≤ j - 1 by omega) with e | e
    · exact h i (j - 1) hi hp e
    · subst e; exact Int.le_refl _
  have h3 : l[j] ≠ l[j - 1] := by
    have : j ≠ 0 := by omega
    simpa [Go.Lib.keeps, this, hj, hp] using hkj
  have e1 : l.toArray[i]! = l[i] := by simp [hi]
  have e2 : l.toArray[j]! = l[j] := by simp [hj]
  rw [e1, e2]
  omega
/-- The numbers that there are, rising. -/
def dst (l : List Int) : List Int := Go.Lib.compact (srl l)
theorem dst_mem (l : List Int) (x : Int) : x ∈ dst l ↔ x ∈ l := (cpt_mem _ x).trans (srl_perm l).mem_iff
theorem dst_rise (l : List Int) : (dst l).Pairwise (· < ·) := cpt_rise (srl_sorted l)
theorem dst_eq {l r : List Int} (h : r.Pairwise (· < ·)) (hm : ∀ x, x ∈ r ↔ x ∈ l) : dst l = r := ss_ext (dst_rise l) h fun x => (dst_mem l x).trans (hm x).symm
theorem cpt_len (l : List Int) : (Go.Lib.compact l).length ≤ l.length := by
  unfold Go.Lib.compact Go.Lib.compactUpTo
  rw [List.length_map]
  exact Nat.le_trans (List.length_filter_le _ _) (by simp)
theorem dst_len (l : List Int) : (dst l).length ≤ l.length := Nat.le_trans (cpt_len _) (Nat.le_of_eq (srl_len l))
end Go.Proofs.YtkapohfnoflhlaaDoor
