import Derived.Test.YtdieojemgkfklaaDoorKq
import Derived.Test.YtdieojemgkfklaaDoorJn
set_option linter.unusedSimpArgs false
set_option linter.unusedVariables false
set_option maxRecDepth 20000
namespace Go.Proofs.YtdieojemgkfklaaDoor
attribute [local irreducible] QOp aL aC qL
theorem grT_none' {u : Nat → Nat → Bool} {L : List Nat} : ∀ {k : Nat}, grT u L k = none → ∀ i, i < k → grB u L (L.getD i 0) = false
  | 0, _, i, hi => absurd hi (by omega)
  | k + 1, h, i, hi => by
    rw [grT] at h
    cases hf : grT u L k with
    | some a => rw [hf] at h; cases h
    | none =>
      rw [hf] at h
      dsimp only at h
      by_cases hik : i = k
      · subst hik
        cases hg : grB u L (L.getD i 0)
        · rfl
        · rw [hg, if_pos rfl] at h; cases h
      · exact grT_none' hf i (by omega)
theorem grB_iff {u : Nat → Nat → Bool} {L : List Nat} {p : Nat} : grB u L p = true ↔ ∀ q, q ∈ L → q ≠ p → u q p = true := by
  unfold grB
  rw [Bool.not_eq_true', List.any_eq_false]
  constructor
  · intro h q hq hne
    have h1 := h q hq
    cases hu : u q p
    · exact absurd (by rw [hu, decide_eq_true (show p ≠ q from fun e => hne e.symm)]; rfl) h1
    · rfl
  · intro h q hq h1
    rw [Bool.and_eq_true, decide_eq_true_eq, Bool.not_eq_true'] at h1
    rw [h q hq fun e => h1.1 e.symm] at h1
    cases h1.2
theorem ts_mem {n : Nat} (hn : n ≤ 10) {u : Nat → Nat → Bool} {x y p : Nat} : p ∈ mbs (bs (tsP u x y) n) ↔ p < n ∧ tsP u x y p = true := by
  have h1 := bs_lt (tsP u x y) n
  have h2 : 2 ^ n ≤ 1024 := p2_10 hn
  rw [mbs_mem (by omega), bs_bit, Bool.and_eq_true, decide_eq_true_eq]
theorem ts_le {n : Nat} (hn : n ≤ 10) (u : Nat → Nat → Bool) (x y : Nat) : (tsF n u x y).getD n ≤ n ∧ ((tsF n u x y).getD n < n ↔ (tsF n u x y).isSome = true) := by
  cases hf : tsF n u x y with
  | none => exact ⟨Nat.le_refl _, fun h => absurd h (Nat.lt_irrefl _), fun h => by cases h⟩
  | some p =>
    have h1 := (ts_mem hn).1 (grT_mem (Nat.le_refl _) hf).1
    exact ⟨Nat.le_of_lt h1.1, fun _ => rfl, fun _ => h1.1⟩
theorem gl_ts {n : Nat} (hn : n ≤ 10) {u V : Nat → Nat → Bool} (hV : ∀ a b, V a b = true ↔ (a = b ∨ u a b = true)) (ha : ∀ a b, a < n → b < n → u a b = true → u b a = true → False) {x y z : Nat} (hz : z < n) : glB n V x y z = decide (z = (tsF n u x y).getD n) := by
  have hts : ∀ p, tsP u x y p = (V p x && V p y) := fun p => by
    unfold tsP
    rw [Bool.eq_iff_iff]
    simp only [Bool.and_eq_true, Bool.or_eq_true, decide_eq_true_eq, hV]
  have hmem : ∀ p, p ∈ mbs (bs (tsP u x y) n) ↔ p < n ∧ V p x = true ∧ V p y = true := fun p => by rw [ts_mem hn, hts, Bool.and_eq_true]
  have key : glB n V x y z = true ↔ z ∈ mbs (bs (tsP u x y) n) ∧ grB u (mbs (bs (tsP u x y) n)) z = true := by
    unfold glB
    rw [Bool.and_eq_true, Bool.and_eq_true, acc_iff, hmem, grB_iff]
    constructor
    · rintro ⟨h1, h2⟩
      refine ⟨⟨hz, h1⟩, fun q hq hne => ?_⟩
      obtain ⟨q1, q2, q3⟩ := (hmem q).1 hq
      have h3 := h2 q q1
      rw [q2, q3] at h3
      exact ((hV q z).1 (by simpa using h3)).resolve_left hne
    · rintro ⟨⟨_, h1⟩, h2⟩
      refine ⟨h1, fun w hw => ?_⟩
      cases e1 : V w x
      · rfl
      · cases e2 : V w y
        · rfl
        · have : V w z = true := (hV w z).2 (by
            by_cases hwz : w = z
            · exact .inl hwz
            · exact .inr (h2 w ((hmem w).2 ⟨hw, e1, e2⟩) hwz))
          rw [this]; rfl
  cases hf : tsF n u x y with
  | none =>
    cases hg : glB n V x y z
    · exact (decide_eq_false (fun h => by have : z = n := h; omega)).symm
    · obtain ⟨k1, k2⟩ := key.1 hg
      obtain ⟨i, hi, hiz⟩ := List.getElem_of_mem k1
      have := grT_none' hf i hi
      rw [List.getD_eq_getElem?_getD, List.getElem?_eq_getElem hi] at this
      rw [show (some (mbs (bs (tsP u x y) n))[i]).getD 0 = z from hiz, k2] at this
      cases this
  | some p =>
    obtain ⟨p1, p2⟩ := grT_mem (Nat.le_refl _) hf
    have hpn := ((hmem p).1 p1).1
    rw [Bool.eq_iff_iff, key, decide_eq_true_eq]
    constructor
    · rintro ⟨k1, k2⟩
      show z = p
      by_cases hzp : z = p
      · exact hzp
      · exact (ha z p hz hpn (grB_iff.1 p2 z k1 hzp) (grB_iff.1 k2 p p1 fun e => hzp e.symm)).elim
    · intro e
      have e : z = p := e
      subst e
      exact ⟨p1, p2⟩
def tblR (b : Bool) (n : Nat) (m w : List (List Int)) : AV := .tup [latA ((bif b then n else 0 : Nat) : Int) (bif b then m else []) (bif b then w else []), .val (.bool b)]
end Go.Proofs.YtdieojemgkfklaaDoor
