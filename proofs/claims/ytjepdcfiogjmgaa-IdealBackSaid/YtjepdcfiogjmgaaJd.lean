import Derived.Test.YtjepdcfiogjmgaaJa
set_option linter.unusedSimpArgs false
set_option linter.unusedVariables false
set_option maxRecDepth 20000
namespace Go.Proofs.Ytjepdcfiogjmgaa
attribute [local irreducible] QOp aL aC qL
theorem pigeonT : ∀ (L T : Nat) (f : Nat → Nat), (∀ i, i < T → f i < L) → (∀ i j, i < j → j < T → f i ≠ f j) → T ≤ L
  | 0, T, f, h, _ => by
    rcases Nat.eq_zero_or_pos T with h0 | h0
    · omega
    · have := h 0 h0; omega
  | L + 1, T, f, h, hi => by
    by_cases hq : ∃ i, i < T ∧ f i = L
    · obtain ⟨i, hiT, hfi⟩ := hq
      have := pigeonT L (T - 1) (fun j => if j < i then f j else f (j + 1)) (fun j hj => by
        show (if j < i then f j else f (j + 1)) < L
        split
        · rename_i hji
          have h1 := h j (by omega)
          have h2 := hi j i hji hiT
          omega
        · rename_i hji
          have h1 := h (j + 1) (by omega)
          have h2 := hi i (j + 1) (by omega) (by omega)
          omega) (fun a b hab hb => by
        show (if a < i then f a else f (a + 1)) ≠ (if b < i then f b else f (b + 1))
        split <;> split
        · exact hi a b hab (by omega)
        · exact hi a (b + 1) (by omega) (by omega)
        · omega
        · exact hi (a + 1) (b + 1) (by omega) (by omega))
      omega
    · have := pigeonT L T f (fun i hiT => by
        have h1 := h i hiT
        have h2 : f i ≠ L := fun h3 => hq ⟨i, hiT, h3⟩
        omega) hi
      omega
theorem countT_le {T L : Nat} {P : Nat → Nat → Prop} (h : ∀ i, i < T → ∃ j, j < L ∧ P i j) (hinj : ∀ i i' j, i < i' → i' < T → P i j → P i' j → False) : T ≤ L := by
  have hf : ∃ f : Nat → Nat, ∀ i, i < T → f i < L ∧ P i (f i) := ⟨fun i => if hi : i < T then Classical.choose (h i hi) else 0, fun i hi => by
    dsimp only
    rw [dif_pos hi]
    exact Classical.choose_spec (h i hi)⟩
  obtain ⟨f, hf⟩ := hf
  exact pigeonT L T f (fun i hi => (hf i hi).1) (fun i j hij hj he => hinj i j (f i) hij hj (hf i (by omega)).2 (by rw [he]; exact (hf j hj).2))
/-- Those of the first x whose value is new. -/
def fsT (F : List Nat) (x : Nat) : List Nat := (List.range x).filter fun i => !(List.range i).any fun j => decide (fa F j = fa F i)
def seen (F : List Nat) (x y : Nat) : Bool := (List.range x).any fun i => decide (fa F i = y)
def sn (F : List Nat) (k x : Nat) : List Bool := (List.range k).map (seen F x)
end Go.Proofs.Ytjepdcfiogjmgaa
