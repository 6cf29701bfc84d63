/- Numbers counted (plain). -/
import Derived.Test.YtdkkalplgfhpdaaFb
set_option linter.unusedSimpArgs false
set_option linter.unusedVariables false
set_option linter.unusedSectionVars false
set_option maxRecDepth 20000
namespace Go.Proofs.Ytdkkalplgfhpdaa
attribute [local irreducible] QOp aL aC qL
/-- How many of the first k numbers. -/
def cqN (p : Nat → Bool) : Nat → Nat
  | 0 => 0
  | k + 1 => if p k = true then cqN p k + 1 else cqN p k
def sqN (f : Nat → Nat) : Nat → Nat
  | 0 => 0
  | k + 1 => sqN f k + f k
theorem cqN_le (p : Nat → Bool) : ∀ k, cqN p k ≤ k
  | 0 => Nat.le_refl _
  | k + 1 => by have := cqN_le p k; rw [cqN]; split <;> omega
theorem cqN_step (p : Nat → Bool) (k : Nat) : cqN p (k + 1) = cqN p k + cqN (fun j => p (k + j)) 1 := by
  simp only [cqN, Nat.add_zero]
  split <;> omega
theorem cqN_add (p : Nat → Bool) (a : Nat) : ∀ b, cqN p (a + b) = cqN p a + cqN (fun j => p (a + j)) b
  | 0 => rfl
  | b + 1 => by
    have := cqN_add p a b
    show cqN p (a + b + 1) = _
    simp only [cqN]
    split <;> omega
theorem cqN_ext {p q : Nat → Bool} : ∀ {k : Nat}, (∀ i, i < k → p i = q i) → cqN p k = cqN q k
  | 0, _ => rfl
  | k + 1, h => by
    rw [cqN, cqN, h k (by omega), cqN_ext fun i hi => h i (by omega)]
theorem cqN_len (p : Nat → Bool) : ∀ k, ((List.range k).filter p).length = cqN p k
  | 0 => rfl
  | k + 1 => by
    rw [List.range_succ, List.filter_append, List.length_append, cqN_len p k, cqN]
    by_cases h : p k = true <;> simp [List.filter, h]
theorem cqN_zero {p : Nat → Bool} : ∀ {k : Nat}, cqN p k = 0 ↔ ∀ i, i < k → p i = false
  | 0 => ⟨fun _ i h => absurd h (Nat.not_lt_zero _), fun _ => rfl⟩
  | k + 1 => by
    rw [cqN]
    constructor
    · intro h i hi
      by_cases hp : p k = true
      · rw [if_pos hp] at h; omega
      · rw [if_neg hp] at h
        by_cases e : i = k
        · subst e; simpa using hp
        · exact cqN_zero.1 h i (by omega)
    · intro h
      rw [if_neg (by rw [h k (by omega)]; decide)]
      exact cqN_zero.2 fun i hi => h i (by omega)
theorem sqN_zero : ∀ k, sqN (fun _ => 0) k = 0
  | 0 => rfl
  | k + 1 => by rw [sqN, sqN_zero k]
theorem sqN_ext {f g : Nat → Nat} : ∀ {k : Nat}, (∀ i, i < k → f i = g i) → sqN f k = sqN g k
  | 0, _ => rfl
  | k + 1, h => by
    rw [sqN, sqN, h k (by omega), sqN_ext fun i hi => h i (by omega)]
theorem sqN_le {f : Nat → Nat} {B : Nat} : ∀ {k : Nat}, (∀ i, i < k → f i ≤ B) → sqN f k ≤ k * B
  | 0, _ => by rw [sqN]; omega
  | k + 1, h => by
    have h1 := h k (by omega)
    have h2 := sqN_le (f := f) (B := B) (k := k) fun i hi => h i (by omega)
    rw [sqN, Nat.succ_mul]; omega
theorem sqN_mono {f : Nat → Nat} {a b : Nat} (h : a ≤ b) : sqN f a ≤ sqN f b := by
  obtain ⟨d, rfl⟩ := Nat.exists_eq_add_of_le h
  clear h
  induction d with
  | zero => exact Nat.le_refl _
  | succ d ih =>
    show _ ≤ sqN f (a + d) + f (a + d)
    omega
theorem sqN_cq (f : Nat → Nat) (p : Nat → Bool) : ∀ k, sqN (fun x => if p x = true then f x + 1 else f x) k = sqN f k + cqN p k
  | 0 => rfl
  | k + 1 => by
    have := sqN_cq f p k
    rw [sqN, sqN, cqN, this]
    split <;> omega
theorem cqN_mul (R : Nat → Nat → Bool) {m : Nat} (hm : 0 < m) : ∀ M, cqN (fun j => R (j % m) (j / m)) (M * m) = sqN (fun x => cqN (R x) M) m
  | 0 => by
    rw [Nat.zero_mul]
    exact (sqN_zero m).symm
  | M + 1 => by
    have e : cqN (fun j => R ((M * m + j) % m) ((M * m + j) / m)) m = cqN (fun x => R x M) m := cqN_ext fun i hi => by
      have h1 : (M * m + i) % m = i := by rw [Nat.add_comm, Nat.add_mul_mod_self_right, Nat.mod_eq_of_lt hi]
      have h2 : (M * m + i) / m = M := by rw [Nat.add_comm, Nat.add_mul_div_right _ _ hm, Nat.div_eq_of_lt hi, Nat.zero_add]
      rw [h1, h2]
    rw [Nat.succ_mul, cqN_add, cqN_mul R hm M, e]
    exact (sqN_cq (fun x => cqN (R x) M) (fun x => R x M) m).symm
end Go.Proofs.Ytdkkalplgfhpdaa
