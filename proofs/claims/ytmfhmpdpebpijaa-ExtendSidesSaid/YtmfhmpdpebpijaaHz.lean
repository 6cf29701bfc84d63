/- Rows of points side by side, and one above the other, counted (plain). -/
import Derived.Test.YtmfhmpdpebpijaaGn
import Derived.Test.YtmfhmpdpebpijaaGy
set_option linter.unusedSimpArgs false
set_option linter.unusedVariables false
namespace Go.Proofs.Ytmfhmpdpebpijaa
attribute [local irreducible] QOp aL aC qL
/-- In how many ways p things and q things can be mixed. -/
def ch : Nat → Nat → Nat
  | 0 => fun _ => 1
  | p + 1 => fun q => sumTo (ch p) (q + 1)
theorem ch_zero : ∀ p, ch p 0 = 1
  | 0 => rfl
  | p + 1 => by show sumTo (ch p) 0 + ch p 0 = 1; rw [ch_zero p]; rfl
theorem ch_nil (q : Nat) : ch 0 q = 1 := rfl
theorem ch_succ (p q : Nat) : ch (p + 1) (q + 1) = ch (p + 1) q + ch p (q + 1) := rfl
theorem ch_both : ∀ p, (∀ q, (q + 1) * ch p (q + 1) = (p + q + 1) * ch p q) ∧ ∀ q, (p + 1) * ch (p + 1) q = (p + q + 1) * ch p q
  | 0 => by
    have hA : ∀ q, (q + 1) * ch 0 (q + 1) = (0 + q + 1) * ch 0 q := fun q => by rw [ch_nil, ch_nil]; omega
    refine ⟨hA, fun q => ?_⟩
    induction q with
    | zero => rw [ch_zero, ch_zero]
    | succ q ih => rw [ch_succ, ch_nil, Nat.mul_add]; rw [ch_nil] at ih; omega
  | p + 1 => by
    obtain ⟨hA, hB⟩ := ch_both p
    have hA' : ∀ q, (q + 1) * ch (p + 1) (q + 1) = (p + 1 + q + 1) * ch (p + 1) q := fun q => by
      have h1 := hB (q + 1)
      have h2 := hA q
      have h3 := hB q
      rw [ch_succ] at h1 ⊢
      rw [Nat.mul_add] at h1 ⊢
      have e1 : (p + 1 + q + 1) * ch (p + 1) q = (q + 1) * ch (p + 1) q + (p + 1) * ch (p + 1) q := by rw [← Nat.add_mul]; congr 1; omega
      rw [e1, h2, h3]
    refine ⟨hA', fun q => ?_⟩
    induction q with
    | zero => rw [ch_zero, ch_zero]
    | succ q ih =>
      have h2 := hA' q
      rw [ch_succ, Nat.mul_add, ih]
      have e1 : (p + 1 + (q + 1) + 1) * ch (p + 1) (q + 1) = (q + 1) * ch (p + 1) (q + 1) + (p + 1 + 1) * ch (p + 1) (q + 1) := by rw [← Nat.add_mul]; congr 1; omega
      rw [e1, h2]
theorem ch_step (p q : Nat) : (q + 1) * ch p (q + 1) = (p + q + 1) * ch p q := (ch_both p).1 q
theorem sumTo_app (g : Nat → Nat) (n : Nat) : ∀ m, sumTo g (n + m) = sumTo g n + sumTo (fun j => g (n + j)) m
  | 0 => rfl
  | m + 1 => by
    show sumTo g (n + m) + g (n + m) = sumTo g n + (sumTo (fun j => g (n + j)) m + g (n + m))
    rw [sumTo_app g n m, Nat.add_assoc]
theorem lo_or {n i s : Nat} (hi : i < n) : (s ||| 2 ^ i) % 2 ^ n = s % 2 ^ n ||| 2 ^ i ∧ (s ||| 2 ^ i) / 2 ^ n = s / 2 ^ n := by
  constructor
  · apply Nat.eq_of_testBit_eq
    intro j
    rw [Nat.testBit_mod_two_pow, Nat.testBit_or, Nat.testBit_or, Nat.testBit_mod_two_pow, Nat.testBit_two_pow]
    by_cases h : j < n
    · simp [h]
    · have : i ≠ j := by omega
      simp [h, this]
  · apply Nat.eq_of_testBit_eq
    intro j
    rw [Nat.testBit_div_two_pow, Nat.testBit_or, Nat.testBit_two_pow, Nat.testBit_div_two_pow, decide_eq_false (by omega), Bool.or_false]
theorem hi_or {n j s : Nat} : (s ||| 2 ^ (n + j)) % 2 ^ n = s % 2 ^ n ∧ (s ||| 2 ^ (n + j)) / 2 ^ n = s / 2 ^ n ||| 2 ^ j := by
  constructor
  · apply Nat.eq_of_testBit_eq
    intro i
    rw [Nat.testBit_mod_two_pow, Nat.testBit_or, Nat.testBit_mod_two_pow, Nat.testBit_two_pow]
    by_cases h : i < n
    · have : n + j ≠ i := by omega
      simp [h, this]
    · simp [h]
  · apply Nat.eq_of_testBit_eq
    intro i
    rw [Nat.testBit_div_two_pow, Nat.testBit_or, Nat.testBit_two_pow, Nat.testBit_or, Nat.testBit_div_two_pow, Nat.testBit_two_pow]
    congr 1
    rw [decide_eq_decide]
    omega
theorem cnt_s (n : Nat) (may : Nat → Nat → Bool) (f s : Nat) : cnt n may (f + 1) s = sumTo (fun p => if may s p = true then cnt n may f (s ||| 2 ^ p) else 0) n := rfl
/-- Points side by side. -/
theorem cnt_side {n m : Nat} {may mA mB : Nat → Nat → Bool} (hA : ∀ s i, i < n → may s i = mA (s % 2 ^ n) i) (hB : ∀ s j, j < m → may s (n + j) = mB (s / 2 ^ n) j) (uA : ∀ s i, mA s i = true → s.testBit i = false) (uB : ∀ s i, mB s i = true → s.testBit i = false) :
    ∀ f p q s, p + q = f → mis n (s % 2 ^ n) = p → mis m (s / 2 ^ n) = q → cnt (n + m) may f s = ch p q * (cnt n mA p (s % 2 ^ n) * cnt m mB q (s / 2 ^ n))
  | 0, p, q, s, hf, _, _ => by
    obtain rfl : p = 0 := by omega
    obtain rfl : q = 0 := by omega
    rfl
  | f + 1, p, q, s, hf, hp, hq => by
    have ih := cnt_side hA hB uA uB f
    rw [cnt_s, sumTo_app]
    have hfst : ∀ p', p = p' + 1 → sumTo (fun i => if may s i = true then cnt (n + m) may f (s ||| 2 ^ i) else 0) n = ch p' q * (cnt n mA p (s % 2 ^ n) * cnt m mB q (s / 2 ^ n)) := fun p' e => by
      subst e
      rw [cnt_s]
      have e2 : ch p' q * (sumTo (fun i => if mA (s % 2 ^ n) i = true then cnt n mA p' (s % 2 ^ n ||| 2 ^ i) else 0) n * cnt m mB q (s / 2 ^ n)) = sumTo (fun i => (ch p' q * cnt m mB q (s / 2 ^ n)) * (if mA (s % 2 ^ n) i = true then cnt n mA p' (s % 2 ^ n ||| 2 ^ i) else 0)) n := by
        rw [sumTo_mul, Nat.mul_assoc, Nat.mul_comm (cnt m mB q (s / 2 ^ n))]
      rw [e2]
      refine sumTo_congr fun i hi => ?_
      rw [hA s i hi]
      by_cases h : mA (s % 2 ^ n) i = true
      · rw [if_pos h, if_pos h]
        have h1 := uA _ _ h
        have h2 := mis_add h1 hi
        obtain ⟨l1, l2⟩ := lo_or (s := s) hi
        rw [ih p' q (s ||| 2 ^ i) (by omega) (by rw [l1]; omega) (by rw [l2]; exact hq), l1, l2]
        rw [Nat.mul_assoc, Nat.mul_comm (cnt m mB q (s / 2 ^ n))]
      · rw [if_neg h, if_neg h, Nat.mul_zero]
    have hfst0 : p = 0 → sumTo (fun i => if may s i = true then cnt (n + m) may f (s ||| 2 ^ i) else 0) n = 0 := fun e => by
      refine sumTo_zero fun i hi => ?_
      rw [hA s i hi, if_neg]
      intro h
      have h1 := uA _ _ h
      rw [e] at hp
      rw [mis_zero.1 hp i hi] at h1; cases h1
    have hsnd : ∀ q', q = q' + 1 → sumTo (fun j => if may s (n + j) = true then cnt (n + m) may f (s ||| 2 ^ (n + j)) else 0) m = ch p q' * (cnt n mA p (s % 2 ^ n) * cnt m mB q (s / 2 ^ n)) := fun q' e => by
      subst e
      rw [cnt_s m]
      have e2 : ch p q' * (cnt n mA p (s % 2 ^ n) * sumTo (fun i => if mB (s / 2 ^ n) i = true then cnt m mB q' (s / 2 ^ n ||| 2 ^ i) else 0) m) = sumTo (fun i => (ch p q' * cnt n mA p (s % 2 ^ n)) * (if mB (s / 2 ^ n) i = true then cnt m mB q' (s / 2 ^ n ||| 2 ^ i) else 0)) m := by
        rw [sumTo_mul, Nat.mul_assoc]
      rw [e2]
      refine sumTo_congr fun j hj => ?_
      rw [hB s j hj]
      by_cases h : mB (s / 2 ^ n) j = true
      · rw [if_pos h, if_pos h]
        have h1 := uB _ _ h
        have h2 := mis_add h1 hj
        obtain ⟨l1, l2⟩ := hi_or (s := s) (n := n) (j := j)
        rw [ih p q' (s ||| 2 ^ (n + j)) (by omega) (by rw [l1]; exact hp) (by rw [l2]; omega), l1, l2, Nat.mul_assoc]
      · rw [if_neg h, if_neg h, Nat.mul_zero]
    have hsnd0 : q = 0 → sumTo (fun j => if may s (n + j) = true then cnt (n + m) may f (s ||| 2 ^ (n + j)) else 0) m = 0 := fun e => by
      refine sumTo_zero fun j hj => ?_
      rw [hB s j hj, if_neg]
      intro h
      have h1 := uB _ _ h
      rw [e] at hq
      rw [mis_zero.1 hq j hj] at h1; cases h1
    cases p with
    | zero =>
      cases q with
      | zero => omega
      | succ q' => rw [hfst0 rfl, hsnd q' rfl, Nat.zero_add]; rfl
    | succ p' =>
      cases q with
      | zero => rw [hfst p' rfl, hsnd0 rfl, Nat.add_zero, ch_zero, ch_zero]
      | succ q' => rw [hfst p' rfl, hsnd q' rfl, ← Nat.add_mul, ch_succ, Nat.add_comm]
/-- Points one above the other: those above, once all below are told. -/
theorem cnt_up {n m : Nat} {may mB : Nat → Nat → Bool} (hA : ∀ s i, i < n → may s i = true → s.testBit i = false) (hB : ∀ s j, j < m → mis n (s % 2 ^ n) = 0 → may s (n + j) = mB (s / 2 ^ n) j) : ∀ f s, mis n (s % 2 ^ n) = 0 → cnt (n + m) may f s = cnt m mB f (s / 2 ^ n)
  | 0, _, _ => rfl
  | f + 1, s, hp => by
    rw [cnt_s, cnt_s, sumTo_app, sumTo_zero, Nat.zero_add]
    · refine sumTo_congr fun j hj => ?_
      rw [hB s j hj hp]
      obtain ⟨l1, l2⟩ := hi_or (s := s) (n := n) (j := j)
      rw [cnt_up hA hB f (s ||| 2 ^ (n + j)) (by rw [l1]; exact hp), l2]
    · intro i hi
      rw [if_neg]
      intro h
      have h1 := hA s i hi h
      have h2 := mis_zero.1 hp i hi
      rw [Nat.testBit_mod_two_pow, h1] at h2
      simp at h2
theorem cnt_over {n m : Nat} {may mA mB : Nat → Nat → Bool} (hA : ∀ s i, i < n → may s i = mA (s % 2 ^ n) i) (uA : ∀ s i, mA s i = true → s.testBit i = false) (hB : ∀ s j, j < m → mis n (s % 2 ^ n) = 0 → may s (n + j) = mB (s / 2 ^ n) j) (hN : ∀ s j, j < m → mis n (s % 2 ^ n) ≠ 0 → may s (n + j) = false) :
    ∀ p s, mis n (s % 2 ^ n) = p → s / 2 ^ n = 0 → cnt (n + m) may (p + m) s = cnt n mA p (s % 2 ^ n) * cnt m mB m 0
  | 0, s, hp, hs => by
    rw [Nat.zero_add, cnt_up (mB := mB) (fun s i hi h => ?_) hB m s hp, hs]
    · show _ = 1 * _
      rw [Nat.one_mul]
    · rw [hA s i hi] at h
      have := uA _ _ h
      rw [Nat.testBit_mod_two_pow] at this
      simpa [hi] using this
  | p + 1, s, hp, hs => by
    rw [show p + 1 + m = (p + m) + 1 by omega, cnt_s, cnt_s, sumTo_app]
    rw [sumTo_zero (g := fun j => if may s (n + j) = true then cnt (n + m) may (p + m) (s ||| 2 ^ (n + j)) else 0) (fun j hj => by rw [hN s j hj (by omega)]; rfl), Nat.add_zero, Nat.mul_comm, ← sumTo_mul]
    refine sumTo_congr fun i hi => ?_
    rw [hA s i hi]
    by_cases h : mA (s % 2 ^ n) i = true
    · rw [if_pos h, if_pos h]
      have h1 := uA _ _ h
      have h2 := mis_add h1 hi
      obtain ⟨l1, l2⟩ := lo_or (s := s) hi
      rw [cnt_over hA uA hB hN p (s ||| 2 ^ i) (by rw [l1]; omega) (by rw [l2]; exact hs), l1, Nat.mul_comm]
    · rw [if_neg h, if_neg h, Nat.mul_zero]
end Go.Proofs.Ytmfhmpdpebpijaa
