/- Four functions on the sets of n points (Ahlswede, Daykin), and what follows for weights that rise (Fortuin, Kasteleyn, Ginibre; Harris). -/
import Derived.Test.YtdofbddeffgneaaEngA
namespace Go.Proofs.Ytdofbddeffgneaa
/-- The sum over all sets of n points. -/
def S : Nat → (Nat → Int) → Int
  | 0, f => f 0
  | n + 1, f => S n fun s => f (2 * s) + f (2 * s + 1)
def sumTo (f : Nat → Int) : Nat → Int
  | 0 => 0
  | k + 1 => sumTo f k + f k
theorem sumTo_two (f : Nat → Int) : ∀ m, sumTo f (2 * m) = sumTo (fun s => f (2 * s) + f (2 * s + 1)) m
  | 0 => rfl
  | m + 1 => by
    show sumTo f (2 * m + 1 + 1) = _
    rw [sumTo, sumTo, sumTo_two f m, sumTo]
    omega
theorem sumTo_S : ∀ (n : Nat) (f : Nat → Int), sumTo f (2 ^ n) = S n f
  | 0, f => by show 0 + f 0 = f 0; omega
  | n + 1, f => by
    rw [Nat.pow_succ, Nat.mul_comm, sumTo_two, sumTo_S n]; rfl
theorem sumTo_congr {f g : Nat → Int} : ∀ {k}, (∀ i, i < k → f i = g i) → sumTo f k = sumTo g k
  | 0, _ => rfl
  | k + 1, h => by rw [sumTo, sumTo, sumTo_congr (fun i hi => h i (by omega)), h k (by omega)]
theorem fourNum {a0 a1 b0 b1 c0 c1 d0 d1 : Int} (ha0 : 0 ≤ a0) (ha1 : 0 ≤ a1) (hb0 : 0 ≤ b0) (hb1 : 0 ≤ b1) (hc0 : 0 ≤ c0) (hc1 : 0 ≤ c1) (hd0 : 0 ≤ d0) (hd1 : 0 ≤ d1)
    (h00 : a0 * b0 ≤ c0 * d0) (h01 : a0 * b1 ≤ c1 * d0) (h10 : a1 * b0 ≤ c1 * d0) (h11 : a1 * b1 ≤ c1 * d1) : (a0 + a1) * (b0 + b1) ≤ (c0 + c1) * (d0 + d1) := by
  have key : a0 * b1 + a1 * b0 ≤ c1 * d0 + c0 * d1 := by
    have hw : 0 ≤ c1 * d0 := Int.mul_nonneg hc1 hd0
    have hx : 0 ≤ c0 * d1 := Int.mul_nonneg hc0 hd1
    have hu : 0 ≤ a0 * b1 := Int.mul_nonneg ha0 hb1
    have hv : 0 ≤ a1 * b0 := Int.mul_nonneg ha1 hb0
    rcases Int.lt_or_eq_of_le hw with hpos | h0
    · have e1 : (a0 * b1) * (a1 * b0) ≤ (c1 * d0) * (c0 * d1) := by
        have := Int.mul_le_mul h00 h11 (Int.mul_nonneg ha1 hb1) (Int.mul_nonneg hc0 hd0)
        have l : (a0 * b0) * (a1 * b1) = (a0 * b1) * (a1 * b0) := by ac_rfl
        have r : (c0 * d0) * (c1 * d1) = (c1 * d0) * (c0 * d1) := by ac_rfl
        rw [l, r] at this; exact this
      generalize a0 * b1 = u at *
      generalize a1 * b0 = v at *
      generalize c1 * d0 = w at *
      generalize c0 * d1 = x at *
      have e2 : 0 ≤ (w - u) * (w - v) := Int.mul_nonneg (by omega) (by omega)
      have e3 : (w - u) * (w - v) = w * w - w * v - u * w + u * v := by rw [Int.sub_mul, Int.mul_sub, Int.mul_sub]; omega
      have e4 : w * (u + v) ≤ w * (w + x) := by
        rw [Int.mul_add, Int.mul_add, Int.mul_comm w u]; omega
      exact Int.le_of_mul_le_mul_left e4 hpos
    · omega
  rw [Int.add_mul, Int.mul_add, Int.mul_add, Int.add_mul, Int.mul_add, Int.mul_add]
  omega
theorem or_two {s t i j : Nat} (hi : i < 2) (hj : j < 2) : (2 * s + i) ||| (2 * t + j) = 2 * (s ||| t) + (i ||| j) := by
  have h1 : ((2 * s + i) ||| (2 * t + j)) / 2 = s ||| t := by rw [Nat.or_div_two]; congr 1 <;> omega
  have h2 : ((2 * s + i) ||| (2 * t + j)) % 2 = i ||| j := by
    have := @Nat.or_mod_two_pow (2 * s + i) (2 * t + j) 1
    rw [Nat.pow_one] at this
    rw [this]; congr 1 <;> omega
  omega
theorem and_two {s t i j : Nat} (hi : i < 2) (hj : j < 2) : (2 * s + i) &&& (2 * t + j) = 2 * (s &&& t) + (i &&& j) := by
  have h1 : ((2 * s + i) &&& (2 * t + j)) / 2 = s &&& t := by rw [Nat.and_div_two]; congr 1 <;> omega
  have h2 : ((2 * s + i) &&& (2 * t + j)) % 2 = i &&& j := by
    have := @Nat.and_mod_two_pow (2 * s + i) (2 * t + j) 1
    rw [Nat.pow_one] at this
    rw [this]; congr 1 <;> omega
  omega
theorem fourFun : ∀ (n : Nat) (a b c d : Nat → Int), (∀ s, 0 ≤ a s) → (∀ s, 0 ≤ b s) → (∀ s, 0 ≤ c s) → (∀ s, 0 ≤ d s) →
    (∀ s, s < 2 ^ n → ∀ t, t < 2 ^ n → a s * b t ≤ c (s ||| t) * d (s &&& t)) → S n a * S n b ≤ S n c * S n d
  | 0, a, b, c, d, _, _, _, _, h => h 0 (by decide) 0 (by decide)
  | n + 1, a, b, c, d, ha, hb, hc, hd, h => by
    have nn : ∀ {f : Nat → Int}, (∀ s, 0 ≤ f s) → ∀ s, 0 ≤ f (2 * s) + f (2 * s + 1) := fun hf s => by
      have := hf (2 * s); have := hf (2 * s + 1); omega
    refine fourFun n _ _ _ _ (nn ha) (nn hb) (nn hc) (nn hd) fun s hs t ht => ?_
    have hp : 2 ^ (n + 1) = 2 * 2 ^ n := by rw [Nat.pow_succ, Nat.mul_comm]
    have g : ∀ i j, i < 2 → j < 2 → a (2 * s + i) * b (2 * t + j) ≤ c (2 * (s ||| t) + (i ||| j)) * d (2 * (s &&& t) + (i &&& j)) := fun i j hi hj => by
      have := h (2 * s + i) (by omega) (2 * t + j) (by omega)
      rwa [or_two hi hj, and_two hi hj] at this
    exact fourNum (ha _) (ha _) (hb _) (hb _) (hc _) (hc _) (hd _) (hd _) (g 0 0 (by decide) (by decide)) (g 0 1 (by decide) (by decide)) (g 1 0 (by decide) (by decide)) (g 1 1 (by decide) (by decide))
theorem harris (n : Nat) (w f g : Nat → Int) (hw : ∀ s, 0 ≤ w s) (hf : ∀ s, 0 ≤ f s) (hg : ∀ s, 0 ≤ g s)
    (hc : ∀ s, s < 2 ^ n → ∀ t, t < 2 ^ n → w s * w t ≤ w (s ||| t) * w (s &&& t))
    (rf : ∀ s, s < 2 ^ n → ∀ t, t < 2 ^ n → f s ≤ f (s ||| t)) (rg : ∀ s, s < 2 ^ n → ∀ t, t < 2 ^ n → g s ≤ g (s ||| t)) :
    S n (fun s => w s * f s) * S n (fun s => w s * g s) ≤ S n (fun s => w s * f s * g s) * S n w := by
  refine fourFun n _ _ _ _ (fun s => Int.mul_nonneg (hw s) (hf s)) (fun s => Int.mul_nonneg (hw s) (hg s)) (fun s => Int.mul_nonneg (Int.mul_nonneg (hw s) (hf s)) (hg s)) hw fun s hs t ht => ?_
  have e1 := hc s hs t ht
  have e2 : f s * g t ≤ f (s ||| t) * g (s ||| t) := Int.mul_le_mul (rf s hs t ht) (by rw [Nat.or_comm]; exact rg t ht s hs) (hg t) (hf _)
  have e3 := Int.mul_le_mul e1 e2 (Int.mul_nonneg (hf _) (hg _)) (Int.mul_nonneg (hw _) (hw _))
  have l : w s * w t * (f s * g t) = w s * f s * (w t * g t) := by ac_rfl
  have r : w (s ||| t) * w (s &&& t) * (f (s ||| t) * g (s ||| t)) = w (s ||| t) * f (s ||| t) * g (s ||| t) * w (s &&& t) := by ac_rfl
  rw [l, r] at e3
  exact e3
end Go.Proofs.Ytdofbddeffgneaa
