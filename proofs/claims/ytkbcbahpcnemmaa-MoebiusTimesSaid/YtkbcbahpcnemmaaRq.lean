/- MOEBIUS of pairs is the product (plain). -/
import Derived.Test.YtkbcbahpcnemmaaRa
set_option linter.unusedSimpArgs false
set_option linter.unusedVariables false
set_option linter.unusedSectionVars false
set_option maxRecDepth 20000
namespace Go.Proofs.Ytkbcbahpcnemmaa
theorem sumI_addQ (f : Nat → Int) (m : Nat) : ∀ k, sumI f (m + k) = sumI f m + sumI (fun i => f (m + i)) k
  | 0 => (Int.add_zero _).symm
  | k + 1 => by
    show sumI f (m + k) + f (m + k) = sumI f m + (sumI (fun i => f (m + i)) k + f (m + k))
    rw [sumI_addQ f m k]; omega
/-- Over pairs. -/
theorem sumI_pair (f : Nat → Int) (m : Nat) : ∀ n, sumI f (n * m) = sumI (fun x => sumI (fun y => f (x * m + y)) m) n
  | 0 => by rw [Nat.zero_mul]; rfl
  | n + 1 => by rw [Nat.succ_mul, sumI_addQ, sumI_pair f m n, sumI_s]
/-- What is below what of pairs. -/
def prL (m : Nat) (L K : Nat → Nat → Bool) (p q : Nat) : Bool := decide (p ≠ q) && (decide (p / m = q / m) || L (p / m) (q / m)) && (decide (p % m = q % m) || K (p % m) (q % m))
theorem prL_zt {n m : Nat} {L K : Nat → Nat → Bool} (hL : StO n L) (hK : StO m K) {p q : Nat} (hm : 0 < m) : zt (prL m L K) p q = zt L (p / m) (q / m) * zt K (p % m) (q % m) := by
  unfold zt prL
  by_cases e : p = q
  · subst e
    rw [if_pos (.inl rfl), if_pos (.inl rfl), if_pos (.inl rfl)]; rfl
  · have hpq : ¬ (p / m = q / m ∧ p % m = q % m) := fun ⟨a, b⟩ => e (by rw [← Nat.div_add_mod p m, ← Nat.div_add_mod q m, a, b])
    by_cases h1 : p / m = q / m ∨ L (p / m) (q / m) = true
    · by_cases h2 : p % m = q % m ∨ K (p % m) (q % m) = true
      · rw [if_pos h1, if_pos h2, if_pos]; · rfl
        right
        rw [decide_eq_true e, Bool.true_and, Bool.and_eq_true, Bool.or_eq_true, Bool.or_eq_true, decide_eq_true_eq, decide_eq_true_eq]
        exact ⟨h1, h2⟩
      · rw [if_neg h2, Int.mul_zero, if_neg]
        rintro (h | h)
        · exact e h
        · rw [Bool.and_eq_true, Bool.or_eq_true, decide_eq_true_eq] at h
          exact h2 h.2
    · rw [if_neg h1, Int.zero_mul, if_neg]
      rintro (h | h)
      · exact e h
      · rw [Bool.and_eq_true, Bool.and_eq_true, Bool.or_eq_true, decide_eq_true_eq, decide_eq_true_eq] at h
        exact h1 h.1.2
theorem pr_stO {n m : Nat} {L K : Nat → Nat → Bool} (hL : StO n L) (hK : StO m K) (hm : 0 < m) : StO (n * m) (prL m L K) := by
  have hd : ∀ p, p < n * m → p / m < n := fun p hp => Nat.div_lt_of_lt_mul (by rw [Nat.mul_comm]; exact hp)
  have hr : ∀ p, p % m < m := fun p => Nat.mod_lt p hm
  refine ⟨fun i _ => by unfold prL; simp, fun i j k hi hj hk h1 h2 => ?_⟩
  unfold prL at h1 h2 ⊢
  simp only [Bool.and_eq_true, Bool.or_eq_true, decide_eq_true_eq] at h1 h2 ⊢
  obtain ⟨⟨a1, a2⟩, a3⟩ := h1
  obtain ⟨⟨b1, b2⟩, b3⟩ := h2
  have c2 : i / m = k / m ∨ L (i / m) (k / m) = true := by
    rcases a2 with e | e
    · rw [e]; exact b2
    · rcases b2 with e' | e'
      · rw [← e']; exact .inr e
      · exact .inr (hL.tr _ _ _ (hd i hi) (hd j hj) (hd k hk) e e')
  have c3 : i % m = k % m ∨ K (i % m) (k % m) = true := by
    rcases a3 with e | e
    · rw [e]; exact b3
    · rcases b3 with e' | e'
      · rw [← e']; exact .inr e
      · exact .inr (hK.tr _ _ _ (hr i) (hr j) (hr k) e e')
  refine ⟨⟨fun e => ?_, c2⟩, c3⟩
  subst e
  have d2 : i / m = j / m := by
    rcases a2 with e | e
    · exact e
    · rcases b2 with e' | e'
      · exact e'.symm
      · exact (hL.as (hd i hi) (hd j hj) e e').elim
  have d3 : i % m = j % m := by
    rcases a3 with e | e
    · exact e
    · rcases b3 with e' | e'
      · exact e'.symm
      · exact (hK.as (hr i) (hr j) e e').elim
  exact a1 (by rw [← Nat.div_add_mod i m, ← Nat.div_add_mod j m, d2, d3])
/-- Whatever, summed up, is one point, is MOEBIUS. -/
theorem mu_uniq {n : Nat} {L : Nat → Nat → Bool} (h : StO n L) {a : Nat} (ha : a < n) {F : Nat → Int} (hF : ∀ y, y < n → sumI (fun x => F x * zt L x y) n = if a = y then 1 else 0) {b : Nat} (hb : b < n) : F b = mu n L a b := by
  have e1 : sumI (fun x => sumI (fun c => F x * (zt L x c * nu n L c b)) n) n = F b := by
    rw [sumI_congr (g := fun x => F x * if x = b then 1 else 0) fun x hx => by rw [sumI_mulL, zt_nu h hx hb]]
    rw [sumI_sgl hb fun x _ hne => by rw [if_neg hne, Int.mul_zero], if_pos rfl, Int.mul_one]
  have e2 : sumI (fun x => sumI (fun c => F x * (zt L x c * nu n L c b)) n) n = nu n L a b := by
    rw [sumI_sw]
    rw [sumI_congr (g := fun c => (if a = c then 1 else 0) * nu n L c b) fun c hc => by
      rw [← hF c hc, ← sumI_mulR]
      exact sumI_congr fun x _ => (Int.mul_assoc _ _ _).symm]
    rw [sumI_sgl ha fun x _ hne => by rw [if_neg (Ne.symm hne), Int.zero_mul], if_pos rfl, Int.one_mul]
  rw [← e1, e2, mu_nu h ha hb]
theorem mu_pair {n m : Nat} {L K : Nat → Nat → Bool} (hL : StO n L) (hK : StO m K) {a b : Nat} (ha : a < n * m) (hb : b < n * m) : mu (n * m) (prL m L K) a b = mu n L (a / m) (b / m) * mu m K (a % m) (b % m) := by
  have hm : 0 < m := by
    rcases Nat.eq_zero_or_pos m with q | q
    · subst q; rw [Nat.mul_zero] at ha; omega
    · exact q
  have hd : ∀ p, p < n * m → p / m < n := fun p hp => Nat.div_lt_of_lt_mul (by rw [Nat.mul_comm]; exact hp)
  have hr : ∀ p, p % m < m := fun p => Nat.mod_lt p hm
  refine (mu_uniq (F := fun q => mu n L (a / m) (q / m) * mu m K (a % m) (q % m)) (pr_stO hL hK hm) ha (fun y hy => ?_) hb).symm
  rw [sumI_pair]
  have e1 : ∀ x, x < n → sumI (fun z => mu n L (a / m) ((x * m + z) / m) * mu m K (a % m) ((x * m + z) % m) * zt (prL m L K) (x * m + z) y) m = mu n L (a / m) x * zt L x (y / m) * if a % m = y % m then 1 else 0 := fun x hx => by
    rw [← mu_zt hK (hr a) (hr y), ← sumI_mulL]
    refine sumI_congr fun z hz => ?_
    have q1 : (x * m + z) / m = x := by rw [Nat.mul_comm, Nat.mul_add_div hm, Nat.div_eq_of_lt hz, Nat.add_zero]
    have q2 : (x * m + z) % m = z := by rw [Nat.mul_comm, Nat.mul_add_mod, Nat.mod_eq_of_lt hz]
    rw [prL_zt hL hK hm, q1, q2]
    rw [Int.mul_assoc, Int.mul_assoc, Int.mul_left_comm (mu m K (a % m) z)]
  rw [sumI_congr e1, sumI_mulR, mu_zt hL (hd a ha) (hd y hy)]
  by_cases e : a = y
  · subst e; simp
  · rw [if_neg e]
    by_cases h1 : a / m = y / m
    · rw [if_pos h1, if_neg, Int.mul_zero]
      intro h2
      exact e (by rw [← Nat.div_add_mod a m, ← Nat.div_add_mod y m, h1, h2])
    · rw [if_neg h1, Int.zero_mul]
end Go.Proofs.Ytkbcbahpcnemmaa
