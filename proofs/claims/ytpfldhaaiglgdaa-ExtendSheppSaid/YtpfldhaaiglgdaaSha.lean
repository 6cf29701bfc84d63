import Derived.Test.YtpfldhaaiglgdaaGxb
set_option linter.unusedSimpArgs false
set_option linter.unusedVariables false
set_option linter.unusedSectionVars false
set_option maxRecDepth 20000
namespace Go.Proofs.Ytpfldhaaiglgdaa
attribute [local irreducible] QOp aL aC qL

/-! Four functions on the sets of n points (Ahlswede, Daykin), in naturals. -/
theorem fourN {a0 a1 b0 b1 c0 c1 d0 d1 : Nat} (h00 : a0 * b0 ≤ c0 * d0) (h01 : a0 * b1 ≤ c1 * d0) (h10 : a1 * b0 ≤ c1 * d0) (h11 : a1 * b1 ≤ c1 * d1) : (a0 + a1) * (b0 + b1) ≤ (c0 + c1) * (d0 + d1) := by
  have key : a0 * b1 + a1 * b0 ≤ c1 * d0 + c0 * d1 := by
    by_cases h0 : c1 * d0 = 0
    · omega
    · have e1 : (a0 * b1) * (a1 * b0) ≤ (c1 * d0) * (c0 * d1) := by
        have := Nat.mul_le_mul h00 h11
        have l : (a0 * b0) * (a1 * b1) = (a0 * b1) * (a1 * b0) := by ac_rfl
        have r : (c0 * d0) * (c1 * d1) = (c1 * d0) * (c0 * d1) := by ac_rfl
        rw [l, r] at this; exact this
      generalize a0 * b1 = u at *
      generalize a1 * b0 = v at *
      generalize c1 * d0 = w at *
      generalize c0 * d1 = x at *
      obtain ⟨i, rfl⟩ := Nat.exists_eq_add_of_le h01
      obtain ⟨j, hj⟩ := Nat.exists_eq_add_of_le h10
      have e4 : (u + i) * (u + v) ≤ (u + i) * ((u + i) + x) := by
        have : (u + i) * (u + v) ≤ (u + i) * (u + i) + u * v := by
          rw [Nat.mul_add, Nat.mul_add (u + i) u i]
          have e5 : (u + i) * v = u * v + i * v := by rw [Nat.add_mul]
          have e6 : i * v ≤ (u + i) * i := by
            rw [hj, Nat.mul_comm]; exact Nat.mul_le_mul_right i (by omega)
          omega
        rw [Nat.mul_add (u + i) (u + i) x]
        omega
      exact Nat.le_of_mul_le_mul_left e4 (by omega)
  rw [Nat.add_mul, Nat.mul_add, Nat.mul_add, Nat.add_mul, Nat.mul_add, Nat.mul_add]
  omega
def sT : Nat → (Nat → Nat) → Nat
  | 0, f => f 0
  | n + 1, f => sT n fun s => f (2 * s) + f (2 * s + 1)
theorem sumTo_twoN (f : Nat → Nat) : ∀ m, sumTo f (2 * m) = sumTo (fun s => f (2 * s) + f (2 * s + 1)) m
  | 0 => rfl
  | m + 1 => by
    show sumTo f (2 * m + 1 + 1) = _
    rw [sumTo, sumTo, sumTo_twoN f m, sumTo]
    omega
theorem sumTo_sT : ∀ (n : Nat) (f : Nat → Nat), sumTo f (2 ^ n) = sT n f
  | 0, f => by show 0 + f 0 = f 0; omega
  | n + 1, f => by
    rw [Nat.pow_succ, Nat.mul_comm, sumTo_twoN, sumTo_sT n]; rfl
theorem or_twoN {s t i j : Nat} (hi : i < 2) (hj : j < 2) : (2 * s + i) ||| (2 * t + j) = 2 * (s ||| t) + (i ||| j) := by
  have h1 : ((2 * s + i) ||| (2 * t + j)) / 2 = s ||| t := by rw [Nat.or_div_two]; congr 1 <;> omega
  have h2 : ((2 * s + i) ||| (2 * t + j)) % 2 = i ||| j := by
    have := @Nat.or_mod_two_pow (2 * s + i) (2 * t + j) 1
    rw [Nat.pow_one] at this
    rw [this]; congr 1 <;> omega
  omega
theorem and_twoN {s t i j : Nat} (hi : i < 2) (hj : j < 2) : (2 * s + i) &&& (2 * t + j) = 2 * (s &&& t) + (i &&& j) := by
  have h1 : ((2 * s + i) &&& (2 * t + j)) / 2 = s &&& t := by rw [Nat.and_div_two]; congr 1 <;> omega
  have h2 : ((2 * s + i) &&& (2 * t + j)) % 2 = i &&& j := by
    have := @Nat.and_mod_two_pow (2 * s + i) (2 * t + j) 1
    rw [Nat.pow_one] at this
    rw [this]; congr 1 <;> omega
  omega
theorem fourT : ∀ (n : Nat) (a b c d : Nat → Nat),
    (∀ s, s < 2 ^ n → ∀ t, t < 2 ^ n → a s * b t ≤ c (s ||| t) * d (s &&& t)) → sT n a * sT n b ≤ sT n c * sT n d
  | 0, a, b, c, d, h => h 0 (by decide) 0 (by decide)
  | n + 1, a, b, c, d, h => by
    refine fourT n _ _ _ _ fun s hs t ht => ?_
    have hp : 2 ^ (n + 1) = 2 * 2 ^ n := by rw [Nat.pow_succ, Nat.mul_comm]
    have g : ∀ i j, i < 2 → j < 2 → a (2 * s + i) * b (2 * t + j) ≤ c (2 * (s ||| t) + (i ||| j)) * d (2 * (s &&& t) + (i &&& j)) := fun i j hi hj => by
      have := h (2 * s + i) (by omega) (2 * t + j) (by omega)
      rwa [or_twoN hi hj, and_twoN hi hj] at this
    exact fourN (g 0 0 (by decide) (by decide)) (g 0 1 (by decide) (by decide)) (g 1 0 (by decide) (by decide)) (g 1 1 (by decide) (by decide))
theorem fourSum {n : Nat} {a b c d : Nat → Nat} (h : ∀ s, s < 2 ^ n → ∀ t, t < 2 ^ n → a s * b t ≤ c (s ||| t) * d (s &&& t)) : sumTo a (2 ^ n) * sumTo b (2 ^ n) ≤ sumTo c (2 ^ n) * sumTo d (2 ^ n) := by
  rw [sumTo_sT, sumTo_sT, sumTo_sT, sumTo_sT]; exact fourT n a b c d h
/-! Sums. -/
theorem sumTo_swap (g : Nat → Nat → Nat) (m : Nat) : ∀ k, sumTo (fun i => sumTo (g i) m) k = sumTo (fun j => sumTo (fun i => g i j) k) m
  | 0 => (sumTo_zero fun _ _ => rfl).symm
  | k + 1 => by
    rw [sumTo, sumTo_swap g m k, ← sumTo_add]
    exact sumTo_congr fun _ _ => rfl
theorem sumTo_pick {c : Nat} : ∀ {k x : Nat}, x < k → sumTo (fun i => if i = x then c else 0) k = c
  | 0, x, h => by omega
  | k + 1, x, h => by
    rw [sumTo]
    by_cases hx : k = x
    · subst hx
      rw [if_pos rfl, sumTo_zero fun i hi => if_neg (by omega)]; omega
    · rw [if_neg hx, sumTo_pick (by omega)]; omega
theorem sumTo_uniq {g : Nat → Nat} {M : Nat} (hM : ∀ p, g p ≤ M) : ∀ {k : Nat}, (∀ p q, p < k → q < k → g p ≠ 0 → g q ≠ 0 → p = q) → sumTo g k ≤ M
  | 0, _ => Nat.zero_le _
  | k + 1, h => by
    rw [sumTo]
    by_cases hk : g k = 0
    · rw [hk]; exact sumTo_uniq hM fun p q hp hq => h p q (by omega) (by omega)
    · rw [sumTo_zero fun i hi => ?_, Nat.zero_add]
      · exact hM k
      · apply Classical.byContradiction
        intro hi0
        have := h i k (by omega) (by omega) hi0 hk
        omega
theorem sumTo_const (c : Nat) : ∀ k, sumTo (fun _ => c) k = k * c
  | 0 => by simp [sumTo]
  | k + 1 => by rw [sumTo, sumTo_const c k, Nat.add_mul, Nat.one_mul]
/-! How much a set lacks of another one. -/
def gap (n D s : Nat) : Nat := (List.range n).countP fun i => D.testBit i && !s.testBit i
theorem gap_succ (n D s : Nat) : gap (n + 1) D s = gap n D s + if (D.testBit n && !s.testBit n) = true then 1 else 0 := by
  unfold gap
  rw [List.range_succ, List.countP_append]
  by_cases h : (D.testBit n && !s.testBit n) = true <;> simp [List.countP_cons, h]
theorem gap_out {D s p : Nat} : ∀ {n : Nat}, n ≤ p → gap n D (s ||| 2 ^ p) = gap n D s
  | 0, _ => rfl
  | n + 1, h => by
    rw [gap_succ, gap_succ, gap_out (by omega), Nat.testBit_or, Nat.testBit_two_pow, decide_eq_false (by omega), Bool.or_false]
theorem gap_add {D s p : Nat} (hs : s.testBit p = false) (hD : D.testBit p = true) : ∀ {n : Nat}, p < n → gap n D (s ||| 2 ^ p) + 1 = gap n D s
  | 0, h => by omega
  | n + 1, h => by
    rw [gap_succ, gap_succ]
    by_cases hp : p = n
    · subst hp
      rw [gap_out (Nat.le_refl p), Nat.testBit_or, Nat.testBit_two_pow_self, hs, hD]
      simp
    · have := gap_add hs hD (n := n) (by omega)
      rw [Nat.testBit_or, Nat.testBit_two_pow, decide_eq_false hp, Bool.or_false]
      omega
theorem gap_mono {D s t : Nat} (h : ∀ i, s.testBit i = true → t.testBit i = true) : ∀ n, gap n D t ≤ gap n D s
  | 0 => Nat.le_refl _
  | n + 1 => by
    have := gap_mono (D := D) h n
    rw [gap_succ, gap_succ]
    have hn := h n
    cases hs : s.testBit n <;> cases ht : t.testBit n <;> cases hd : D.testBit n <;> simp_all <;> omega
theorem gap_monoD {D E s : Nat} (h : ∀ i, D.testBit i = true → E.testBit i = true) : ∀ n, gap n D s ≤ gap n E s
  | 0 => Nat.le_refl _
  | n + 1 => by
    have := gap_monoD (s := s) h n
    rw [gap_succ, gap_succ]
    have hn := h n
    cases hs : s.testBit n <;> cases ht : E.testBit n <;> cases hd : D.testBit n <;> simp_all <;> omega
theorem gap_sums {S T D E : Nat} (hS : ∀ i, S.testBit i = true → D.testBit i = true) (hT : ∀ i, T.testBit i = true → E.testBit i = true) : ∀ n, gap n D S + gap n E T = gap n (D ||| E) (S ||| T) + gap n (D &&& E) (S &&& T)
  | 0 => rfl
  | n + 1 => by
    have := gap_sums hS hT n
    rw [gap_succ, gap_succ, gap_succ, gap_succ, Nat.testBit_or, Nat.testBit_or, Nat.testBit_and, Nat.testBit_and]
    have h1 := hS n
    have h2 := hT n
    cases hs : S.testBit n <;> cases ht : T.testBit n <;> cases hd : D.testBit n <;> cases he : E.testBit n <;> simp_all <;> omega
theorem gap_self (D : Nat) : ∀ n, gap n D D = 0
  | 0 => rfl
  | n + 1 => by rw [gap_succ, gap_self D n]; cases D.testBit n <;> simp
theorem gap_zero {D s : Nat} : ∀ {n : Nat}, gap n D s = 0 → ∀ i, i < n → D.testBit i = true → s.testBit i = true
  | 0, _, i, hi, _ => by omega
  | n + 1, h, i, hi, hd => by
    rw [gap_succ] at h
    by_cases hin : i = n
    · subst hin
      rw [hd] at h
      cases hs : s.testBit i
      · rw [hs] at h; simp at h
      · rfl
    · exact gap_zero (n := n) (by omega) i (by omega) hd
theorem eq_of_gap {n D s : Nat} (hD : D < 2 ^ n) (hs : ∀ i, s.testBit i = true → D.testBit i = true) (h : gap n D s = 0) : s = D := by
  apply Nat.eq_of_testBit_eq
  intro i
  cases hd : D.testBit i
  · cases hq : s.testBit i
    · rfl
    · rw [hs i hq] at hd; cases hd
  · have hin : i < n := by
      apply Classical.byContradiction
      intro hn
      rw [Nat.testBit_lt_two_pow (Nat.lt_of_lt_of_le hD (Nat.pow_le_pow_right (by decide) (by omega)))] at hd
      cases hd
    exact gap_zero h i hin hd
def leB (a b : Nat) : Bool := a ||| b == b
theorem leB_iff {a b : Nat} : leB a b = true ↔ ∀ i, a.testBit i = true → b.testBit i = true := by
  unfold leB
  rw [beq_iff_eq]
  constructor
  · intro h i hi
    rw [← h, Nat.testBit_or, hi, Bool.true_or]
  · intro h
    apply Nat.eq_of_testBit_eq
    intro i
    rw [Nat.testBit_or]
    cases ha : a.testBit i
    · rfl
    · rw [h i ha]; rfl
theorem leB_refl (a : Nat) : leB a a = true := leB_iff.2 fun _ h => h
theorem or_bit_iff {s p i : Nat} : (s ||| 2 ^ p).testBit i = true ↔ s.testBit i = true ∨ p = i := by
  rw [Nat.testBit_or, Nat.testBit_two_pow, Bool.or_eq_true, decide_eq_true_eq]

def mayI (I : Nat → Bool) (D s p : Nat) : Bool := !s.testBit p && D.testBit p && I (s ||| 2 ^ p)
/-- In how many ways the points that s lacks of D may come, one by one, so that each set on the way is one of I. -/
def wys (n : Nat) (I : Nat → Bool) (D s : Nat) : Nat := cnt n (mayI I D) (gap n D s) s
theorem mayI_iff {I : Nat → Bool} {D s p : Nat} : mayI I D s p = true ↔ s.testBit p = false ∧ D.testBit p = true ∧ I (s ||| 2 ^ p) = true := by
  unfold mayI; rw [Bool.and_eq_true, Bool.and_eq_true, Bool.not_eq_true', and_assoc]
theorem wys_self (n : Nat) (I : Nat → Bool) (D : Nat) : wys n I D D = 1 := by unfold wys; rw [gap_self]; rfl
theorem bit_ltS {n D i : Nat} (hD : D < 2 ^ n) (h : D.testBit i = true) : i < n := by
  apply Classical.byContradiction
  intro hn
  rw [Nat.testBit_lt_two_pow (Nat.lt_of_lt_of_le hD (Nat.pow_le_pow_right (by decide) (by omega)))] at h
  cases h
theorem wys_step {n : Nat} {I : Nat → Bool} {D s : Nat} (hD : D < 2 ^ n) (hs : leB s D = true) (hne : s ≠ D) :
    wys n I D s = sumTo (fun p => if mayI I D s p = true then wys n I D (s ||| 2 ^ p) else 0) n := by
  have hg : gap n D s ≠ 0 := fun h => hne (eq_of_gap hD (leB_iff.1 hs) h)
  obtain ⟨f, hf⟩ := Nat.exists_eq_succ_of_ne_zero hg
  show cnt n (mayI I D) (gap n D s) s = _
  rw [hf]
  refine sumTo_congr fun p hp => ?_
  by_cases h : mayI I D s p = true
  · rw [if_pos h, if_pos h]
    have h3 := mayI_iff.1 h
    have := gap_add h3.1 h3.2.1 hp
    unfold wys
    rw [show gap n D (s ||| 2 ^ p) = f by omega]
  · rw [if_neg h, if_neg h]
/-- Chains of m + 1 sets of I from s to D, of which each next one has the one ahead. -/
def ztS (n : Nat) (I : Nat → Bool) (D : Nat) : Nat → Nat → Nat
  | 0, s => if s = D then 1 else 0
  | m + 1, s => sumTo (fun t => if (leB s t && leB t D && I t) = true then ztS n I D m t else 0) (2 ^ n)
theorem leB_lt {n s D : Nat} (hs : leB s D = true) (hD : D < 2 ^ n) : s < 2 ^ n := by
  have h : s ||| D = D := by unfold leB at hs; exact beq_iff_eq.1 hs
  have := @Nat.left_le_or s D
  omega
theorem ifc_iff {I : Nat → Bool} {D s t : Nat} : (leB s t && leB t D && I t) = true ↔ (∀ i, s.testBit i = true → t.testBit i = true) ∧ (∀ i, t.testBit i = true → D.testBit i = true) ∧ I t = true := by
  rw [Bool.and_eq_true, Bool.and_eq_true, leB_iff, leB_iff, and_assoc]
theorem zt_four {n : Nat} {I : Nat → Bool} (hI : ∀ a b, I a = true → I b = true → I (a ||| b) = true ∧ I (a &&& b) = true) {D E : Nat} : ∀ (m s t : Nat), ztS n I D m s * ztS n I E m t ≤ ztS n I (D ||| E) m (s ||| t) * ztS n I (D &&& E) m (s &&& t)
  | 0, s, t => by
    show (if s = D then 1 else 0) * (if t = E then 1 else 0) ≤ (if (s ||| t) = (D ||| E) then 1 else 0) * (if (s &&& t) = (D &&& E) then 1 else 0)
    by_cases h1 : s = D
    · by_cases h2 : t = E
      · subst h1; subst h2; simp
      · simp [h2]
    · simp [h1]
  | m + 1, s, t => by
    refine fourSum fun u hu v hv => ?_
    by_cases h1 : (leB s u && leB u D && I u) = true
    · by_cases h2 : (leB t v && leB v E && I v) = true
      · rw [if_pos h1, if_pos h2]
        rw [ifc_iff] at h1 h2
        rw [if_pos, if_pos]
        · exact zt_four hI m u v
        · refine ifc_iff.2 ⟨fun i hi => ?_, fun i hi => ?_, (hI _ _ h1.2.2 h2.2.2).2⟩
          · rw [Nat.testBit_and, Bool.and_eq_true] at hi ⊢; exact ⟨h1.1 i hi.1, h2.1 i hi.2⟩
          · rw [Nat.testBit_and, Bool.and_eq_true] at hi ⊢; exact ⟨h1.2.1 i hi.1, h2.2.1 i hi.2⟩
        · refine ifc_iff.2 ⟨fun i hi => ?_, fun i hi => ?_, (hI _ _ h1.2.2 h2.2.2).1⟩
          · rw [Nat.testBit_or, Bool.or_eq_true] at hi ⊢; exact hi.imp (h1.1 i) (h2.1 i)
          · rw [Nat.testBit_or, Bool.or_eq_true] at hi ⊢; exact hi.imp (h1.2.1 i) (h2.2.1 i)
      · rw [if_neg h2, Nat.mul_zero]; exact Nat.zero_le _
    · rw [if_neg h1, Nat.zero_mul]; exact Nat.zero_le _
/-! Choices. -/
def bi : Nat → Nat → Nat
  | _, 0 => 1
  | 0, _ + 1 => 0
  | m + 1, k + 1 => bi m k + bi m (k + 1)
def fac : Nat → Nat
  | 0 => 1
  | k + 1 => (k + 1) * fac k
theorem bi_nought (m : Nat) : bi m 0 = 1 := by cases m <;> rfl
theorem bi_abs : ∀ m k, (k + 1) * bi (m + 1) (k + 1) = (m + 1) * bi m k
  | 0, 0 => rfl
  | 0, k + 1 => by show (k + 1 + 1) * (bi 0 (k + 1) + bi 0 (k + 1 + 1)) = _; simp [bi]
  | m + 1, 0 => by
    have := bi_abs m 0
    show (0 + 1) * (bi (m + 1) 0 + bi (m + 1) (0 + 1)) = _
    rw [bi_nought] at *
    omega
  | m + 1, k + 1 => by
    have h1 := bi_abs m (k + 1)
    have h2 := bi_abs m k
    show (k + 1 + 1) * (bi (m + 1) (k + 1) + bi (m + 1) (k + 1 + 1)) = (m + 1 + 1) * (bi m k + bi m (k + 1))
    have h3 : bi (m + 1) (k + 1) = bi m k + bi m (k + 1) := rfl
    rw [Nat.mul_add, h1, Nat.add_mul (k + 1) 1, h2, Nat.one_mul, h3, Nat.add_mul (m + 1) 1, Nat.one_mul, Nat.mul_add (m + 1)]
    omega
theorem bi_up : ∀ k m, bi m k * fac k ≤ (m + 1) ^ k
  | 0, m => by rw [bi_nought]; exact Nat.le_refl _
  | k + 1, 0 => by simp [bi]
  | k + 1, m + 1 => by
    have h := bi_abs m k
    have ih := bi_up k m
    have e : bi (m + 1) (k + 1) * fac (k + 1) = (m + 1) * (bi m k * fac k) := by
      show bi (m + 1) (k + 1) * ((k + 1) * fac k) = _
      rw [← Nat.mul_assoc, Nat.mul_comm (bi (m + 1) (k + 1)), h, Nat.mul_assoc]
    rw [e, Nat.pow_succ, Nat.mul_comm]
    exact Nat.mul_le_mul (Nat.le_trans ih (Nat.pow_le_pow_left (by omega) k)) (by omega)
theorem bi_dn : ∀ k m, (m - k) ^ k ≤ bi m k * fac k
  | 0, m => by rw [bi_nought]; exact Nat.le_refl _
  | k + 1, 0 => by simp
  | k + 1, m + 1 => by
    have h := bi_abs m k
    have ih := bi_dn k m
    have e : bi (m + 1) (k + 1) * fac (k + 1) = (m + 1) * (bi m k * fac k) := by
      show bi (m + 1) (k + 1) * ((k + 1) * fac k) = _
      rw [← Nat.mul_assoc, Nat.mul_comm (bi (m + 1) (k + 1)), h, Nat.mul_assoc]
    rw [e, Nat.pow_succ, Nat.mul_comm, show m + 1 - (k + 1) = m - k by omega]
    exact Nat.mul_le_mul (by omega) ih
theorem pow_more (x : Nat) : ∀ k, (x + 1) ^ (k + 1) ≥ x ^ (k + 1) + (x + 1) ^ k
  | 0 => by simp
  | k + 1 => by
    have ih := pow_more x k
    rw [Nat.pow_succ (x + 1) (k + 1), Nat.pow_succ x (k + 1), Nat.mul_add, Nat.mul_one]
    have h1 : x ^ (k + 1) * x ≤ (x + 1) ^ (k + 1) * x := Nat.mul_le_mul_right x (Nat.pow_le_pow_left (by omega) _)
    omega
/-- Nothing that lies between counts for more than this. -/
theorem zt_big {n : Nat} {I : Nat → Bool} {D : Nat} (hD : D < 2 ^ n) : ∀ (m s : Nat), leB s D = true → ztS n I D m s ≤ (2 ^ n) ^ gap n D s * (m + 1) ^ gap n D s
  | 0, s, hs => by
    show (if s = D then 1 else 0) ≤ _
    rw [Nat.one_pow, Nat.mul_one]
    have : 0 < (2 ^ n) ^ gap n D s := Nat.pow_pos (Nat.pow_pos (by decide))
    split <;> omega
  | m + 1, s, hs => by
    have hX : 0 < 2 ^ n := Nat.pow_pos (by decide)
    have key : ∀ t, (if (leB s t && leB t D && I t) = true then ztS n I D m t else 0) ≤ (if t = s then (2 ^ n) ^ gap n D s * (m + 1) ^ gap n D s else 0) + (2 ^ n) ^ (gap n D s - 1) * (if gap n D s = 0 then 0 else (m + 1) ^ (gap n D s - 1)) := fun t => by
      by_cases h : (leB s t && leB t D && I t) = true
      · rw [if_pos h]
        have h3 := ifc_iff.1 h
        have ih := zt_big (I := I) hD m t (leB_iff.2 h3.2.1)
        by_cases hts : t = s
        · subst hts; rw [if_pos rfl]; omega
        · rw [if_neg hts, Nat.zero_add]
          have hlt : gap n D t + 1 ≤ gap n D s := by
            have ⟨p, hp1, hp2⟩ : ∃ p, t.testBit p = true ∧ s.testBit p = false := by
              apply Classical.byContradiction
              intro hno
              apply hts
              apply Nat.eq_of_testBit_eq
              intro i
              cases hq : s.testBit i
              · cases hti : t.testBit i
                · rfl
                · exact absurd ⟨i, hti, hq⟩ hno
              · exact h3.1 i hq
            have hpD := h3.2.1 p hp1
            have e := gap_add hp2 hpD (bit_ltS hD hpD)
            have := gap_mono (D := D) (s := s ||| 2 ^ p) (t := t) (fun i hi => by
              rcases or_bit_iff.1 hi with h | rfl
              · exact h3.1 i h
              · exact hp1) n
            omega
          rw [if_neg (by omega)]
          refine Nat.le_trans ih (Nat.mul_le_mul (Nat.pow_le_pow_right hX (by omega)) (Nat.pow_le_pow_right (by omega) (by omega)))
      · rw [if_neg h]; exact Nat.zero_le _
    have h2 := sumTo_mono (k := 2 ^ n) fun t _ => key t
    rw [sumTo_add, sumTo_const] at h2
    have hsn : s < 2 ^ n := leB_lt hs hD
    rw [sumTo_pick hsn] at h2
    refine Nat.le_trans h2 ?_
    generalize gap n D s = k
    rcases k with _ | k
    · simp
    · rw [if_neg (by omega), Nat.add_sub_cancel]
      have := pow_more (m + 1) k
      have e : 2 ^ n * ((2 ^ n) ^ k * (m + 1) ^ k) = (2 ^ n) ^ (k + 1) * (m + 1) ^ k := by rw [Nat.pow_succ]; ac_rfl
      rw [e, ← Nat.mul_add]
      refine Nat.mul_le_mul_left _ (Nat.le_trans ?_ this)
      exact Nat.add_le_add_left (Nat.pow_le_pow_left (by omega) k) _

theorem gap_less {n D s t : Nat} (hD : D < 2 ^ n) (h1 : ∀ i, s.testBit i = true → t.testBit i = true) (h2 : ∀ i, t.testBit i = true → D.testBit i = true) (hne : t ≠ s) : ∃ p, p < n ∧ s.testBit p = false ∧ t.testBit p = true ∧ (∀ i, (s ||| 2 ^ p).testBit i = true → t.testBit i = true) := by
  have ⟨p, hp1, hp2⟩ : ∃ p, t.testBit p = true ∧ s.testBit p = false := by
    apply Classical.byContradiction
    intro hno
    apply hne
    apply Nat.eq_of_testBit_eq
    intro i
    cases hq : s.testBit i
    · cases hti : t.testBit i
      · rfl
      · exact absurd ⟨i, hti, hq⟩ hno
    · exact h1 i hq
  exact ⟨p, bit_ltS hD (h2 p hp1), hp2, hp1, fun i hi => by
    rcases or_bit_iff.1 hi with h | rfl
    · exact h1 i h
    · exact hp1⟩
/-- One step: to stay, to take one point, or more of them. -/
def one (n : Nat) (I : Nat → Bool) (D m s t p : Nat) : Nat := if t = s ||| 2 ^ p then (if mayI I D s p = true then ztS n I D m (s ||| 2 ^ p) else 0) else 0
theorem one_sum (n : Nat) (I : Nat → Bool) {D m s : Nat} (hD : D < 2 ^ n) (hs : leB s D = true) : sumTo (fun t => sumTo (one n I D m s t) n) (2 ^ n) = sumTo (fun p => if mayI I D s p = true then ztS n I D m (s ||| 2 ^ p) else 0) n := by
  rw [sumTo_swap]
  refine sumTo_congr fun p hp => ?_
  exact sumTo_pick (Nat.or_lt_two_pow (leB_lt hs hD) (Nat.pow_lt_pow_right (by decide) hp))
theorem or_inj {s p q : Nat} (hp : s.testBit p = false) (h : s ||| 2 ^ p = s ||| 2 ^ q) : p = q := by
  have h1 : (s ||| 2 ^ p).testBit p = true := or_bit_iff.2 (.inr rfl)
  rw [h] at h1
  rcases or_bit_iff.1 h1 with h2 | h2
  · rw [hp] at h2; cases h2
  · exact h2.symm
theorem zt_ge {n : Nat} {I : Nat → Bool} {D m s : Nat} (hD : D < 2 ^ n) (hs : leB s D = true) (hIs : I s = true) :
    ztS n I D m s + sumTo (fun p => if mayI I D s p = true then ztS n I D m (s ||| 2 ^ p) else 0) n ≤ ztS n I D (m + 1) s := by
  have hsn := leB_lt hs hD
  have e := sumTo_pick (c := ztS n I D m s) hsn
  rw [← one_sum n I hD hs, ← e, ← sumTo_add]
  refine sumTo_mono fun t ht => ?_
  by_cases hts : t = s
  · subst hts
    rw [if_pos rfl, if_pos (ifc_iff.2 ⟨fun _ h => h, leB_iff.1 hs, hIs⟩), sumTo_zero fun p hp => ?_]
    · omega
    · unfold one
      by_cases h : t = t ||| 2 ^ p
      · rw [if_pos h, if_neg]
        rw [mayI_iff]
        rintro ⟨h1, _⟩
        rw [h] at h1
        rw [or_bit_iff.2 (.inr rfl)] at h1
        cases h1
      · rw [if_neg h]
  · rw [if_neg hts, Nat.zero_add]
    refine sumTo_uniq (fun p => ?_) fun p q hp hq h1 h2 => ?_
    · unfold one
      by_cases h : t = s ||| 2 ^ p
      · rw [if_pos h]
        by_cases hm : mayI I D s p = true
        · have h3 := mayI_iff.1 hm
          rw [if_pos hm, if_pos, h]
          · exact Nat.le_refl _
          · rw [h]
            refine ifc_iff.2 ⟨fun i hi => or_bit_iff.2 (.inl hi), fun i hi => ?_, h3.2.2⟩
            rcases or_bit_iff.1 hi with h | rfl
            · exact leB_iff.1 hs i h
            · exact h3.2.1
        · rw [if_neg hm]; exact Nat.zero_le _
      · rw [if_neg h]; exact Nat.zero_le _
    · unfold one at h1 h2
      by_cases e1 : t = s ||| 2 ^ p
      · by_cases e2 : t = s ||| 2 ^ q
        · rw [if_pos e1] at h1
          by_cases hm : mayI I D s p = true
          · exact or_inj (mayI_iff.1 hm).1 (e1.symm.trans e2)
          · rw [if_neg hm] at h1; exact absurd rfl h1
        · rw [if_neg e2] at h2; exact absurd rfl h2
      · rw [if_neg e1] at h1; exact absurd rfl h1
theorem zt_le {n : Nat} {I : Nat → Bool} {D m s : Nat} (hD : D < 2 ^ n) (hs : leB s D = true) :
    ztS n I D (m + 1) s ≤ ztS n I D m s + sumTo (fun p => if mayI I D s p = true then ztS n I D m (s ||| 2 ^ p) else 0) n + 2 ^ n * (if gap n D s ≤ 1 then 0 else (2 ^ n) ^ (gap n D s - 2) * (m + 1) ^ (gap n D s - 2)) := by
  have hsn := leB_lt hs hD
  have hX : 0 < 2 ^ n := Nat.pow_pos (by decide)
  have e := sumTo_pick (c := ztS n I D m s) hsn
  rw [← one_sum n I hD hs, ← e, ← sumTo_add, ← sumTo_const, ← sumTo_add]
  refine sumTo_mono fun t ht => ?_
  by_cases hc : (leB s t && leB t D && I t) = true
  · rw [if_pos hc]
    have h3 := ifc_iff.1 hc
    by_cases hts : t = s
    · subst hts; rw [if_pos rfl]; omega
    · rw [if_neg hts, Nat.zero_add]
      obtain ⟨p, hp, hp1, hp2, hp3⟩ := gap_less hD h3.1 h3.2.1 hts
      have ep := gap_add hp1 (h3.2.1 p hp2) hp
      by_cases htp : t = s ||| 2 ^ p
      · have : one n I D m s t p = ztS n I D m t := by
          unfold one
          rw [if_pos htp, if_pos, ← htp]
          exact mayI_iff.2 ⟨hp1, h3.2.1 p hp2, by rw [← htp]; exact h3.2.2⟩
        have := sumTo_one (g := one n I D m s t) hp
        omega
      · obtain ⟨q, hq, hq1, hq2, hq3⟩ := gap_less hD hp3 h3.2.1 htp
        have eq := gap_add hq1 (h3.2.1 q hq2) hq
        have := gap_mono (D := D) hq3 n
        rw [if_neg (by omega)]
        refine Nat.le_trans (zt_big hD m t (leB_iff.2 h3.2.1)) (Nat.le_trans ?_ (Nat.le_add_left _ _))
        exact Nat.mul_le_mul (Nat.pow_le_pow_right hX (by omega)) (Nat.pow_le_pow_right (by omega) (by omega))
  · rw [if_neg hc]; exact Nat.zero_le _
def er (Y : Nat) : Nat → Nat → Nat
  | 0, _ => 0
  | 1, _ => 0
  | k + 2, m => Y ^ (k + 2) * (m + 1) ^ (k + 1)
theorem er_step {n : Nat} : ∀ (j m : Nat), er (n + 2 ^ n) (j + 1) m + n * er (n + 2 ^ n) j m + 2 ^ n * (if j + 1 ≤ 1 then 0 else (2 ^ n) ^ (j + 1 - 2) * (m + 1) ^ (j + 1 - 2)) ≤ er (n + 2 ^ n) (j + 1) (m + 1)
  | 0, m => by simp [er]
  | 1, m => by
    have hX : 0 < 2 ^ n := Nat.pow_pos (by decide)
    simp only [er]
    generalize 2 ^ n = X at *
    rw [if_neg (by omega)]
    simp only [Nat.zero_add, Nat.mul_zero, Nat.pow_one, Nat.sub_self, Nat.pow_zero, Nat.mul_one, Nat.add_zero]
    have : (n + X) ^ (0 + 2) = (n + X) * (n + X) := by rw [Nat.zero_add, Nat.pow_two]
    have h : X ≤ (n + X) ^ 2 := by
      rw [Nat.pow_two]
      exact Nat.le_trans (Nat.le_add_left X n) (Nat.le_mul_of_pos_left _ (by omega))
    have e : (n + X) ^ 2 * (m + 1 + 1) = (n + X) ^ 2 * (m + 1) + (n + X) ^ 2 := by rw [Nat.mul_add, Nat.mul_one]
    omega
  | i + 2, m => by
    have hX : 0 < 2 ^ n := Nat.pow_pos (by decide)
    show (n + 2 ^ n) ^ (i + 1 + 2) * (m + 1) ^ (i + 1 + 1) + n * ((n + 2 ^ n) ^ (i + 2) * (m + 1) ^ (i + 1)) + 2 ^ n * (if i + 2 + 1 ≤ 1 then 0 else (2 ^ n) ^ (i + 1) * (m + 1) ^ (i + 1)) ≤ (n + 2 ^ n) ^ (i + 1 + 2) * (m + 1 + 1) ^ (i + 1 + 1)
    rw [if_neg (by omega)]
    have h1 := pow_more (m + 1) (i + 1)
    have h2 : (m + 1) ^ (i + 1) ≤ (m + 1 + 1) ^ (i + 1) := Nat.pow_le_pow_left (by omega) _
    have h3 : (2 ^ n) ^ (i + 1) ≤ (n + 2 ^ n) ^ (i + 2) := Nat.le_trans (Nat.pow_le_pow_left (by omega) _) (Nat.pow_le_pow_right (by omega) (by omega))
    generalize 2 ^ n = X at *
    have h4 : n * ((n + X) ^ (i + 2) * (m + 1) ^ (i + 1)) + X * (X ^ (i + 1) * (m + 1) ^ (i + 1)) ≤ (n + X) ^ (i + 1 + 2) * (m + 1) ^ (i + 1) := by
      have : (n + X) ^ (i + 1 + 2) * (m + 1) ^ (i + 1) = n * ((n + X) ^ (i + 2) * (m + 1) ^ (i + 1)) + X * ((n + X) ^ (i + 2) * (m + 1) ^ (i + 1)) := by
        rw [← Nat.add_mul, show i + 1 + 2 = i + 2 + 1 by omega, Nat.pow_succ (n + X) (i + 2)]; ac_rfl
      rw [this]
      exact Nat.add_le_add_left (Nat.mul_le_mul_left _ (Nat.mul_le_mul_right _ h3)) _
    have h5 : (n + X) ^ (i + 1 + 2) * ((m + 1) ^ (i + 1 + 1) + (m + 1) ^ (i + 1)) ≤ (n + X) ^ (i + 1 + 2) * (m + 1 + 1) ^ (i + 1 + 1) := Nat.mul_le_mul_left _ (by omega)
    rw [Nat.mul_add] at h5
    omega
theorem zt_bounds {n : Nat} {I : Nat → Bool} {D : Nat} (hD : D < 2 ^ n) : ∀ (m s : Nat), leB s D = true → I s = true →
    bi m (gap n D s) * wys n I D s ≤ ztS n I D m s ∧ ztS n I D m s ≤ bi m (gap n D s) * wys n I D s + er (n + 2 ^ n) (gap n D s) m
  | 0, s, hs, hIs => by
    by_cases h : s = D
    · subst h
      rw [gap_self, wys_self]
      show _ ≤ (if s = s then 1 else 0) ∧ (if s = s then 1 else 0) ≤ _
      rw [if_pos rfl]
      exact ⟨Nat.le_refl _, Nat.le_refl _⟩
    · have hg : gap n D s ≠ 0 := fun hz => h (eq_of_gap hD (leB_iff.1 hs) hz)
      obtain ⟨f, hf⟩ := Nat.exists_eq_succ_of_ne_zero hg
      show _ ≤ (if s = D then 1 else 0) ∧ (if s = D then 1 else 0) ≤ _
      rw [if_neg h, hf]
      refine ⟨?_, Nat.zero_le _⟩
      show bi 0 (f + 1) * _ ≤ 0
      rw [show bi 0 (f + 1) = 0 from rfl, Nat.zero_mul]
      exact Nat.le_refl _
  | m + 1, s, hs, hIs => by
    by_cases h : s = D
    · subst h
      have hg := zt_ge (m := m) hD hs hIs
      have ih := (zt_bounds hD m s hs hIs).1
      have hb := zt_big (I := I) hD (m + 1) s hs
      rw [gap_self, wys_self] at *
      rw [bi_nought] at *
      simp only [Nat.pow_zero, Nat.mul_one] at hb ih ⊢
      exact ⟨by omega, Nat.le_trans hb (Nat.le_add_right _ _)⟩
    · have hg : gap n D s ≠ 0 := fun hz => h (eq_of_gap hD (leB_iff.1 hs) hz)
      obtain ⟨j, hj⟩ := Nat.exists_eq_succ_of_ne_zero hg
      have h1 := zt_ge (m := m) hD hs hIs
      have h2 := zt_le (I := I) (m := m) hD hs
      have ih := zt_bounds (I := I) hD m s hs hIs
      have hst := wys_step (I := I) hD hs h
      have hp : ∀ p, p < n → mayI I D s p = true → leB (s ||| 2 ^ p) D = true ∧ I (s ||| 2 ^ p) = true ∧ gap n D (s ||| 2 ^ p) = j := fun p hp hm => by
        have h3 := mayI_iff.1 hm
        have := gap_add h3.1 h3.2.1 hp
        refine ⟨leB_iff.2 fun i hi => ?_, h3.2.2, by omega⟩
        rcases or_bit_iff.1 hi with h | rfl
        · exact leB_iff.1 hs i h
        · exact h3.2.1
      have l1 : bi m j * wys n I D s ≤ sumTo (fun p => if mayI I D s p = true then ztS n I D m (s ||| 2 ^ p) else 0) n := by
        rw [hst, ← sumTo_mul]
        refine sumTo_mono fun p hpn => ?_
        by_cases hm : mayI I D s p = true
        · rw [if_pos hm, if_pos hm]
          have h3 := hp p hpn hm
          have := (zt_bounds (I := I) hD m (s ||| 2 ^ p) h3.1 h3.2.1).1
          rw [h3.2.2] at this
          exact this
        · rw [if_neg hm, if_neg hm]; exact Nat.le_refl _
      have l2 : sumTo (fun p => if mayI I D s p = true then ztS n I D m (s ||| 2 ^ p) else 0) n ≤ bi m j * wys n I D s + n * er (n + 2 ^ n) j m := by
        rw [hst, ← sumTo_mul, ← sumTo_const, ← sumTo_add]
        refine sumTo_mono fun p hpn => ?_
        by_cases hm : mayI I D s p = true
        · rw [if_pos hm, if_pos hm]
          have h3 := hp p hpn hm
          have := (zt_bounds (I := I) hD m (s ||| 2 ^ p) h3.1 h3.2.1).2
          rw [h3.2.2] at this
          exact this
        · rw [if_neg hm]; exact Nat.zero_le _
      rw [hj] at *
      have l3 := er_step (n := n) j m
      have e : bi (m + 1) (j + 1) * wys n I D s = bi m j * wys n I D s + bi m (j + 1) * wys n I D s := by
        show (bi m j + bi m (j + 1)) * _ = _
        rw [Nat.add_mul]
      rw [Nat.succ_eq_add_one] at *
      rw [e]
      constructor <;> omega

/-! From all m on to the numbers of ways. -/
theorem er_le (Y : Nat) : ∀ (k m : Nat), er Y k m * (m + 1) ≤ Y ^ k * (m + 1) ^ k
  | 0, m => by show 0 * _ ≤ _; omega
  | 1, m => by show 0 * _ ≤ _; omega
  | k + 2, m => by
    show Y ^ (k + 2) * (m + 1) ^ (k + 1) * (m + 1) ≤ _
    rw [Nat.mul_assoc, ← Nat.pow_succ]
    exact Nat.le_refl _
theorem fac_pos : ∀ k, 0 < fac k
  | 0 => by decide
  | k + 1 => Nat.mul_pos (by omega) (fac_pos k)
theorem bern {q M : Nat} (hq : q ≤ M) : ∀ k, M ^ k * (M - k * q) ≤ M * (M - q) ^ k
  | 0 => by simp
  | k + 1 => by
    have ih := bern hq k
    have h : M * (M - (k + 1) * q) ≤ (M - k * q) * (M - q) := by
      by_cases hc : (k + 1) * q ≤ M
      · obtain ⟨r, rfl⟩ := Nat.exists_eq_add_of_le hc
        rw [Nat.add_sub_cancel_left]
        have e1 : (k + 1) * q + r - k * q = q + r := by rw [Nat.add_mul]; omega
        have e2 : (k + 1) * q + r - q = k * q + r := by rw [Nat.add_mul]; omega
        rw [e1, e2]
        have e5 : ((k + 1) * q + r) * r = k * q * r + q * r + r * r := by rw [Nat.add_mul, Nat.add_mul, Nat.one_mul, Nat.add_mul]
        have e6 : (q + r) * (k * q + r) = q * (k * q) + q * r + (r * (k * q) + r * r) := by rw [Nat.add_mul, Nat.mul_add, Nat.mul_add]
        have e4 : r * (k * q) = k * q * r := Nat.mul_comm _ _
        rw [e5, e6, e4]
        omega
      · rw [Nat.sub_eq_zero_of_le (by omega)]; exact Nat.zero_le _
    calc M ^ (k + 1) * (M - (k + 1) * q) = M ^ k * (M * (M - (k + 1) * q)) := by rw [Nat.pow_succ, Nat.mul_assoc]
      _ ≤ M ^ k * ((M - k * q) * (M - q)) := Nat.mul_le_mul_left _ h
      _ = M ^ k * (M - k * q) * (M - q) := (Nat.mul_assoc _ _ _).symm
      _ ≤ M * (M - q) ^ k * (M - q) := Nat.mul_le_mul_right _ ih
      _ = M * (M - q) ^ (k + 1) := by rw [Nat.pow_succ, Nat.mul_assoc]
/-- What holds for all lengths of chains, with as many steps on both sides, holds of what they grow by. -/
theorem limit {k1 k2 k3 k4 w1 w2 w3 w4 Y : Nat} (hk : k1 + k2 = k3 + k4) (z1 z2 z3 z4 : Nat → Nat)
    (h1 : ∀ m, bi m k1 * w1 ≤ z1 m) (h2 : ∀ m, bi m k2 * w2 ≤ z2 m) (h3 : ∀ m, z3 m ≤ bi m k3 * w3 + er Y k3 m) (h4 : ∀ m, z4 m ≤ bi m k4 * w4 + er Y k4 m)
    (h : ∀ m, z1 m * z2 m ≤ z3 m * z4 m) : w1 * w2 * (fac k3 * fac k4) ≤ w3 * w4 * (fac k1 * fac k2) := by
  apply Classical.byContradiction
  intro hno
  have up : ∀ (k w : Nat) (z : Nat → Nat) (m : Nat), z m ≤ bi m k * w + er Y k m → z m * fac k * (m + 1) ≤ (m + 1) ^ k * ((m + 1) * w + Y ^ k * fac k) := fun k w z m hz => by
    have e1 := bi_up k m
    have e2 := er_le Y k m
    calc z m * fac k * (m + 1) ≤ (bi m k * w + er Y k m) * fac k * (m + 1) := Nat.mul_le_mul_right _ (Nat.mul_le_mul_right _ hz)
      _ = (bi m k * fac k) * ((m + 1) * w) + (er Y k m * (m + 1)) * fac k := by rw [Nat.add_mul, Nat.add_mul]; congr 1 <;> ac_rfl
      _ ≤ (m + 1) ^ k * ((m + 1) * w) + (Y ^ k * (m + 1) ^ k) * fac k := Nat.add_le_add (Nat.mul_le_mul_right _ e1) (Nat.mul_le_mul_right _ e2)
      _ = (m + 1) ^ k * ((m + 1) * w + Y ^ k * fac k) := by rw [Nat.mul_add]; congr 1; ac_rfl
  have dn : ∀ (k w : Nat) (z : Nat → Nat) (m : Nat), k ≤ k1 + k2 → bi m k * w ≤ z m → (m - (k1 + k2)) ^ k * w ≤ z m * fac k := fun k w z m hkk hz => by
    have e1 := bi_dn k m
    calc (m - (k1 + k2)) ^ k * w ≤ (m - k) ^ k * w := Nat.mul_le_mul_right _ (Nat.pow_le_pow_left (by omega) k)
      _ ≤ bi m k * fac k * w := Nat.mul_le_mul_right _ e1
      _ = bi m k * w * fac k := by ac_rfl
      _ ≤ z m * fac k := Nat.mul_le_mul_right _ hz
  generalize hc3 : Y ^ k3 * fac k3 = c3 at *
  generalize hc4 : Y ^ k4 * fac k4 = c4 at *
  have main : ∀ m, k1 + k2 ≤ m → (m + 1 - (k1 + k2) * (k1 + k2 + 1)) * (w1 * w2 * (fac k3 * fac k4)) * (m + 1) ≤ fac k1 * fac k2 * (((m + 1) * w3 + c3) * ((m + 1) * w4 + c4)) := fun m hm => by
    have a1 := dn k1 w1 z1 m (by omega) (h1 m)
    have a2 := dn k2 w2 z2 m (by omega) (h2 m)
    have a3 := up k3 w3 z3 m (h3 m)
    have a4 := up k4 w4 z4 m (h4 m)
    rw [hc3] at a3
    rw [hc4] at a4
    have b := bern (q := k1 + k2 + 1) (M := m + 1) (by omega) (k1 + k2)
    rw [show m + 1 - (k1 + k2 + 1) = m - (k1 + k2) by omega] at b
    have a5 := Nat.mul_le_mul a1 a2
    have a6 := Nat.mul_le_mul a3 a4
    have a7 := h m
    have hpos : 0 < (m + 1) ^ (k1 + k2) := Nat.pow_pos (by omega)
    refine Nat.le_of_mul_le_mul_left ?_ hpos
    generalize hU : m + 1 - (k1 + k2) * (k1 + k2 + 1) = U at *
    generalize hV : m - (k1 + k2) = V at *
    generalize hF : fac k3 * fac k4 = F at *
    calc (m + 1) ^ (k1 + k2) * (U * (w1 * w2 * F) * (m + 1)) = ((m + 1) ^ (k1 + k2) * U) * ((w1 * w2 * F) * (m + 1)) := by ac_rfl
      _ ≤ ((m + 1) * V ^ (k1 + k2)) * ((w1 * w2 * F) * (m + 1)) := Nat.mul_le_mul_right _ b
      _ = (V ^ k1 * w1) * (V ^ k2 * w2) * (F * ((m + 1) * (m + 1))) := by rw [Nat.pow_add]; ac_rfl
      _ ≤ (z1 m * fac k1) * (z2 m * fac k2) * (F * ((m + 1) * (m + 1))) := Nat.mul_le_mul_right _ a5
      _ = (z1 m * z2 m) * (fac k1 * fac k2 * (F * ((m + 1) * (m + 1)))) := by ac_rfl
      _ ≤ (z3 m * z4 m) * (fac k1 * fac k2 * (F * ((m + 1) * (m + 1)))) := Nat.mul_le_mul_right _ a7
      _ = fac k1 * fac k2 * ((z3 m * fac k3 * (m + 1)) * (z4 m * fac k4 * (m + 1))) := by rw [← hF]; ac_rfl
      _ ≤ fac k1 * fac k2 * (((m + 1) ^ k3 * ((m + 1) * w3 + c3)) * ((m + 1) ^ k4 * ((m + 1) * w4 + c4))) := Nat.mul_le_mul_left _ a6
      _ = (m + 1) ^ (k1 + k2) * (fac k1 * fac k2 * (((m + 1) * w3 + c3) * ((m + 1) * w4 + c4))) := by rw [hk, Nat.pow_add]; ac_rfl
  generalize fac k1 * fac k2 = G at *
  generalize hA : w1 * w2 * (fac k3 * fac k4) = A at *
  generalize hq : (k1 + k2) * (k1 + k2 + 1) = q at *
  have m0 := main (q * A + G * (w3 * c4 + w4 * c3) + G * (c3 * c4) + q + k1 + k2) (by omega)
  generalize hM : q * A + G * (w3 * c4 + w4 * c3) + G * (c3 * c4) + q + k1 + k2 + 1 = M at m0
  have e1 : (M - q) * A * M + q * A * M = A * (M * M) := by
    have : M - q + q = M := by omega
    calc (M - q) * A * M + q * A * M = (M - q + q) * (A * M) := by rw [Nat.add_mul]; congr 1 <;> ac_rfl
      _ = A * (M * M) := by rw [this]; ac_rfl
  have e2 : G * ((M * w3 + c3) * (M * w4 + c4)) = (w3 * w4 * G) * (M * M) + G * (w3 * c4 + w4 * c3) * M + G * (c3 * c4) := by
    rw [Nat.add_mul, Nat.mul_add, Nat.mul_add, Nat.mul_add, Nat.mul_add, Nat.mul_add, Nat.mul_add G, Nat.add_mul]
    have i1 : G * (M * w3 * (M * w4)) = w3 * w4 * G * (M * M) := by ac_rfl
    have i2 : G * (M * w3 * c4) = G * (w3 * c4) * M := by ac_rfl
    have i3 : G * (c3 * (M * w4)) = G * (w4 * c3) * M := by ac_rfl
    rw [i1, i2, i3]; omega
  rw [e2] at m0
  have hAB : w3 * w4 * G + 1 ≤ A := by omega
  have e3 : (w3 * w4 * G) * (M * M) + M * M ≤ A * (M * M) := by
    have := Nat.mul_le_mul_right (M * M) hAB
    rw [Nat.add_mul, Nat.one_mul] at this; exact this
  have e4 : M * M ≤ G * (w3 * c4 + w4 * c3) * M + G * (c3 * c4) + q * A * M := by omega
  have e5 : G * (c3 * c4) ≤ G * (c3 * c4) * M := Nat.le_mul_of_pos_right _ (by omega)
  have e6 : G * (w3 * c4 + w4 * c3) * M + G * (c3 * c4) * M + q * A * M = (G * (w3 * c4 + w4 * c3) + G * (c3 * c4) + q * A) * M := by rw [Nat.add_mul, Nat.add_mul]
  have e7 : M ≤ G * (w3 * c4 + w4 * c3) + G * (c3 * c4) + q * A := Nat.le_of_mul_le_mul_right (c := M) (by omega) (by omega)
  omega

theorem fac_conv : ∀ (d : Nat) {x y : Nat}, y ≤ x → fac x * fac (y + d) ≤ fac (x + d) * fac y
  | 0, x, y, h => Nat.le_refl _
  | d + 1, x, y, h => by
    show fac x * ((y + d + 1) * fac (y + d)) ≤ (x + d + 1) * fac (x + d) * fac y
    have := Nat.mul_le_mul (show y + d + 1 ≤ x + d + 1 by omega) (fac_conv d h)
    calc fac x * ((y + d + 1) * fac (y + d)) = (y + d + 1) * (fac x * fac (y + d)) := by ac_rfl
      _ ≤ (x + d + 1) * (fac (x + d) * fac y) := this
      _ = _ := by ac_rfl
theorem fac_two {k1 k2 k3 k4 : Nat} (h : k1 + k2 = k3 + k4) (h1 : k1 ≤ k3) (h2 : k2 ≤ k3) : fac k1 * fac k2 ≤ fac k3 * fac k4 := by
  have := fac_conv (k3 - k1) (x := k1) (y := k4) (by omega)
  rwa [show k4 + (k3 - k1) = k2 by omega, show k1 + (k3 - k1) = k3 by omega] at this
def Ring' (I : Nat → Bool) : Prop := ∀ a b, I a = true → I b = true → I (a ||| b) = true ∧ I (a &&& b) = true
theorem or_le {a b n : Nat} (ha : a < 2 ^ n) (hb : b < 2 ^ n) : a ||| b < 2 ^ n := Nat.or_lt_two_pow ha hb
theorem and_le {a b n : Nat} (ha : a < 2 ^ n) : a &&& b < 2 ^ n := Nat.lt_of_le_of_lt Nat.and_le_left ha
/-- Fishburn: of sets that go together, as many ways at least. -/
theorem wys_four {n : Nat} {I : Nat → Bool} (hI : Ring' I) {D E s t : Nat} (hD : D < 2 ^ n) (hE : E < 2 ^ n) (hs : leB s D = true) (ht : leB t E = true) (is : I s = true) (it : I t = true)
    (hf : fac (gap n D s) * fac (gap n E t) ≤ fac (gap n (D ||| E) (s ||| t)) * fac (gap n (D &&& E) (s &&& t))) :
    wys n I D s * wys n I E t ≤ wys n I (D ||| E) (s ||| t) * wys n I (D &&& E) (s &&& t) := by
  have hs' := leB_iff.1 hs
  have ht' := leB_iff.1 ht
  have ho : leB (s ||| t) (D ||| E) = true := leB_iff.2 fun i hi => by
    rw [Nat.testBit_or, Bool.or_eq_true] at hi ⊢; exact hi.imp (hs' i) (ht' i)
  have ha : leB (s &&& t) (D &&& E) = true := leB_iff.2 fun i hi => by
    rw [Nat.testBit_and, Bool.and_eq_true] at hi ⊢; exact ⟨hs' i hi.1, ht' i hi.2⟩
  have := limit (Y := n + 2 ^ n) (gap_sums hs' ht' n) (fun m => ztS n I D m s) (fun m => ztS n I E m t) (fun m => ztS n I (D ||| E) m (s ||| t)) (fun m => ztS n I (D &&& E) m (s &&& t))
    (fun m => (zt_bounds hD m s hs is).1) (fun m => (zt_bounds hE m t ht it).1) (fun m => (zt_bounds (or_le hD hE) m _ ho (hI s t is it).1).2) (fun m => (zt_bounds (and_le hD) m _ ha (hI s t is it).2).2)
    (fun m => zt_four hI m s t)
  have h2 := Nat.le_trans this (Nat.mul_le_mul_left _ hf)
  exact Nat.le_of_mul_le_mul_right h2 (Nat.mul_pos (fac_pos _) (fac_pos _))
theorem leB_nought (D : Nat) : leB 0 D = true := leB_iff.2 fun i h => by rw [Nat.zero_testBit] at h; cases h
theorem dn_four {n : Nat} {I : Nat → Bool} (hI : Ring' I) (h0 : I 0 = true) {D E : Nat} (hD : D < 2 ^ n) (hE : E < 2 ^ n) : wys n I D 0 * wys n I E 0 ≤ wys n I (D ||| E) 0 * wys n I (D &&& E) 0 := by
  have := wys_four hI hD hE (leB_nought D) (leB_nought E) h0 h0 (by
    have hg := gap_sums (S := 0) (T := 0) (leB_iff.1 (leB_nought D)) (leB_iff.1 (leB_nought E)) n
    refine fac_two hg ?_ ?_
    · exact gap_monoD (fun i hi => by rw [Nat.testBit_or, hi, Bool.true_or]) n
    · exact gap_monoD (fun i hi => by rw [Nat.testBit_or, hi, Bool.or_true]) n)
  exact this
theorem full_bitS {n i : Nat} : (2 ^ n - 1).testBit i = decide (i < n) := Nat.testBit_two_pow_sub_one n i
theorem leB_full {n s : Nat} (hs : s < 2 ^ n) : leB s (2 ^ n - 1) = true := leB_iff.2 fun i hi => by rw [full_bitS]; exact decide_eq_true (bit_ltS hs hi)
theorem up_four {n : Nat} {I : Nat → Bool} (hI : Ring' I) {s t : Nat} (hs : s < 2 ^ n) (ht : t < 2 ^ n) (is : I s = true) (it : I t = true) :
    wys n I (2 ^ n - 1) s * wys n I (2 ^ n - 1) t ≤ wys n I (2 ^ n - 1) (s ||| t) * wys n I (2 ^ n - 1) (s &&& t) := by
  have hp : 0 < 2 ^ n := Nat.pow_pos (by decide)
  have hF : 2 ^ n - 1 < 2 ^ n := by omega
  have := wys_four hI hF hF (leB_full hs) (leB_full ht) is it (by
    have hg := gap_sums (leB_iff.1 (leB_full hs)) (leB_iff.1 (leB_full ht)) n
    rw [Nat.or_self, Nat.and_self] at *
    rw [Nat.mul_comm (fac (gap n (2 ^ n - 1) (s ||| t)))]
    refine fac_two (by omega) ?_ ?_
    · exact gap_mono (fun i hi => by rw [Nat.testBit_and, Bool.and_eq_true] at hi; exact hi.1) n
    · exact gap_mono (fun i hi => by rw [Nat.testBit_and, Bool.and_eq_true] at hi; exact hi.2) n)
  rwa [Nat.or_self, Nat.and_self] at this
/-! One point, what is ahead of it, and what behind. -/
def mayL (I : Nat → Bool) (a : Nat) (late : Nat → Bool) (s p : Nat) : Bool := !s.testBit p && I (s ||| 2 ^ p) && !(late p && !s.testBit a)
def cut (I : Nat → Bool) (a s : Nat) : Bool := I s && !s.testBit a && I (s ||| 2 ^ a)
def gLS (n : Nat) (I : Nat → Bool) (a : Nat) (late : Nat → Bool) (s : Nat) : Nat := if (cut I a s && (List.range n).all fun p => !(late p && s.testBit p)) = true then wys n I (2 ^ n - 1) (s ||| 2 ^ a) else 0
def wys' (n : Nat) (I : Nat → Bool) (s D : Nat) : Nat := if leB s D = true then wys n I D s else 0
theorem wys'_step {n : Nat} {I : Nat → Bool} {s D : Nat} (hD : D < 2 ^ n) : wys' n I s D = (if D = s then 1 else 0) + sumTo (fun p => if (!s.testBit p && I (s ||| 2 ^ p)) = true then wys' n I (s ||| 2 ^ p) D else 0) n := by
  by_cases hs : leB s D = true
  · by_cases he : D = s
    · subst he
      rw [if_pos rfl, sumTo_zero fun p hp => ?_]
      · unfold wys'; rw [if_pos hs, wys_self]
      · by_cases h : (!D.testBit p && I (D ||| 2 ^ p)) = true
        · rw [if_pos h]
          unfold wys'
          rw [if_neg]
          intro hl
          rw [Bool.and_eq_true, Bool.not_eq_true'] at h
          have := leB_iff.1 hl p (or_bit_iff.2 (.inr rfl))
          rw [h.1] at this; cases this
        · rw [if_neg h]
    · rw [if_neg he, Nat.zero_add]
      unfold wys'
      rw [if_pos hs, wys_step hD hs (fun h => he h.symm)]
      refine sumTo_congr fun p hp => ?_
      by_cases h : (!s.testBit p && I (s ||| 2 ^ p)) = true
      · rw [if_pos h]
        rw [Bool.and_eq_true, Bool.not_eq_true'] at h
        by_cases hd : D.testBit p = true
        · rw [if_pos (mayI_iff.2 ⟨h.1, hd, h.2⟩), if_pos]
          refine leB_iff.2 fun i hi => ?_
          rcases or_bit_iff.1 hi with h | rfl
          · exact leB_iff.1 hs i h
          · exact hd
        · rw [if_neg (fun h => hd (mayI_iff.1 h).2.1), if_neg]
          exact fun hl => hd (leB_iff.1 hl p (or_bit_iff.2 (.inr rfl)))
      · rw [if_neg h, if_neg]
        intro hm
        have := mayI_iff.1 hm
        exact h (by rw [this.1, this.2.2]; rfl)
  · have : wys' n I s D = 0 := if_neg hs
    rw [this, if_neg (fun h => hs (by subst h; exact leB_refl D)), sumTo_zero fun p hp => ?_]
    by_cases h : (!s.testBit p && I (s ||| 2 ^ p)) = true
    · rw [if_pos h]
      unfold wys'
      rw [if_neg]
      exact fun hl => hs (leB_iff.2 fun i hi => leB_iff.1 hl i (or_bit_iff.2 (.inl hi)))
    · rw [if_neg h]
theorem cnt_in {n : Nat} {I : Nat → Bool} {a : Nat} {late : Nat → Bool} : ∀ (f s : Nat), s.testBit a = true → cnt n (mayL I a late) f s = cnt n (mayI I (2 ^ n - 1)) f s
  | 0, _, _ => rfl
  | f + 1, s, ha => by
    refine sumTo_congr fun p hp => ?_
    have e : mayL I a late s p = mayI I (2 ^ n - 1) s p := by
      unfold mayL mayI
      rw [ha, full_bitS, decide_eq_true hp]
      simp
    rw [e, cnt_in f (s ||| 2 ^ p) (or_bit_iff.2 (.inl ha))]
theorem gL_no {n : Nat} {I : Nat → Bool} {a : Nat} {late : Nat → Bool} {x : Nat} (h : ∀ D, leB x D = true → gLS n I a late D = 0) : sumTo (fun D => wys' n I x D * gLS n I a late D) (2 ^ n) = 0 :=
  sumTo_zero fun D _ => by
    by_cases hl : leB x D = true
    · rw [h D hl, Nat.mul_zero]
    · unfold wys'; rw [if_neg hl, Nat.zero_mul]
theorem count_cut {n : Nat} {I : Nat → Bool} {a : Nat} {late : Nat → Bool} (ha : a < n) (hla : late a = false) : ∀ (f s : Nat), gap n (2 ^ n - 1) s = f → s < 2 ^ n → I s = true → s.testBit a = false → (∀ p, p < n → late p = true → s.testBit p = false) →
    cnt n (mayL I a late) f s = sumTo (fun D => wys' n I s D * gLS n I a late D) (2 ^ n)
  | 0, s, hg, hs, _, has, _ => by
    have := gap_zero hg a ha (by rw [full_bitS]; exact decide_eq_true ha)
    rw [has] at this; cases this
  | f + 1, s, hg, hs, is, has, hl => by
    have hst : ∀ D, D < 2 ^ n → wys' n I s D * gLS n I a late D = (if D = s then gLS n I a late s else 0) + sumTo (fun p => (if (!s.testBit p && I (s ||| 2 ^ p)) = true then wys' n I (s ||| 2 ^ p) D * gLS n I a late D else 0)) n := fun D hD => by
      rw [wys'_step hD, Nat.add_mul]
      congr 1
      · by_cases h : D = s
        · subst h; rw [if_pos rfl, if_pos rfl, Nat.one_mul]
        · rw [if_neg h, if_neg h, Nat.zero_mul]
      · rw [Nat.mul_comm, ← sumTo_mul]
        refine sumTo_congr fun p _ => ?_
        by_cases h : (!s.testBit p && I (s ||| 2 ^ p)) = true
        · rw [if_pos h, if_pos h, Nat.mul_comm]
        · rw [if_neg h, if_neg h, Nat.mul_zero]
    rw [sumTo_congr hst, sumTo_add, sumTo_pick hs, sumTo_swap]
    have e1 := sumTo_pick (c := gLS n I a late s) ha
    rw [← e1, ← sumTo_add]
    show sumTo (fun p => if mayL I a late s p = true then cnt n (mayL I a late) f (s ||| 2 ^ p) else 0) n = _
    refine sumTo_congr fun p hp => ?_
    have hsp : s ||| 2 ^ p < 2 ^ n := Nat.or_lt_two_pow hs (Nat.pow_lt_pow_right (by decide) hp)
    have hpull : sumTo (fun D => if (!s.testBit p && I (s ||| 2 ^ p)) = true then wys' n I (s ||| 2 ^ p) D * gLS n I a late D else 0) (2 ^ n) = if (!s.testBit p && I (s ||| 2 ^ p)) = true then sumTo (fun D => wys' n I (s ||| 2 ^ p) D * gLS n I a late D) (2 ^ n) else 0 := by
      by_cases h : (!s.testBit p && I (s ||| 2 ^ p)) = true
      · rw [if_pos h]; exact sumTo_congr fun D _ => if_pos h
      · rw [if_neg h]; exact sumTo_zero fun D _ => if_neg h
    rw [hpull]
    by_cases hpa : p = a
    · subst hpa
      have hz : sumTo (fun D => wys' n I (s ||| 2 ^ p) D * gLS n I p late D) (2 ^ n) = 0 := gL_no fun D hD => by
        unfold gLS cut
        rw [leB_iff.1 hD p (or_bit_iff.2 (.inr rfl))]
        simp
      rw [if_pos rfl, hz, ite_self, Nat.add_zero]
      have hno : ((List.range n).all fun q => !(late q && s.testBit q)) = true := List.all_eq_true.2 fun q hq => by
        cases hlq : late q
        · rfl
        · rw [hl q (List.mem_range.1 hq) hlq]; rfl
      have hm : mayL I p late s p = I (s ||| 2 ^ p) := by unfold mayL; rw [has, hla]; simp
      have hgl : gLS n I p late s = if I (s ||| 2 ^ p) = true then wys n I (2 ^ n - 1) (s ||| 2 ^ p) else 0 := by
        unfold gLS cut
        rw [hno, is, has]
        simp only [Bool.not_false, Bool.and_true, Bool.true_and]
      rw [hm, hgl]
      by_cases hi : I (s ||| 2 ^ p) = true
      · rw [if_pos hi, if_pos hi, cnt_in f _ (or_bit_iff.2 (.inr rfl))]
        have := gap_add (D := 2 ^ n - 1) has (by rw [full_bitS]; exact decide_eq_true hp) hp
        unfold wys
        rw [show gap n (2 ^ n - 1) (s ||| 2 ^ p) = f by omega]
      · rw [if_neg hi, if_neg hi]
    · rw [if_neg hpa, Nat.zero_add]
      by_cases hlp : late p = true
      · have hz : sumTo (fun D => wys' n I (s ||| 2 ^ p) D * gLS n I a late D) (2 ^ n) = 0 := gL_no fun D hD => by
          unfold gLS
          rw [if_neg]
          intro h
          rw [Bool.and_eq_true] at h
          have := List.all_eq_true.1 h.2 p (List.mem_range.2 hp)
          rw [hlp, leB_iff.1 hD p (or_bit_iff.2 (.inr rfl))] at this
          cases this
        rw [hz, ite_self]
        unfold mayL
        rw [hlp, has]
        simp
      · rw [Bool.not_eq_true] at hlp
        have hmay : mayL I a late s p = (!s.testBit p && I (s ||| 2 ^ p)) := by unfold mayL; rw [hlp]; simp
        rw [hmay]
        by_cases h : (!s.testBit p && I (s ||| 2 ^ p)) = true
        · rw [if_pos h, if_pos h]
          rw [Bool.and_eq_true, Bool.not_eq_true'] at h
          have hga := gap_add (D := 2 ^ n - 1) h.1 (by rw [full_bitS]; exact decide_eq_true hp) hp
          refine count_cut ha hla f (s ||| 2 ^ p) (by omega) hsp h.2 ?_ ?_
          · cases hq : (s ||| 2 ^ p).testBit a
            · rfl
            · rcases or_bit_iff.1 hq with h | h
              · rw [has] at h; cases h
              · exact absurd h hpa
          · intro q hq hlq
            cases hx : (s ||| 2 ^ p).testBit q
            · rfl
            · rcases or_bit_iff.1 hx with h | h
              · rw [hl q hq hlq] at h; cases h
              · subst h; rw [hlp] at hlq; cases hlq
        · rw [if_neg h, if_neg h]
/-- In how many ways all points come, one by one, the late ones behind a. -/
def nL (n : Nat) (I : Nat → Bool) (a : Nat) (late : Nat → Bool) : Nat := cnt n (mayL I a late) n 0
theorem gap_nought : ∀ k n : Nat, k ≤ n → gap k (2 ^ n - 1) 0 = k
  | 0, n, _ => rfl
  | k + 1, n, h => by rw [gap_succ, gap_nought k n (by omega), full_bitS, decide_eq_true (by omega), Nat.zero_testBit]; simp
theorem nL_sum {n : Nat} {I : Nat → Bool} {a : Nat} {late : Nat → Bool} (ha : a < n) (hla : late a = false) (h0 : I 0 = true) : nL n I a late = sumTo (fun D => wys n I D 0 * gLS n I a late D) (2 ^ n) := by
  unfold nL
  rw [count_cut ha hla n 0 (gap_nought n n (Nat.le_refl n)) (Nat.pow_pos (by decide)) h0 (Nat.zero_testBit a) (fun p _ _ => Nat.zero_testBit p)]
  exact sumTo_congr fun D _ => by unfold wys'; rw [if_pos (leB_nought D)]
theorem or_or (D E a : Nat) : (D ||| E) ||| 2 ^ a = (D ||| 2 ^ a) ||| (E ||| 2 ^ a) := by
  apply Nat.eq_of_testBit_eq
  intro i
  simp only [Nat.testBit_or]
  cases D.testBit i <;> cases E.testBit i <;> cases (2 ^ a).testBit i <;> rfl
theorem and_or (D E a : Nat) : (D &&& E) ||| 2 ^ a = (D ||| 2 ^ a) &&& (E ||| 2 ^ a) := by
  apply Nat.eq_of_testBit_eq
  intro i
  simp only [Nat.testBit_or, Nat.testBit_and]
  cases D.testBit i <;> cases E.testBit i <;> cases (2 ^ a).testBit i <;> rfl
/-- SHEPP. -/
theorem shepp {n : Nat} {I : Nat → Bool} (hI : Ring' I) (h0 : I 0 = true) {a : Nat} (ha : a < n) {l1 l2 : Nat → Bool} (h1 : l1 a = false) (h2 : l2 a = false) :
    nL n I a l1 * nL n I a l2 ≤ nL n I a (fun _ => false) * nL n I a (fun p => l1 p || l2 p) := by
  rw [nL_sum ha h1 h0, nL_sum ha h2 h0, nL_sum ha rfl h0, nL_sum ha (by rw [h1, h2]; rfl) h0]
  refine fourSum fun D hD E hE => ?_
  by_cases c1 : (cut I a D && (List.range n).all fun p => !(l1 p && D.testBit p)) = true
  · by_cases c2 : (cut I a E && (List.range n).all fun p => !(l2 p && E.testBit p)) = true
    · have g1 : gLS n I a l1 D = wys n I (2 ^ n - 1) (D ||| 2 ^ a) := if_pos c1
      have g2 : gLS n I a l2 E = wys n I (2 ^ n - 1) (E ||| 2 ^ a) := if_pos c2
      rw [Bool.and_eq_true] at c1 c2
      have k1 := c1.1
      have k2 := c2.1
      unfold cut at k1 k2
      simp only [Bool.and_eq_true, Bool.not_eq_true'] at k1 k2
      have pa : 2 ^ a < 2 ^ n := Nat.pow_lt_pow_right (by decide) ha
      have g3 : gLS n I a (fun _ => false) (D ||| E) = wys n I (2 ^ n - 1) ((D ||| 2 ^ a) ||| (E ||| 2 ^ a)) := by
        unfold gLS cut
        rw [or_or, if_pos]
        rw [(hI _ _ k1.1.1 k2.1.1).1, (hI _ _ k1.2 k2.2).1, Nat.testBit_or, k1.1.2, k2.1.2]
        simp
      have g4 : gLS n I a (fun p => l1 p || l2 p) (D &&& E) = wys n I (2 ^ n - 1) ((D ||| 2 ^ a) &&& (E ||| 2 ^ a)) := by
        unfold gLS cut
        rw [and_or, if_pos]
        rw [(hI _ _ k1.1.1 k2.1.1).2, (hI _ _ k1.2 k2.2).2, Nat.testBit_and, k1.1.2]
        simp only [Bool.false_and, Bool.not_false, Bool.and_true, Bool.true_and]
        refine List.all_eq_true.2 fun p hp => ?_
        have e1 := List.all_eq_true.1 c1.2 p hp
        have e2 := List.all_eq_true.1 c2.2 p hp
        rw [Nat.testBit_and]
        revert e1 e2
        cases l1 p <;> cases l2 p <;> cases D.testBit p <;> cases E.testBit p <;> decide
      rw [g1, g2, g3, g4]
      have f1 := dn_four hI h0 hD hE
      have f2 := up_four hI (or_le hD pa) (or_le hE pa) k1.2 k2.2
      have := Nat.mul_le_mul f1 f2
      calc _ = wys n I D 0 * wys n I E 0 * (wys n I (2 ^ n - 1) (D ||| 2 ^ a) * wys n I (2 ^ n - 1) (E ||| 2 ^ a)) := by ac_rfl
        _ ≤ _ := this
        _ = _ := by ac_rfl
    · rw [show gLS n I a l2 E = 0 from if_neg c2, Nat.mul_zero, Nat.mul_zero]; exact Nat.zero_le _
  · rw [show gLS n I a l1 D = 0 from if_neg c1, Nat.mul_zero, Nat.zero_mul]; exact Nat.zero_le _

theorem cnt_none {n : Nat} {I : Nat → Bool} {a : Nat} : ∀ (f s : Nat), cnt n (mayL I a fun _ => false) f s = cnt n (mayI I (2 ^ n - 1)) f s
  | 0, _ => rfl
  | f + 1, s => by
    refine sumTo_congr fun p hp => ?_
    have e : mayL I a (fun _ => false) s p = mayI I (2 ^ n - 1) s p := by
      unfold mayL mayI
      rw [full_bitS, decide_eq_true hp]
      simp
    rw [e, cnt_none f]
theorem two_sides {n : Nat} {I : Nat → Bool} {a b : Nat} (ha : a < n) (hb : b < n) (hab : a ≠ b) {la lb : Nat → Bool} (hla : ∀ p, la p = decide (p = b)) (hlb : ∀ p, lb p = decide (p = a)) : ∀ (f s : Nat), gap n (2 ^ n - 1) s = f → s.testBit a = false → s.testBit b = false →
    cnt n (mayL I a la) f s + cnt n (mayL I b lb) f s = cnt n (mayL I a fun _ => false) f s
  | 0, s, hg, has, _ => by
    have := gap_zero hg a ha (by rw [full_bitS]; exact decide_eq_true ha)
    rw [has] at this; cases this
  | f + 1, s, hg, has, hbs => by
    show sumTo _ n + sumTo _ n = sumTo _ n
    rw [← sumTo_add]
    refine sumTo_congr fun p hp => ?_
    have e0 : mayL I a (fun _ => false) s p = (!s.testBit p && I (s ||| 2 ^ p)) := by unfold mayL; simp
    by_cases hpa : p = a
    · subst hpa
      have e1 : mayL I p la s p = (!s.testBit p && I (s ||| 2 ^ p)) := by unfold mayL; rw [hla, decide_eq_false hab]; simp
      have e2 : mayL I b lb s p = false := by unfold mayL; rw [hlb, decide_eq_true rfl, hbs]; simp
      rw [e0, e1, e2, cnt_none, cnt_in f _ (or_bit_iff.2 (.inr rfl))]
      simp
    · by_cases hpb : p = b
      · subst hpb
        have e1 : mayL I a la s p = false := by unfold mayL; rw [hla, decide_eq_true rfl, has]; simp
        have e2 : mayL I p lb s p = (!s.testBit p && I (s ||| 2 ^ p)) := by unfold mayL; rw [hlb, decide_eq_false hpa]; simp
        rw [e0, e1, e2, cnt_none, cnt_in f _ (or_bit_iff.2 (.inr rfl))]
        simp
      · have e1 : mayL I a la s p = (!s.testBit p && I (s ||| 2 ^ p)) := by unfold mayL; rw [hla, decide_eq_false hpb]; simp
        have e2 : mayL I b lb s p = (!s.testBit p && I (s ||| 2 ^ p)) := by unfold mayL; rw [hlb, decide_eq_false hpa]; simp
        rw [e0, e1, e2]
        by_cases h : (!s.testBit p && I (s ||| 2 ^ p)) = true
        · rw [if_pos h, if_pos h, if_pos h]
          rw [Bool.and_eq_true, Bool.not_eq_true'] at h
          have hga := gap_add (D := 2 ^ n - 1) h.1 (by rw [full_bitS]; exact decide_eq_true hp) hp
          have hno : ∀ q, s.testBit q = false → p ≠ q → (s ||| 2 ^ p).testBit q = false := fun q hq hne => by
            cases hx : (s ||| 2 ^ p).testBit q
            · rfl
            · rcases or_bit_iff.1 hx with h | h
              · rw [hq] at h; cases h
              · exact absurd h hne
          exact two_sides ha hb hab hla hlb f _ (by omega) (hno a has hpa) (hno b hbs hpb)
        · rw [if_neg h, if_neg h, if_neg h]
/-! Of an order. -/
def idlS (n : Nat) (ns : List Nat) (s : Nat) : Bool := (List.range n).all fun p => !s.testBit p || sub (ns.getD p 0) s
theorem idl_iff' {n : Nat} {ns : List Nat} {s : Nat} : idlS n ns s = true ↔ ∀ p, p < n → s.testBit p = true → ∀ i, (ns.getD p 0).testBit i = true → s.testBit i = true := by
  unfold idlS
  rw [List.all_eq_true]
  constructor
  · intro h p hp hs
    have := h p (List.mem_range.2 hp)
    rw [hs, Bool.not_true, Bool.false_or] at this
    exact sub_iff.1 this
  · intro h p hp
    cases hs : s.testBit p
    · rfl
    · rw [Bool.not_true, Bool.false_or]
      exact sub_iff.2 (h p (List.mem_range.1 hp) hs)
theorem idl_ring (n : Nat) (ns : List Nat) : Ring' (idlS n ns) := fun a b ha hb => by
  rw [idl_iff'] at ha hb
  constructor
  · refine idl_iff'.2 fun p hp hs i hi => ?_
    rw [Nat.testBit_or, Bool.or_eq_true] at hs ⊢
    exact hs.imp (fun h => ha p hp h i hi) (fun h => hb p hp h i hi)
  · refine idl_iff'.2 fun p hp hs i hi => ?_
    rw [Nat.testBit_and, Bool.and_eq_true] at hs ⊢
    exact ⟨ha p hp hs.1 i hi, hb p hp hs.2 i hi⟩
theorem idl_nought (n : Nat) (ns : List Nat) : idlS n ns 0 = true := idl_iff'.2 fun p _ h => by rw [Nat.zero_testBit] at h; cases h
theorem idl_step {n : Nat} {ns : List Nat} {s p : Nat} (hp : p < n) (hirr : lt ns p p = false) (hs : idlS n ns s = true) : idlS n ns (s ||| 2 ^ p) = sub (ns.getD p 0) s := by
  cases h : sub (ns.getD p 0) s
  · cases hi : idlS n ns (s ||| 2 ^ p)
    · rfl
    · have : sub (ns.getD p 0) s = true := sub_iff.2 fun i hip => by
        rcases or_bit_iff.1 (idl_iff'.1 hi p hp (or_bit_iff.2 (.inr rfl)) i hip) with h | h
        · exact h
        · subst h
          have h2 : lt ns p p = true := hip
          rw [hirr] at h2; cases h2
      rw [h] at this; cases this
  · refine idl_iff'.2 fun q hq hqs i hi => or_bit_iff.2 (.inl ?_)
    rcases or_bit_iff.1 hqs with h1 | rfl
    · exact idl_iff'.1 hs q hq h1 i hi
    · exact sub_iff.1 h i hi
theorem cnt_idl {n : Nat} {ns : List Nat} {a : Nat} {late : Nat → Bool} (hirr : ∀ p, p < n → lt ns p p = false) {may : Nat → Nat → Bool} (hm : ∀ s p, may s p = (!s.testBit p && sub (ns.getD p 0) s && !(late p && !s.testBit a))) : ∀ (f s : Nat), idlS n ns s = true → cnt n may f s = cnt n (mayL (idlS n ns) a late) f s
  | 0, _, _ => rfl
  | f + 1, s, hs => by
    refine sumTo_congr fun p hp => ?_
    have e : may s p = mayL (idlS n ns) a late s p := by
      rw [hm]
      unfold mayL
      rw [idl_step hp (hirr p hp) hs]
    rw [e]
    by_cases h : mayL (idlS n ns) a late s p = true
    · rw [if_pos h, if_pos h]
      refine cnt_idl hirr hm f _ ?_
      unfold mayL at h
      simp only [Bool.and_eq_true] at h
      exact h.1.2
    · rw [if_neg h, if_neg h]
theorem mayA_nL {n : Nat} {ns : List Nat} {a b c : Nat} (hirr : ∀ p, p < n → lt ns p p = false) : cnt n (mayA ns a b c) n 0 = nL n (idlS n ns) a (fun p => decide (p = b) || decide (p = c)) :=
  cnt_idl hirr (fun s p => rfl) n 0 (idl_nought n ns)
theorem mayO_nL {n : Nat} {ns : List Nat} {a : Nat} (hirr : ∀ p, p < n → lt ns p p = false) : cnt n (mayO ns) n 0 = nL n (idlS n ns) a (fun _ => false) :=
  cnt_idl hirr (fun s p => by unfold mayO; simp) n 0 (idl_nought n ns)
theorem shepp_rows {n : Nat} {ns : List Nat} (hirr : ∀ p, p < n → lt ns p p = false) {a b c : Nat} (ha : a < n) (hab : a ≠ b) (hac : a ≠ c) :
    cnt n (mayA ns a b b) n 0 * cnt n (mayA ns a c c) n 0 ≤ cnt n (mayA ns a b c) n 0 * cnt n (mayO ns) n 0 := by
  rw [mayA_nL hirr, mayA_nL hirr, mayA_nL hirr, mayO_nL (a := a) hirr, Nat.mul_comm (nL n (idlS n ns) a fun p => decide (p = b) || decide (p = c))]
  refine Nat.le_trans (shepp (idl_ring n ns) (idl_nought n ns) ha (by simp [hab]) (by simp [hac])) (Nat.le_of_eq ?_)
  congr 2
  funext p
  cases decide (p = b) <;> cases decide (p = c) <;> rfl
theorem both_rows {n : Nat} {ns : List Nat} (hirr : ∀ p, p < n → lt ns p p = false) {a b : Nat} (ha : a < n) (hb : b < n) (hab : a ≠ b) :
    cnt n (mayA ns a b b) n 0 + cnt n (mayA ns b a a) n 0 = cnt n (mayO ns) n 0 := by
  rw [mayA_nL hirr, mayA_nL hirr, mayO_nL (a := a) hirr]
  exact two_sides ha hb hab (fun p => Bool.or_self _) (fun p => Bool.or_self _) n 0 (gap_nought n n (Nat.le_refl n)) (Nat.zero_testBit a) (Nat.zero_testBit b)
theorem sum_mis (c s : Nat) : ∀ n, sumTo (fun p => if s.testBit p = false then c else 0) n = mis n s * c
  | 0 => by simp [sumTo, mis]
  | n + 1 => by
    rw [sumTo, sum_mis c s n, mis_succ, Nat.add_mul]
    cases s.testBit n <;> simp
theorem cnt_fac {n : Nat} {may : Nat → Nat → Bool} (hm : ∀ s p, may s p = true → s.testBit p = false) : ∀ (f s : Nat), mis n s = f → cnt n may f s ≤ fac f
  | 0, _, _ => Nat.le_refl _
  | f + 1, s, hs => by
    show sumTo _ n ≤ (f + 1) * fac f
    rw [← hs, ← sum_mis]
    refine sumTo_mono fun p hp => ?_
    by_cases h : may s p = true
    · have h1 := hm s p h
      have := mis_add h1 hp
      rw [if_pos h, if_pos h1]
      exact cnt_fac hm f _ (by omega)
    · rw [if_neg h]; exact Nat.zero_le _
theorem fac_ten : ∀ n, n ≤ 10 → fac n ≤ 3628800 := by decide
theorem rest_ten {n : Nat} (hn : n ≤ 10) {may : Nat → Nat → Bool} (hm : ∀ s p, may s p = true → s.testBit p = false) : rest n may 0 ≤ 3628800 := by
  rw [rest_nought]
  exact Nat.le_trans (cnt_fac hm n 0 (mis_nought n)) (fac_ten n hn)
end Go.Proofs.Ytpfldhaaiglgdaa
