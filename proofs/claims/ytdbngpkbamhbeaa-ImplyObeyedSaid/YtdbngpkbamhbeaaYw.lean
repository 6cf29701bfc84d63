import Derived.Test.YtdbngpkbamhbeaaYv
set_option linter.unusedSimpArgs false
set_option linter.unusedVariables false
set_option linter.unusedSectionVars false
set_option maxRecDepth 20000
namespace Go.Proofs.Ytdbngpkbamhbeaa
attribute [local irreducible] QOp aL aC qL
variable {kf : Nat → Nat}
def bkI (kf : Nat → Nat) (L : List Nat) : Nat → List Nat
  | 0 => L
  | k + 1 => insS kf (20 * k) (20 * k + 20) (bkI kf L k)
def stbB (kf : Nat → Nat) (n : Nat) (L : List Nat) : List Nat := insS kf (20 * (n / 20)) n (bkI kf L (n / 20))
def mgK (kf : Nat → Nat) (bs n : Nat) (L : List Nat) : Nat → List Nat
  | 0 => L
  | k + 1 => symF kf n (2 * bs * k) (2 * bs * k + bs) (2 * bs * k + 2 * bs) (mgK kf bs n L k)
def mgP (kf : Nat → Nat) (bs n : Nat) (L : List Nat) : List Nat :=
  if 2 * bs * (n / (2 * bs)) + bs < n then symF kf n (2 * bs * (n / (2 * bs))) (2 * bs * (n / (2 * bs)) + bs) n (mgK kf bs n L (n / (2 * bs))) else mgK kf bs n L (n / (2 * bs))
def mgA (kf : Nat → Nat) (n : Nat) (L : List Nat) : Nat → List Nat
  | 0 => stbB kf n L
  | t + 1 => mgP kf (20 * 2 ^ t) n (mgA kf n L t)
def tT (n : Nat) : Nat := fstF (fun t => decide (20 * 2 ^ t < n)) 0 n
/-- The list sorted. -/
def ssT (kf : Nat → Nat) (L : List Nat) : List Nat := mgA kf L.length L (tT L.length)
/-- In blocks of bs sorted. -/
def Bl (kf : Nat → Nat) (bs n : Nat) (L : List Nat) : Prop := ∀ q, Srt kf (bs * q) (min (bs * q + bs) n) L
theorem bkI_ok {n : Nat} {L : List Nat} (hn : n ≤ L.length) : ∀ k, 20 * k ≤ n → Sm 0 n L (bkI kf L k) ∧ ∀ q, q < k → Srt kf (20 * q) (20 * q + 20) (bkI kf L k)
  | 0, _ => ⟨Sm.refl _ _ _, fun q h => absurd h (Nat.not_lt_zero _)⟩
  | k + 1, hk => by
    obtain ⟨h1, h2⟩ := bkI_ok hn k (by omega)
    have h3 := insS_ok (kf := kf) (a := 20 * k) (b := 20 * k + 20) (L := bkI kf L k) (by rw [h1.len]; omega)
    refine ⟨h1.trans (h3.1.wide (Nat.zero_le _) (by omega)), fun q hq => ?_⟩
    by_cases e : q = k
    · rw [e]; exact h3.2
    · exact (h2 q (by omega)).out h3.1 (.inl (by omega))
theorem stbB_ok {n : Nat} {L : List Nat} (hn : n ≤ L.length) : Sm 0 n L (stbB kf n L) ∧ Bl kf 20 n (stbB kf n L) := by
  have hd := Nat.div_mul_le_self n 20
  have hm := Nat.lt_div_mul_add (a := n) (b := 20) (by decide)
  obtain ⟨h1, h2⟩ := bkI_ok (kf := kf) hn (n / 20) (by omega)
  have h3 := insS_ok (kf := kf) (a := 20 * (n / 20)) (b := n) (L := bkI kf L (n / 20)) (by rw [h1.len]; omega)
  refine ⟨h1.trans (h3.1.wide (Nat.zero_le _) (Nat.le_refl _)), fun q => ?_⟩
  by_cases e : q < n / 20
  · exact ((h2 q e).out h3.1 (.inl (by omega))).sub (Nat.le_refl _) (Nat.min_le_left _ _)
  · exact h3.2.sub (by omega) (Nat.min_le_right _ _)
theorem mgK_ok {bs n : Nat} {L : List Nat} (hbs : 0 < bs) (hn : n ≤ L.length) (hB : Bl kf bs n L) : ∀ k, 2 * bs * k ≤ n → Sm 0 (2 * bs * k) L (mgK kf bs n L k) ∧ ∀ q, q < k → Srt kf (2 * bs * q) (2 * bs * q + 2 * bs) (mgK kf bs n L k)
  | 0, _ => ⟨Sm.refl _ _ _, fun q h => absurd h (Nat.not_lt_zero _)⟩
  | k + 1, hk => by
    have hk' : 2 * bs * (k + 1) = 2 * bs * k + 2 * bs := by rw [Nat.mul_succ]
    rw [hk'] at hk
    obtain ⟨h1, h2⟩ := mgK_ok hbs hn hB k (by omega)
    have b1 := hB (2 * k)
    have b2 := hB (2 * k + 1)
    have e1 : bs * (2 * k) = 2 * bs * k := by rw [Nat.mul_left_comm, Nat.mul_assoc]
    have e2 : bs * (2 * k + 1) = 2 * bs * k + bs := by rw [Nat.mul_succ, e1]
    rw [e1, Nat.min_eq_left (by omega)] at b1
    rw [e2, Nat.min_eq_left (by omega)] at b2
    have h3 := symF_ok (kf := kf) n (a := 2 * bs * k) (m := 2 * bs * k + bs) (b := 2 * bs * k + 2 * bs) (L := mgK kf bs n L k) (by omega) (by omega) (by rw [h1.len]; omega) (by omega) (b1.out h1 (.inr (Nat.le_refl _))) ((b2.out h1 (.inr (by omega))).sub (Nat.le_refl _) (by omega))
    refine ⟨by rw [hk']; exact (h1.wide (Nat.le_refl _) (by omega)).trans (h3.1.wide (Nat.zero_le _) (Nat.le_refl _)), fun q hq => ?_⟩
    by_cases e : q = k
    · rw [e]; exact h3.2
    · have hqk : 2 * bs * q + 2 * bs ≤ 2 * bs * k := by rw [← Nat.mul_succ]; exact Nat.mul_le_mul_left _ (by omega)
      exact (h2 q (by omega)).out h3.1 (.inl hqk)
theorem mgP_ok {bs n : Nat} {L : List Nat} (hbs : 0 < bs) (hn : n ≤ L.length) (hB : Bl kf bs n L) : Sm 0 n L (mgP kf bs n L) ∧ Bl kf (2 * bs) n (mgP kf bs n L) := by
  have hd := Nat.div_mul_le_self n (2 * bs)
  have hm := Nat.lt_div_mul_add (a := n) (b := 2 * bs) (by omega)
  rw [Nat.mul_comm] at hd hm
  obtain ⟨h1, h2⟩ := mgK_ok hbs hn hB (n / (2 * bs)) hd
  have rest : ∀ q, ¬ q < n / (2 * bs) → 2 * bs * (n / (2 * bs)) ≤ 2 * bs * q := fun q hq => Nat.mul_le_mul_left _ (by omega)
  have early : ∀ q, q < n / (2 * bs) → 2 * bs * q + 2 * bs ≤ 2 * bs * (n / (2 * bs)) := fun q hq => by rw [← Nat.mul_succ]; exact Nat.mul_le_mul_left _ (by omega)
  have b1 := hB (2 * (n / (2 * bs)))
  have b2 := hB (2 * (n / (2 * bs)) + 1)
  have e1 : bs * (2 * (n / (2 * bs))) = 2 * bs * (n / (2 * bs)) := by rw [Nat.mul_left_comm, Nat.mul_assoc]
  have e2 : bs * (2 * (n / (2 * bs)) + 1) = 2 * bs * (n / (2 * bs)) + bs := by rw [Nat.mul_succ, e1]
  rw [e1] at b1
  rw [e2] at b2
  unfold mgP
  generalize n / (2 * bs) = K at *
  generalize mgK kf bs n L K = L1 at *
  split
  · rename_i hc
    rw [Nat.min_eq_left (by omega)] at b1
    rw [Nat.min_eq_right (by omega)] at b2
    have h3 := symF_ok (kf := kf) n (a := 2 * bs * K) (m := 2 * bs * K + bs) (b := n) (L := L1) (by omega) hc (by rw [h1.len]; omega) (by omega) (b1.out h1 (.inr (Nat.le_refl _))) (b2.out h1 (.inr (by omega)))
    refine ⟨(h1.wide (Nat.le_refl _) (by omega)).trans (h3.1.wide (Nat.zero_le _) (Nat.le_refl _)), fun q => ?_⟩
    by_cases e : q < K
    · exact ((h2 q e).out h3.1 (.inl (early q e))).sub (Nat.le_refl _) (Nat.min_le_left _ _)
    · exact h3.2.sub (rest q e) (Nat.min_le_right _ _)
  · rename_i hc
    refine ⟨h1.wide (Nat.le_refl _) (by omega), fun q => ?_⟩
    by_cases e : q < K
    · exact (h2 q e).sub (Nat.le_refl _) (Nat.min_le_left _ _)
    · rw [Nat.min_eq_right (by omega)] at b1
      exact (b1.out h1 (.inr (Nat.le_refl _))).sub (rest q e) (Nat.min_le_right _ _)
theorem mgA_ok {n : Nat} {L : List Nat} (hn : n ≤ L.length) : ∀ t, Sm 0 n L (mgA kf n L t) ∧ Bl kf (20 * 2 ^ t) n (mgA kf n L t)
  | 0 => stbB_ok hn
  | t + 1 => by
    obtain ⟨h1, h2⟩ := mgA_ok hn t
    have hp : 0 < 2 ^ t := Nat.pow_pos (by decide)
    obtain ⟨h3, h4⟩ := mgP_ok (kf := kf) (bs := 20 * 2 ^ t) (n := n) (L := mgA kf n L t) (by omega) (by rw [h1.len]; exact hn) h2
    refine ⟨h1.trans h3, ?_⟩
    rw [show 20 * 2 ^ (t + 1) = 2 * (20 * 2 ^ t) by rw [Nat.pow_succ]; omega]
    exact h4
theorem tT_ok (n : Nat) : (∀ t, t < tT n → 20 * 2 ^ t < n) ∧ n ≤ 20 * 2 ^ tT n := by
  obtain ⟨_, g2, g3, g4⟩ := fstF_ok (P := fun t => decide (20 * 2 ^ t < n)) (Nat.zero_le n)
  change tT n ≤ n at g2
  change ∀ x, 0 ≤ x → x < tT n → _ at g3
  change tT n < n → decide (20 * 2 ^ tT n < n) = false at g4
  refine ⟨fun t ht => of_decide_eq_true (g3 t (Nat.zero_le _) ht), ?_⟩
  by_cases h : tT n < n
  · have := of_decide_eq_false (g4 h); omega
  · have h2 : tT n = n := by omega
    rw [h2]
    have := Nat.lt_two_pow_self (n := n)
    omega
theorem ssT_ok (L : List Nat) : (ssT kf L).Perm L ∧ Srt kf 0 L.length (ssT kf L) := by
  obtain ⟨h1, h2⟩ := mgA_ok (kf := kf) (n := L.length) (L := L) (Nat.le_refl _) (tT L.length)
  refine ⟨h1.pm, ?_⟩
  have := h2 0
  rw [Nat.mul_zero, Nat.zero_add, Nat.min_eq_right (tT_ok L.length).2] at this
  exact this
end Go.Proofs.Ytdbngpkbamhbeaa
