/- Maps into chains: numbers by a sum of binomial numbers, from both sides of nought (plain). -/
import Derived.Test.YtkackilhfkicoaaDoorRm
set_option linter.unusedSimpArgs false
set_option linter.unusedVariables false
set_option linter.unusedSectionVars false
set_option maxRecDepth 20000
namespace Go.Proofs.YtkackilhfkicoaaDoor
/-! Both binomial laws that are wanted. -/
theorem bn_pas_all : ((List.range 44).all fun a => (List.range 12).all fun k => decide (bn ((a : Int) - 22) (k + 1) = bn ((a : Int) - 23) (k + 1) + bn ((a : Int) - 23) k)) = true := by decide +kernel
theorem bn_pas {z : Int} (h1 : -23 ≤ z) (h2 : z ≤ 20) {k : Nat} (hk : k ≤ 11) : bn (z + 1) (k + 1) = bn z (k + 1) + bn z k := by
  have h := List.all_eq_true.1 (List.all_eq_true.1 bn_pas_all (z + 23).toNat (List.mem_range.2 (by omega))) k (List.mem_range.2 (by omega))
  rw [decide_eq_true_eq, show (((z + 23).toNat : Nat) : Int) - 22 = z + 1 by omega, show (((z + 23).toNat : Nat) : Int) - 23 = z by omega] at h
  exact h
theorem bn_zero (k : Nat) : bn 0 (k + 1) = 0 := by
  induction k with
  | zero => rfl
  | succ k ih => rw [bn, ih]; simp
/-! Sums over those strictly within. -/
section
variable {n : Nat} {S : List Nat}
/-- Over the ones strictly within the j-th. -/
def inI (S : List Nat) (x : Nat → Int) (j : Nat) : Int := sumI (fun i => if ftB S neB i j = true then x i else 0) S.length
theorem inI_add (x y : Nat → Int) (j : Nat) : inI S (fun i => x i + y i) j = inI S x j + inI S y j := by
  unfold inI
  rw [← sumI_add]
  exact sumI_congr fun i _ => by dsimp only; split <;> omega
theorem inI_mul (c : Int) (x : Nat → Int) (j : Nat) : inI S (fun i => c * x i) j = c * inI S x j := by
  unfold inI
  rw [← sumI_mulL]
  exact sumI_congr fun i _ => by split <;> simp
theorem inI_zero (j : Nat) : inI S (fun _ => 0) j = 0 := sumI_zero fun i _ => by split <;> rfl
theorem inI_sum (f : Nat → Nat → Int) (j : Nat) : ∀ K, inI S (fun i => sumI (fun k => f k i) K) j = sumI (fun k => inI S (f k) j) K
  | 0 => inI_zero j
  | K + 1 => by
    rw [sumI_s, ← inI_sum f j K, ← inI_add]
    rfl
theorem inI_congr {x y : Nat → Int} {j : Nat} (h : ∀ i, i < S.length → ftB S neB i j = true → x i = y i) : inI S x j = inI S y j := sumI_congr fun i hi => by
  split
  · rename_i hf; exact h i hi hf
  · rfl
theorem sumTo_int (f : Nat → Nat) : ∀ k, ((sumTo f k : Nat) : Int) = sumI (fun i => (f i : Int)) k
  | 0 => rfl
  | k + 1 => by
    show ((sumTo f k + f k : Nat) : Int) = _
    rw [sumI_s, ← sumTo_int f k]; omega
theorem wI_in (S : List Nat) (k j : Nat) : ((wI S neB (k + 1) j : Nat) : Int) = inI S (fun i => (wI S neB k i : Int)) j := by
  rw [wI_s, sumTo_int]
  exact sumI_congr fun i _ => by split <;> rfl
theorem pc_lt {a b m : Nat} (ha : a < 2 ^ m) (hb : b < 2 ^ m) (h : sub a b = true) (hne : a ≠ b) : pcTo a m < pcTo b m := by
  rw [pc_cn, pc_cn]
  obtain ⟨x, hx⟩ : ∃ x, a.testBit x = false ∧ b.testBit x = true := by
    refine Classical.byContradiction fun hno => hne (Nat.eq_of_testBit_eq fun i => ?_)
    cases hai : a.testBit i
    · cases hbi : b.testBit i
      · rfl
      · exact absurd ⟨i, hai, hbi⟩ hno
    · exact (sub_iff.1 h i hai).symm
  have hxm : x < m := bit_ltC hb hx.2
  rw [cn_erase (q := fun i => b.testBit i) (y := x) hx.2 m hxm]
  refine Nat.lt_succ_of_le (cn_mono m fun i _ hi => ?_)
  rw [Bool.and_eq_true, Bool.not_eq_true', decide_eq_false_iff_not]
  exact ⟨sub_iff.1 h i hi, fun e => by rw [e, hx.1] at hi; cases hi⟩
theorem ft_ne {i j : Nat} (h : ftB S neB i j = true) : sub (S.getD i 0) (S.getD j 0) = true ∧ S.getD i 0 ≠ S.getD j 0 := by
  unfold ftB neB at h
  rw [Bool.and_eq_true, decide_eq_true_eq] at h
  exact h
/-- No more steps than points. -/
theorem wI_none (hF : Fam n S) : ∀ k j, j < S.length → pcTo (S.getD j 0) n < k → wI S neB k j = 0
  | 0, _, _, h => absurd h (Nat.not_lt_zero _)
  | k + 1, j, hj, h => by
    rw [wI_s]
    refine sumTo_zero fun i hi => ?_
    split
    · rename_i hf
      obtain ⟨h1, h2⟩ := ft_ne hf
      exact wI_none hF k i hi (by have := pc_lt (hF.lt i hi) (hF.lt j hj) h1 h2; omega)
    · rfl
/-- Numbers by binomial numbers. -/
def vI (S : List Nat) (z : Int) (K j : Nat) : Int := sumI (fun k => (wI S neB k j : Int) * bn z k) K
/-- One step. -/
theorem vI_step (hF : Fam n S) (hn : n ≤ 10) {z : Int} (h1 : -23 ≤ z) (h2 : z ≤ 20) {j : Nat} (hj : j < S.length) : vI S (z + 1) (n + 1) j = vI S z (n + 1) j + inI S (vI S z (n + 1)) j := by
  have e1 : inI S (vI S z (n + 1)) j = sumI (fun k => (wI S neB (k + 1) j : Int) * bn z k) (n + 1) := by
    unfold vI
    rw [inI_sum (fun k i => (wI S neB k i : Int) * bn z k) j (n + 1)]
    refine sumI_congr fun k _ => ?_
    rw [wI_in, Int.mul_comm, ← inI_mul]
    exact inI_congr fun i _ _ => Int.mul_comm _ _
  have e2 : sumI (fun k => (wI S neB (k + 1) j : Int) * bn z k) (n + 1) = sumI (fun k => (wI S neB (k + 1) j : Int) * bn z k) n := by
    rw [sumI_s, wI_none hF (n + 1) j hj (by have := pcTo_le (S.getD j 0) n; omega)]; simp
  rw [e1, e2]
  unfold vI
  have sh : ∀ (f : Nat → Int) m, sumI f (m + 1) = f 0 + sumI (fun k => f (k + 1)) m := fun f m => by
    induction m with
    | zero => show 0 + f 0 = f 0 + 0; omega
    | succ m ih => rw [sumI_s, ih, sumI_s]; omega
  rw [sh, sh (fun k => (wI S neB k j : Int) * bn z k) n]
  have e3 : sumI (fun k => (wI S neB (k + 1) j : Int) * bn (z + 1) (k + 1)) n = sumI (fun k => (wI S neB (k + 1) j : Int) * bn z (k + 1)) n + sumI (fun k => (wI S neB (k + 1) j : Int) * bn z k) n := by
    rw [← sumI_add]
    exact sumI_congr fun k hk => by rw [bn_pas h1 h2 (by omega), Int.mul_add]
  rw [e3, show bn (z + 1) 0 = bn z 0 from rfl]; omega
theorem vI_zero (K j : Nat) : vI S 0 (K + 1) j = (wI S neB 0 j : Nat) := by
  unfold vI
  rw [sumI_sgl (b := 0) (by omega) fun k _ hk => ?_]
  · show _ * bn 0 0 = _
    rw [show bn 0 0 = 1 from rfl, Int.mul_one]
  · obtain ⟨q, rfl⟩ : ∃ q, k = q + 1 := ⟨k - 1, by omega⟩
    rw [bn_zero, Int.mul_zero]
/-! Maps that rise or stay. -/
theorem wI_weak (hF : Fam n S) {p : Nat → Nat → Bool} (hp : ∀ s t, p s t = true) (k : Nat) {j : Nat} (hj : j < S.length) : ((wI S p (k + 1) j : Nat) : Int) = (wI S p k j : Int) + inI S (fun i => (wI S p k i : Int)) j := by
  rw [wI_s, sumTo_int]
  rw [sumI_out hj]
  have e1 : (((if ftB S p j j = true then wI S p k j else 0 : Nat)) : Int) = (wI S p k j : Int) := by
    rw [if_pos (by unfold ftB; rw [hp, sub_rflW]; rfl)]
  rw [e1, Int.add_comm]
  congr 1
  refine sumI_congr fun i hi => ?_
  by_cases e : i = j
  · subst e
    rw [if_pos rfl, if_neg]
    intro h; exact (ft_ne h).2 rfl
  · rw [if_neg e]
    have hne : S.getD i 0 ≠ S.getD j 0 := fun q => e (hF.inj hi hj q)
    have e2 : ftB S p i j = ftB S neB i j := by
      unfold ftB neB
      rw [hp, decide_eq_true hne]
    rw [e2]
    split <;> rfl
/-- Value counts the monotone maps. -/
theorem vI_weak (hF : Fam n S) (hn : n ≤ 10) {p : Nat → Nat → Bool} (hp : ∀ s t, p s t = true) : ∀ (m : Nat), m ≤ 20 → ∀ j, j < S.length → vI S (m : Int) (n + 1) j = (wI S p m j : Nat)
  | 0, _, j, hj => vI_zero n j
  | m + 1, hm, j, hj => by
    have ih := vI_weak hF hn hp m (by omega)
    rw [wI_weak hF hp m hj, show (((m + 1 : Nat) : Nat) : Int) = (m : Int) + 1 by omega, vI_step hF hn (by omega) (by omega) hj, ih j hj]
    congr 1
    exact inI_congr fun i hi _ => ih i hi
end
end Go.Proofs.YtkackilhfkicoaaDoor
