import Derived.Test.YtkbcbahpcnemmaaHr
import Derived.Test.YtkbcbahpcnemmaaEngZp
set_option linter.unusedSimpArgs false
set_option linter.unusedVariables false
set_option linter.unusedSectionVars false
set_option maxRecDepth 20000
namespace Go.Proofs.Ytkbcbahpcnemmaa
/-! Sums of whole numbers. -/
def sumI (f : Nat → Int) : Nat → Int
  | 0 => 0
  | k + 1 => sumI f k + f k
theorem sumI_s (f : Nat → Int) (k : Nat) : sumI f (k + 1) = sumI f k + f k := rfl
theorem sumI_congr {f g : Nat → Int} : ∀ {k : Nat}, (∀ i, i < k → f i = g i) → sumI f k = sumI g k
  | 0, _ => rfl
  | k + 1, h => by rw [sumI_s, sumI_s, sumI_congr fun i hi => h i (by omega), h k (by omega)]
theorem sumI_zero {f : Nat → Int} : ∀ {k : Nat}, (∀ i, i < k → f i = 0) → sumI f k = 0
  | 0, _ => rfl
  | k + 1, h => by rw [sumI_s, sumI_zero fun i hi => h i (by omega), h k (by omega)]; rfl
theorem sumI_add (f g : Nat → Int) : ∀ k, sumI (fun i => f i + g i) k = sumI f k + sumI g k
  | 0 => rfl
  | k + 1 => by rw [sumI_s, sumI_s, sumI_s, sumI_add f g k]; omega
theorem sumI_sw (f : Nat → Nat → Int) (n : Nat) : ∀ m, sumI (fun a => sumI (fun b => f a b) n) m = sumI (fun b => sumI (fun a => f a b) m) n
  | 0 => (sumI_zero fun _ _ => rfl).symm
  | m + 1 => by
    rw [sumI_s, sumI_sw f n m, ← sumI_add]
    rfl
theorem sumI_sgl {f : Nat → Int} {b : Nat} : ∀ {n : Nat}, b < n → (∀ i, i < n → i ≠ b → f i = 0) → sumI f n = f b
  | 0, h, _ => absurd h (Nat.not_lt_zero _)
  | n + 1, h, h0 => by
    rw [sumI_s]
    by_cases e : b = n
    · subst e
      rw [sumI_zero fun i hi => h0 i (by omega) (by omega), Int.zero_add]
    · rw [sumI_sgl (by omega) fun i hi => h0 i (by omega), h0 n (by omega) (Ne.symm e), Int.add_zero]
/-- One taken out. -/
theorem sumI_out {f : Nat → Int} {b : Nat} {n : Nat} (h : b < n) : sumI f n = sumI (fun i => if i = b then 0 else f i) n + f b := by
  have e : sumI f n = sumI (fun i => (if i = b then 0 else f i) + (if i = b then f i else 0)) n := sumI_congr fun i _ => by split <;> omega
  rw [e, sumI_add]
  congr 1
  rw [sumI_sgl h fun i _ hi => if_neg hi, if_pos rfl]
theorem sumI_abs (f : Nat → Int) : ∀ k, (sumI f k).natAbs ≤ sumTo (fun i => (f i).natAbs) k
  | 0 => Nat.le_refl 0
  | k + 1 => by
    have := sumI_abs f k
    rw [sumI_s]
    show _ ≤ sumTo _ k + (f k).natAbs
    omega
theorem cn_sumR (p : Nat → Bool) : ∀ N, cn p N = sumTo (fun s => if p s = true then 1 else 0) N
  | 0 => rfl
  | N + 1 => by rw [cn_s, cn_sumR p N]; rfl
theorem sumTo_sglR {f : Nat → Nat} {b : Nat} : ∀ {n : Nat}, b < n → (∀ i, i < n → i ≠ b → f i = 0) → sumTo f n = f b
  | 0, h, _ => absurd h (Nat.not_lt_zero _)
  | n + 1, h, h0 => by
    show sumTo f n + f n = f b
    by_cases e : b = n
    · subst e
      rw [sumTo_zero fun i hi => h0 i (by omega) (by omega), Nat.zero_add]
    · rw [sumTo_sglR (by omega) fun i hi => h0 i (by omega), h0 n (by omega) (Ne.symm e), Nat.add_zero]
theorem sumTo_upR {f : Nat → Nat} : ∀ {m k : Nat}, k ≤ m → sumTo f k ≤ sumTo f m
  | 0, k, h => by rw [Nat.le_zero.1 h]; exact Nat.le_refl _
  | m + 1, k, h => by
    by_cases e : k = m + 1
    · rw [e]; exact Nat.le_refl _
    · exact Nat.le_trans (sumTo_upR (m := m) (by omega)) (Nat.le_add_right _ _)
/-! What is below what: a strict order of n points. -/
structure StO (n : Nat) (L : Nat → Nat → Bool) : Prop where
  irr : ∀ i, i < n → L i i = false
  tr : ∀ i j k, i < n → j < n → k < n → L i j = true → L j k = true → L i k = true
def rkL (n : Nat) (L : Nat → Nat → Bool) (b : Nat) : Nat := (List.range n).countP fun a => L a b
theorem rkL_le (n : Nat) (L : Nat → Nat → Bool) (b : Nat) : rkL n L b ≤ n := by
  have := List.countP_le_length (p := fun a => L a b) (l := List.range n)
  rwa [List.length_range] at this
theorem countP_ltL {p q : Nat → Bool} {x : Nat} : ∀ {l : List Nat}, (∀ y ∈ l, p y = true → q y = true) → x ∈ l → q x = true → p x = false → l.countP p < l.countP q
  | [], _, h, _, _ => by cases h
  | y :: l, hpq, h, hq, hp => by
    rw [List.countP_cons, List.countP_cons]
    have hle : l.countP p ≤ l.countP q := List.countP_mono_left fun z hz => hpq z (List.mem_cons_of_mem _ hz)
    rcases List.mem_cons.1 h with rfl | h
    · rw [hq, hp]; simp; omega
    · have ih := countP_ltL (fun z hz => hpq z (List.mem_cons_of_mem _ hz)) h hq hp
      by_cases h1 : p y = true
      · rw [h1, hpq y List.mem_cons_self h1]; omega
      · rw [if_neg h1]; omega
theorem rkL_lt {n : Nat} {L : Nat → Nat → Bool} (h : StO n L) {a b : Nat} (ha : a < n) (hb : b < n) (hl : L a b = true) : rkL n L a < rkL n L b :=
  countP_ltL (fun y hy h1 => h.tr y a b (List.mem_range.1 hy) ha hb h1 hl) (List.mem_range.2 ha) hl (h.irr a ha)
/-- From the lower end. -/
def muF (n : Nat) (L : Nat → Nat → Bool) : Nat → Nat → Nat → Int
  | 0, _, _ => 0
  | f + 1, a, y => if a = y then 1 else if L a y = true then -sumI (fun x => if x = a ∨ L a x = true ∧ L x y = true then muF n L f a x else 0) n else 0
def mu (n : Nat) (L : Nat → Nat → Bool) (a y : Nat) : Int := muF n L (n + 1) a y
theorem muF_fuel {n : Nat} {L : Nat → Nat → Bool} (h : StO n L) {a : Nat} (ha : a < n) : ∀ (f y : Nat), y < n → rkL n L y < f → ∀ f', f ≤ f' → muF n L f' a y = muF n L f a y
  | 0, _, _, hf, _, _ => absurd hf (Nat.not_lt_zero _)
  | f + 1, y, hy, hf, 0, h' => by omega
  | f + 1, y, hy, hf, f' + 1, h' => by
    unfold muF
    split
    · rfl
    · split
      · rename_i hl
        congr 1
        refine sumI_congr fun x hx => ?_
        split
        · rename_i hc
          refine muF_fuel h ha f x hx ?_ f' (by omega)
          have : rkL n L x < rkL n L y := by
            rcases hc with rfl | hc
            · exact rkL_lt h ha hy hl
            · exact rkL_lt h hx hy hc.2
          omega
        · rfl
      · rfl
theorem mu_eq {n : Nat} {L : Nat → Nat → Bool} (h : StO n L) {a y : Nat} (ha : a < n) (hy : y < n) :
    mu n L a y = if a = y then 1 else if L a y = true then -sumI (fun x => if x = a ∨ L a x = true ∧ L x y = true then mu n L a x else 0) n else 0 := by
  rw [mu, muF]
  split
  · rfl
  · split
    · rename_i hl
      congr 1
      refine sumI_congr fun x hx => ?_
      split
      · rename_i hc
        have : rkL n L x < n := by
          have h1 := rkL_le n L y
          have : rkL n L x < rkL n L y := by
            rcases hc with rfl | hc
            · exact rkL_lt h ha hy hl
            · exact rkL_lt h hx hy hc.2
          omega
        exact (muF_fuel h ha n x hx this (n + 1) (by omega)).symm
      · rfl
    · rfl
/-- From the upper end. -/
def nuF (n : Nat) (L : Nat → Nat → Bool) : Nat → Nat → Nat → Int
  | 0, _, _ => 0
  | f + 1, a, b => if a = b then 1 else if L a b = true then -sumI (fun c => if c ≠ a ∧ L a c = true ∧ (c = b ∨ L c b = true) then nuF n L f c b else 0) n else 0
def upL (L : Nat → Nat → Bool) : Nat → Nat → Bool := fun a b => L b a
theorem StO.up {n : Nat} {L : Nat → Nat → Bool} (h : StO n L) : StO n (upL L) := ⟨h.irr, fun i j k hi hj hk h1 h2 => h.tr k j i hk hj hi h2 h1⟩
def nu (n : Nat) (L : Nat → Nat → Bool) (a b : Nat) : Int := nuF n L (n + 1) a b
def zt (L : Nat → Nat → Bool) (a b : Nat) : Int := if a = b ∨ L a b = true then 1 else 0
theorem mu_off {n : Nat} {L : Nat → Nat → Bool} (h : StO n L) {a y : Nat} (ha : a < n) (hy : y < n) (h1 : a ≠ y) (h2 : L a y = false) : mu n L a y = 0 := by
  rw [mu_eq h ha hy, if_neg h1, if_neg (by rw [h2]; decide)]
theorem StO.as {n : Nat} {L : Nat → Nat → Bool} (h : StO n L) {a b : Nat} (ha : a < n) (hb : b < n) (h1 : L a b = true) (h2 : L b a = true) : False := by
  have := h.tr a b a ha hb ha h1 h2
  rw [h.irr a ha] at this; cases this
theorem mu_zt {n : Nat} {L : Nat → Nat → Bool} (h : StO n L) {a y : Nat} (ha : a < n) (hy : y < n) : sumI (fun x => mu n L a x * zt L x y) n = if a = y then 1 else 0 := by
  by_cases e : a = y
  · subst e
    rw [if_pos rfl, sumI_sgl ha fun x hx hne => ?_]
    · rw [mu_eq h ha ha, if_pos rfl]; simp [zt]
    · unfold zt
      split
      · rename_i hc
        rcases hc with hc | hc
        · exact absurd hc hne
        · rw [mu_off h ha hx (Ne.symm hne) (by
            cases hq : L a x
            · rfl
            · exact (h.as ha hx hq hc).elim)]
          rfl
      · simp
  · rw [if_neg e]
    cases hl : L a y
    · refine sumI_zero fun x hx => ?_
      by_cases hxa : x = a
      · subst hxa; unfold zt; rw [if_neg (by rw [hl]; simp [e])]; simp
      · cases hax : L a x
        · rw [mu_off h ha hx (Ne.symm hxa) hax, Int.zero_mul]
        · unfold zt
          rw [if_neg, Int.mul_zero]
          rintro (hc | hc)
          · subst hc; rw [hl] at hax; cases hax
          · rw [h.tr a x y ha hx hy hax hc] at hl; cases hl
    · rw [sumI_out hy]
      have e1 : mu n L a y * zt L y y = mu n L a y := by simp [zt]
      rw [e1, mu_eq h ha hy, if_neg e, if_pos hl]
      rw [← Int.sub_eq_add_neg, Int.sub_eq_zero]
      refine sumI_congr fun x hx => ?_
      by_cases hxy : x = y
      · subst hxy
        rw [if_pos rfl, if_neg]
        rintro (hc | hc)
        · exact e hc.symm
        · rw [h.irr x hx] at hc; cases hc.2
      · rw [if_neg hxy]
        by_cases hxa : x = a
        · subst hxa
          rw [if_pos (.inl rfl)]
          unfold zt
          rw [if_pos (.inr hl), Int.mul_one]
        · cases hax : L a x
          · rw [mu_off h ha hx (Ne.symm hxa) hax, Int.zero_mul, if_neg]
            rintro (hc | hc)
            · exact hxa hc
            · cases hc.1
          · unfold zt
            cases hxy2 : L x y
            · rw [if_neg (by simp [hxy]), Int.mul_zero, if_neg]
              rintro (hc | hc)
              · exact hxa hc
              · cases hc.2
            · rw [if_pos (.inr rfl), Int.mul_one, if_pos (.inr ⟨rfl, rfl⟩)]
/-! How great they are. -/
theorem mu_sum {n : Nat} {L : Nat → Nat → Bool} (h : StO n L) {a : Nat} (ha : a < n) : ∀ (s : Nat) (p : Nat → Bool), cn p n = s → (∀ z, p z = true → z < n → z = a ∨ L a z = true) → (∀ x z, x < n → z < n → p z = true → (x = a ∨ L a x = true) → L x z = true → p x = true) →
    sumTo (fun x => if p x = true then (mu n L a x).natAbs else 0) n ≤ 2 ^ s
  | 0, p, hs, _, _ => by
    have h0 : ∀ x, x < n → p x = false := fun x hx => by
      cases hp : p x
      · rfl
      · have := cn_erase hp n hx; omega
    rw [sumTo_zero fun x hx => by rw [if_neg (by rw [h0 x hx]; decide)]]
    exact Nat.zero_le _
  | s + 1, p, hs, hp1, hp2 => by
    -- a highest one
    obtain ⟨z, hz, hpz, hmax⟩ : ∃ z, z < n ∧ p z = true ∧ ∀ y, y < n → p y = true → L z y = false := by
      have hex : ∃ z, z < n ∧ p z = true := by
        rw [cn_sumR] at hs
        obtain ⟨i, hi, h1⟩ := sumTo_pos (g := fun s => if p s = true then 1 else 0) (k := n) (by omega)
        refine ⟨i, hi, ?_⟩
        cases hq : p i
        · rw [hq] at h1; exact absurd rfl h1
        · rfl
      obtain ⟨z0, hz0, hpz0⟩ := hex
      have go : ∀ d z, z < n → p z = true → n - rkL n L z ≤ d → ∃ z, z < n ∧ p z = true ∧ ∀ y, y < n → p y = true → L z y = false := by
        intro d
        induction d with
        | zero =>
          intro z hz hpz hd
          refine ⟨z, hz, hpz, fun y hy _ => ?_⟩
          cases hq : L z y
          · rfl
          · have := rkL_lt h hz hy hq; have := rkL_le n L y; omega
        | succ d ih =>
          intro z hz hpz hd
          by_cases hq : ∃ y, y < n ∧ p y = true ∧ L z y = true
          · obtain ⟨y, hy, hpy, hl⟩ := hq
            have := rkL_lt h hz hy hl
            have := rkL_le n L y
            exact ih y hy hpy (by omega)
          · refine ⟨z, hz, hpz, fun y hy hpy => ?_⟩
            cases hl : L z y
            · rfl
            · exact absurd ⟨y, hy, hpy, hl⟩ hq
      exact go _ z0 hz0 hpz0 (Nat.le_refl _)
    have hc := cn_erase hpz n hz
    have hq1 : cn (fun x => p x && !decide (x = z)) n = s := by omega
    have ih := mu_sum h ha s (fun x => p x && !decide (x = z)) hq1 (fun y hy => hp1 y (Bool.and_eq_true _ _ ▸ hy).1) (fun x y hx hy hpy hax hl => by
      rw [Bool.and_eq_true] at hpy ⊢
      refine ⟨hp2 x y hx hy hpy.1 hax hl, ?_⟩
      rw [Bool.not_eq_true', decide_eq_false_iff_not]
      rintro rfl
      rw [hmax y hy hpy.1] at hl; cases hl)
    have e1 : sumTo (fun x => if p x = true then (mu n L a x).natAbs else 0) n = sumTo (fun x => if (p x && !decide (x = z)) = true then (mu n L a x).natAbs else 0) n + (mu n L a z).natAbs := by
      have e2 : sumTo (fun x => if p x = true then (mu n L a x).natAbs else 0) n = sumTo (fun x => (if (p x && !decide (x = z)) = true then (mu n L a x).natAbs else 0) + (if x = z then (mu n L a x).natAbs else 0)) n := sumTo_congr fun x hx => by
        by_cases e : x = z
        · subst e; rw [hpz]; simp
        · simp [e]
      rw [e2, sumTo_add]
      congr 1
      rw [sumTo_sglR hz fun i _ hi => if_neg hi, if_pos rfl]
    rw [e1, Nat.pow_succ]
    suffices (mu n L a z).natAbs ≤ 2 ^ s by omega
    by_cases e : a = z
    · subst e
      rw [mu_eq h ha hz, if_pos rfl]
      exact Nat.one_le_two_pow
    · refine Nat.le_trans ?_ ih
      rw [mu_eq h ha hz, if_neg e]
      split
      · rename_i hl
        rw [Int.natAbs_neg]
        refine Nat.le_trans (sumI_abs _ _) (sumTo_mono fun x hx => ?_)
        by_cases hcx : x = a ∨ L a x = true ∧ L x z = true
        · rw [if_pos hcx, if_pos]
          · exact Nat.le_refl _
          · have hxz : L x z = true := hcx.elim (fun q => q ▸ hl) (fun q => q.2)
            rw [Bool.and_eq_true, Bool.not_eq_true', decide_eq_false_iff_not]
            refine ⟨hp2 x z hx hz hpz (hcx.elim .inl fun q => .inr q.1) hxz, ?_⟩
            rintro rfl
            rw [h.irr x hx] at hxz; cases hxz
        · rw [if_neg hcx]
          exact Nat.zero_le _
      · exact Nat.zero_le _
/-- A part of the sum. -/
theorem mu_part {n : Nat} {L : Nat → Nat → Bool} (h : StO n L) {a : Nat} (ha : a < n) (p : Nat → Bool) (hp : ∀ x, x < n → p x = true → x = a ∨ L a x = true) : ∀ k, k ≤ n → (sumI (fun x => if p x = true then mu n L a x else 0) k).natAbs ≤ 2 ^ n := by
  intro k hk
  have h1 := mu_sum h ha _ (fun x => decide (x = a) || L a x) rfl (fun z hz _ => by simpa using hz) (fun x z _ _ _ hx _ => by simpa using hx)
  have h3 : cn (fun x => decide (x = a) || L a x) n ≤ n := cn_le _ n
  have h4 : 2 ^ cn (fun x => decide (x = a) || L a x) n ≤ 2 ^ n := Nat.pow_le_pow_right (by decide) h3
  refine Nat.le_trans (sumI_abs _ _) (Nat.le_trans ?_ (Nat.le_trans h1 h4))
  have h5 : ∀ m, m ≤ n → sumTo (fun x => (if p x = true then mu n L a x else 0).natAbs) m ≤ sumTo (fun x => if (decide (x = a) || L a x) = true then (mu n L a x).natAbs else 0) m := fun m hm => sumTo_mono fun x hx => by
    cases hq : p x
    · simp
    · rw [if_pos rfl, if_pos (by simpa using hp x (by omega) hq)]; exact Nat.le_refl _
  refine Nat.le_trans (h5 k hk) ?_
  exact sumTo_upR hk
/-! What is kept. -/
def lpF (a : Nat) (L : Nat → Nat → Bool) (y : Nat) (g : List (Int × Int) → Nat → Int × List (Int × Int)) (m : List (Int × Int)) : Nat → Int × List (Int × Int)
  | 0 => (0, m)
  | k + 1 => if k = a ∨ L a k = true ∧ L k y = true then ((lpF a L y g m k).1 - (g (lpF a L y g m k).2 k).1, (g (lpF a L y g m k).2 k).2) else lpF a L y g m k
def ofF (n : Nat) (L : Nat → Nat → Bool) (a : Nat) : Nat → List (Int × Int) → Nat → Int × List (Int × Int)
  | 0, m, _ => (0, m)
  | f + 1, m, y => match mget m y with
    | some v => (v, m)
    | none => if L a y = true then ((lpF a L y (fun m x => ofF n L a f m x) m n).1, mput (lpF a L y (fun m x => ofF n L a f m x) m n).2 y (lpF a L y (fun m x => ofF n L a f m x) m n).1) else (0, mput m y 0)
structure Kpt (n : Nat) (L : Nat → Nat → Bool) (a : Nat) (m : List (Int × Int)) : Prop where
  one : mget m a = some 1
  all : ∀ (x : Nat) (v : Int), x < n → mget m x = some v → v = mu n L a x
theorem Kpt.put {n : Nat} {L : Nat → Nat → Bool} {a : Nat} {m : List (Int × Int)} (h : Kpt n L a m) {y : Nat} (hn : mget m y = none) {v : Int} (hv : y < n → v = mu n L a y) : Kpt n L a (mput m y v) := by
  refine ⟨?_, fun x u hx hg => ?_⟩
  · rw [mget_put, if_neg, h.one]
    intro e
    rw [← e, h.one] at hn; cases hn
  · rw [mget_put] at hg
    split at hg
    · rename_i e
      have : x = y := by omega
      subst this
      rw [← Option.some.inj hg]; exact hv hx
    · exact h.all x u hx hg
theorem lpF_ok {n : Nat} {L : Nat → Nat → Bool} {a y : Nat} {g : List (Int × Int) → Nat → Int × List (Int × Int)} (hg : ∀ m x, x < n → (x = a ∨ L a x = true ∧ L x y = true) → Kpt n L a m → (g m x).1 = mu n L a x ∧ Kpt n L a (g m x).2) {m : List (Int × Int)} (hm : Kpt n L a m) :
    ∀ k, k ≤ n → (lpF a L y g m k).1 = -sumI (fun x => if x = a ∨ L a x = true ∧ L x y = true then mu n L a x else 0) k ∧ Kpt n L a (lpF a L y g m k).2
  | 0, _ => ⟨rfl, hm⟩
  | k + 1, hk => by
    obtain ⟨h1, h2⟩ := lpF_ok hg hm k (by omega)
    rw [sumI_s]
    unfold lpF
    split
    · rename_i hc
      obtain ⟨h3, h4⟩ := hg _ k (by omega) hc h2
      refine ⟨?_, h4⟩
      show (lpF a L y g m k).1 - _ = _
      rw [h1, h3]; omega
    · exact ⟨by rw [h1]; omega, h2⟩
theorem ofF_ok {n : Nat} {L : Nat → Nat → Bool} (h : StO n L) {a : Nat} (ha : a < n) : ∀ (f : Nat) (m : List (Int × Int)) (y : Nat), y < n → rkL n L y < f → Kpt n L a m → (ofF n L a f m y).1 = mu n L a y ∧ Kpt n L a (ofF n L a f m y).2
  | 0, _, _, _, hf, _ => absurd hf (Nat.not_lt_zero _)
  | f + 1, m, y, hy, hf, hm => by
    unfold ofF
    cases hg : mget m y with
    | some v => exact ⟨hm.all y v hy hg, hm⟩
    | none =>
      dsimp only
      have hne : a ≠ y := by
        rintro rfl
        rw [hm.one] at hg; cases hg
      have hmu := mu_eq h ha hy
      rw [if_neg hne] at hmu
      split
      · rename_i hl
        rw [if_pos hl] at hmu
        obtain ⟨h1, h2⟩ := lpF_ok (y := y) (g := fun m x => ofF n L a f m x) (fun m x hx hc hm => ofF_ok h ha f m x hx (by
          have : rkL n L x < rkL n L y := by
            rcases hc with rfl | hc
            · exact rkL_lt h ha hy hl
            · exact rkL_lt h hx hy hc.2
          omega) hm) hm n (Nat.le_refl n)
        refine ⟨by rw [hmu]; exact h1, ?_⟩
        have hgl : ∀ (m : List (Int × Int)), True := fun _ => trivial
        by_cases hq : mget (lpF a L y (fun m x => ofF n L a f m x) m n).2 y = none
        · exact h2.put hq fun _ => by rw [hmu]; exact h1
        · obtain ⟨v, hv⟩ := Option.ne_none_iff_exists'.1 hq
          have := h2.all y v hy hv
          refine ⟨?_, fun x u hx hgx => ?_⟩
          · rw [mget_put, if_neg (by omega), h2.one]
          · rw [mget_put] at hgx
            split at hgx
            · rename_i e
              have e2 : x = y := by omega
              subst e2
              rw [← Option.some.inj hgx, hmu]; exact h1
            · exact h2.all x u hx hgx
      · rename_i hl
        rw [if_neg hl] at hmu
        exact ⟨hmu.symm, hm.put hg fun _ => hmu.symm⟩
theorem kpt_one (n : Nat) (L : Nat → Nat → Bool) {a : Nat} (h : StO n L) (ha : a < n) : Kpt n L a [((a : Int), 1)] := by
  refine ⟨by simp [mget], fun x v hx hg => ?_⟩
  unfold mget at hg
  split at hg
  · rename_i e
    have : a = x := by exact Int.ofNat_inj.1 e
    subst this
    rw [mu_eq h ha hx, if_pos rfl]
    exact (Option.some.inj hg).symm
  · cases hg
end Go.Proofs.Ytkbcbahpcnemmaa
