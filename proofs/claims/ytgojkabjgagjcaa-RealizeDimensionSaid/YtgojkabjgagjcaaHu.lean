import Derived.Test.YtgojkabjgagjcaaHr
set_option linter.unusedSimpArgs false
set_option linter.unusedVariables false
set_option linter.unusedSectionVars false
set_option maxRecDepth 20000
namespace Go.Proofs.Ytgojkabjgagjcaa
attribute [local irreducible] QOp aL aC qL
theorem wTo_iff {to : List Nat} {s j : Nat} : ∀ {k : Nat}, wTo to s j k = true ↔ ∃ i, i < k ∧ s.testBit i = true ∧ (to.getD i 0).testBit j = true
  | 0 => ⟨fun h => Bool.noConfusion h, fun ⟨i, h, _⟩ => absurd h (Nat.not_lt_zero i)⟩
  | k + 1 => by
    rw [wTo, Bool.or_eq_true, Bool.and_eq_true, wTo_iff (k := k)]
    constructor
    · rintro (⟨i, h1, h2⟩ | h)
      · exact ⟨i, by omega, h2⟩
      · exact ⟨k, by omega, h⟩
    · rintro ⟨i, h1, h2⟩
      by_cases e : i = k
      · subst e; exact .inr h2
      · exact .inl ⟨i, by omega, h2⟩
theorem nb_iff {to : List Nat} {s j k : Nat} : (orTo to s k).testBit j = true ↔ ∃ i, i < k ∧ s.testBit i = true ∧ (to.getD i 0).testBit j = true := by rw [orTo_bit]; exact wTo_iff
theorem to_lt {l r : Nat} {to : List Nat} (hc : Ctx l r to) {i y : Nat} (h : (to.getD i 0).testBit y = true) : y < r := by
  rcases Nat.lt_or_ge y r with h1 | h1
  · exact h1
  · rw [Nat.testBit_lt_two_pow (Nat.lt_of_lt_of_le (hc.get i) (Nat.pow_le_pow_right (by decide) h1))] at h; cases h
theorem bit_lt' {x n i : Nat} (h : x < 2 ^ n) (hb : x.testBit i = true) : i < n := by
  rcases Nat.lt_or_ge i n with h1 | h1
  · exact h1
  · rw [Nat.testBit_lt_two_pow (Nat.lt_of_lt_of_le h (Nat.pow_le_pow_right (by decide) h1))] at hb; cases hb
/-- How many of the left have nobody. -/
def fr (w : List Int) (l : Nat) : Nat := cn (fun x => decide (w.getD x 0 = -1)) l
/-- A matching, told in places. -/
structure Mt (l r : Nat) (to : List Nat) (w : List Int) : Prop where
  len : w.length = l
  ok : ∀ i, i < l → w.getD i 0 = -1 ∨ ∃ y : Nat, y < r ∧ w.getD i 0 = y ∧ (to.getD i 0).testBit y = true
  inj : ∀ i j, i < l → j < l → w.getD i 0 = w.getD j 0 → w.getD i 0 ≠ -1 → i = j
theorem Pr.mt {l r : Nat} {to : List Nat} {s : KS} (h : Cn l r to s) : Mt l r to s.w := by
  refine ⟨h.lw, fun i hi => ?_, fun i j hi hj he hn => ?_⟩
  · rcases h.wr i hi with h1 | ⟨y, hy, h1⟩
    · exact .inl h1
    · exact .inr ⟨y, hy, h1, (h.wb i y hi hy h1).2⟩
  · rcases h.wr i hi with h1 | ⟨y, hy, h1⟩
    · exact absurd h1 hn
    · have a := (h.wb i y hi hy h1).1
      have b := (h.wb j y hj hy (by rw [← he]; exact h1)).1
      omega
/-- Each set has partners for all but those that have nobody. -/
theorem Mt.hall {l r : Nat} {to : List Nat} {w : List Int} (hc : Ctx l r to) (h : Mt l r to w) {T : Nat} : pcTo T l ≤ pcTo (orTo to T l) r + fr w l := by
  rw [pc_cn, pc_cn, cn_split (fun i => T.testBit i) (fun x => decide (w.getD x 0 = -1)) l]
  have h1 : cn (fun i => T.testBit i && decide (w.getD i 0 = -1)) l ≤ fr w l := cn_mono l fun i _ hp => by simp at hp ⊢; exact hp.2
  have h2 : cn (fun i => T.testBit i && !decide (w.getD i 0 = -1)) l ≤ cn (fun i => (orTo to T l).testBit i) r := by
    refine cn_inj (f := fun i => (w.getD i 0).toNat) l _ (fun i hi hp => ?_) (fun i j hi hj hp hq he => ?_)
    · simp only [Bool.and_eq_true, Bool.not_eq_true', decide_eq_false_iff_not] at hp
      rcases h.ok i hi with h3 | ⟨y, hy, h3, h4⟩
      · exact absurd h3 hp.2
      · have e : (w.getD i 0).toNat = y := by omega
        rw [e]
        exact ⟨hy, nb_iff.2 ⟨i, hi, hp.1, h4⟩⟩
    · simp only [Bool.and_eq_true, Bool.not_eq_true', decide_eq_false_iff_not] at hp hq
      rcases h.ok i hi with h3 | ⟨y, hy, h3, h4⟩
      · exact absurd h3 hp.2
      · rcases h.ok j hj with h5 | ⟨z, hz, h5, h6⟩
        · exact absurd h5 hq.2
        · have he : (w.getD i 0).toNat = (w.getD j 0).toNat := he
          exact h.inj i j hi hj (by omega) hp.2
  omega
/-- A closed set, with all that have nobody, lacks as many. -/
theorem lack_of {l r : Nat} {to : List Nat} {s : KS} (h : Cn l r to s) {Z : Nat} (hf : ∀ x, x < l → s.w.getD x 0 = -1 → Z.testBit x = true) (hz : ∀ y, y < r → (orTo to Z l).testBit y = true → ∃ x : Nat, x < l ∧ s.b.getD y 0 = x ∧ Z.testBit x = true) : pcTo (orTo to Z l) r + fr s.w l ≤ pcTo Z l := by
  rw [pc_cn, pc_cn, cn_split (fun i => Z.testBit i) (fun x => decide (s.w.getD x 0 = -1)) l]
  have h1 : fr s.w l ≤ cn (fun i => Z.testBit i && decide (s.w.getD i 0 = -1)) l := cn_mono l fun i hi hp => by
    have hp2 : s.w.getD i 0 = -1 := by simpa using hp
    simp only [Bool.and_eq_true, decide_eq_true_eq]
    exact ⟨hf i hi hp2, hp2⟩
  have h2 : cn (fun i => (orTo to Z l).testBit i) r ≤ cn (fun i => Z.testBit i && !decide (s.w.getD i 0 = -1)) l := by
    refine cn_inj (f := fun y => (s.b.getD y 0).toNat) r _ (fun y hy hp => ?_) (fun y z hy hz2 hp hq he => ?_)
    · obtain ⟨x, hx, h3, h4⟩ := hz y hy hp
      have e : (s.b.getD y 0).toNat = x := by omega
      have h5 := h.bw x y hx hy h3
      rw [e]
      refine ⟨hx, ?_⟩
      simp only [Bool.and_eq_true, Bool.not_eq_true', decide_eq_false_iff_not]
      exact ⟨h4, by omega⟩
    · obtain ⟨x, hx, h3, _⟩ := hz y hy hp
      obtain ⟨x2, hx2, h5, _⟩ := hz z hz2 hq
      have he : (s.b.getD y 0).toNat = (s.b.getD z 0).toNat := he
      have h6 := h.bw x y hx hy h3
      have h7 := h.bw x z hx hz2 (by omega)
      omega
  omega
/-! The reference's deficit. -/
def dfT (l : Nat) (to : List Nat) : Nat → Nat
  | 0 => 0
  | k + 1 => max (dfT l to k) (pcTo k 10 - pcTo (orTo to k l) 10)
theorem dfT_le {l : Nat} {to : List Nat} {F : Nat} : ∀ k, (∀ j, j < k → pcTo j 10 ≤ pcTo (orTo to j l) 10 + F) → dfT l to k ≤ F
  | 0, _ => Nat.zero_le _
  | k + 1, h => by
    have h1 := dfT_le k fun j hj => h j (by omega)
    have h2 := h k (by omega)
    rw [dfT]; omega
theorem dfT_ge {l : Nat} {to : List Nat} {j : Nat} : ∀ k, j < k → pcTo j 10 - pcTo (orTo to j l) 10 ≤ dfT l to k
  | 0, h => absurd h (Nat.not_lt_zero j)
  | k + 1, h => by
    rw [dfT]
    by_cases e : j = k
    · subst e; omega
    · have := dfT_ge (l := l) (to := to) k (show j < k by omega)
      omega
/-! Who is come to by turns. -/
/-- Those of the first k of the left that have nobody. -/
def lfT (w : List Int) : Nat → Nat
  | 0 => 0
  | k + 1 => if w.getD k 0 < 0 then lfT w k ||| 2 ^ k else lfT w k
/-- Whom the first k of a set on the right have, and a set on the left. -/
def bkT (bk : List Int) (R L : Nat) : Nat → Nat
  | 0 => L
  | k + 1 => if R.testBit k = true ∧ 0 ≤ bk.getD k 0 then bkT bk R L k ||| 2 ^ (bk.getD k 0).toNat else bkT bk R L k
def ck (l r : Nat) (to : List Nat) (s : KS) : Nat → Nat × Nat
  | 0 => (lfT s.w l, 0)
  | k + 1 => (bkT s.b (orTo to (ck l r to s k).1 l) (ck l r to s k).1 r, orTo to (ck l r to s k).1 l)
theorem lf_bit {w : List Int} {x : Nat} : ∀ {k : Nat}, (lfT w k).testBit x = true ↔ x < k ∧ w.getD x 0 < 0
  | 0 => by rw [lfT, Nat.zero_testBit]; exact ⟨fun h => Bool.noConfusion h, fun h => absurd h.1 (Nat.not_lt_zero x)⟩
  | k + 1 => by
    have ih := lf_bit (w := w) (x := x) (k := k)
    rw [lfT]
    by_cases h : w.getD k 0 < 0
    · rw [if_pos h, Nat.testBit_or, Nat.testBit_two_pow, Bool.or_eq_true, ih, decide_eq_true_eq]
      constructor
      · rintro (h1 | h1)
        · exact ⟨by omega, h1.2⟩
        · subst h1; exact ⟨by omega, h⟩
      · rintro ⟨h1, h2⟩
        by_cases e : k = x
        · exact .inr e
        · exact .inl ⟨by omega, h2⟩
    · rw [if_neg h, ih]
      constructor
      · rintro ⟨h1, h2⟩; exact ⟨by omega, h2⟩
      · rintro ⟨h1, h2⟩
        by_cases e : k = x
        · subst e; exact absurd h2 h
        · exact ⟨by omega, h2⟩
theorem lf_lt (w : List Int) (k : Nat) : lfT w k < 2 ^ k := Nat.lt_pow_two_of_testBit _ fun i hi => by
  cases hq : (lfT w k).testBit i
  · rfl
  · have := (lf_bit.1 hq).1; omega
theorem bk_bit {bk : List Int} {R L x : Nat} : ∀ {k : Nat}, (bkT bk R L k).testBit x = true ↔ L.testBit x = true ∨ ∃ y, y < k ∧ R.testBit y = true ∧ bk.getD y 0 = (x : Int)
  | 0 => by rw [bkT]; exact ⟨.inl, fun h => h.elim id fun ⟨y, h, _⟩ => absurd h (Nat.not_lt_zero y)⟩
  | k + 1 => by
    have ih := bk_bit (bk := bk) (R := R) (L := L) (x := x) (k := k)
    rw [bkT]
    by_cases h : R.testBit k = true ∧ 0 ≤ bk.getD k 0
    · rw [if_pos h, Nat.testBit_or, Nat.testBit_two_pow, Bool.or_eq_true, ih, decide_eq_true_eq]
      constructor
      · rintro ((h1 | ⟨y, h1, h2⟩) | h1)
        · exact .inl h1
        · exact .inr ⟨y, by omega, h2⟩
        · exact .inr ⟨k, by omega, h.1, by omega⟩
      · rintro (h1 | ⟨y, h1, h2, h3⟩)
        · exact .inl (.inl h1)
        · by_cases e : y = k
          · subst e; exact .inr (by omega)
          · exact .inl (.inr ⟨y, by omega, h2, h3⟩)
    · rw [if_neg h, ih]
      constructor
      · rintro (h1 | ⟨y, h1, h2⟩)
        · exact .inl h1
        · exact .inr ⟨y, by omega, h2⟩
      · rintro (h1 | ⟨y, h1, h2, h3⟩)
        · exact .inl h1
        · by_cases e : y = k
          · subst e; exact absurd ⟨h2, by omega⟩ h
          · exact .inr ⟨y, by omega, h2, h3⟩
theorem bk_lt {l r : Nat} {bk : List Int} {R L : Nat} (hL : L < 2 ^ l) (hb : ∀ y, y < r → bk.getD y 0 < (l : Int)) : ∀ k, k ≤ r → bkT bk R L k < 2 ^ l
  | 0, _ => hL
  | k + 1, hk => by
    have ih := bk_lt hL hb (R := R) k (by omega)
    have := hb k (by omega)
    rw [bkT]
    split
    · exact Nat.or_lt_two_pow ih (Nat.pow_lt_pow_right (by decide) (by omega))
    · exact ih
theorem ck_lt {l r : Nat} {to : List Nat} {s : KS} (hb : ∀ y, y < r → s.b.getD y 0 < (l : Int)) : ∀ k, (ck l r to s k).1 < 2 ^ l
  | 0 => lf_lt s.w l
  | k + 1 => bk_lt (ck_lt hb k) hb r (Nat.le_refl r)
theorem ck_up {l r : Nat} {to : List Nat} {s : KS} (k : Nat) (i : Nat) (h : (ck l r to s k).1.testBit i = true) : (ck l r to s (k + 1)).1.testBit i = true := bk_bit.2 (.inl h)
theorem ck_st {l r : Nat} {to : List Nat} {s : KS} {k : Nat} (h : (ck l r to s (k + 1)).1 = (ck l r to s k).1) : (ck l r to s (k + 2)).1 = (ck l r to s (k + 1)).1 := by
  have e1 : (ck l r to s (k + 2)).1 = bkT s.b (orTo to (ck l r to s (k + 1)).1 l) (ck l r to s (k + 1)).1 r := rfl
  have e2 : (ck l r to s (k + 1)).1 = bkT s.b (orTo to (ck l r to s k).1 l) (ck l r to s k).1 r := rfl
  rw [e1, h, ← e2, h]
theorem cn_lt {p q : Nat → Bool} {n i : Nat} (hi : i < n) (hp : p i = false) (hq : q i = true) (h : ∀ j, j < n → p j = true → q j = true) : cn p n + 1 ≤ cn q n := by
  rw [cn_erase hq n hi]
  refine Nat.succ_le_succ (cn_mono n fun j hj hpj => ?_)
  have : j ≠ i := fun e => by rw [e, hp] at hpj; cases hpj
  simp [h j hj hpj, this]
theorem ck_grow {l r : Nat} {to : List Nat} {s : KS} (hb : ∀ y, y < r → s.b.getD y 0 < (l : Int)) (k : Nat) : (ck l r to s (k + 1)).1 = (ck l r to s k).1 ∨ pcTo (ck l r to s k).1 l + 1 ≤ pcTo (ck l r to s (k + 1)).1 l := by
  by_cases he : ∃ i, i < l ∧ (ck l r to s k).1.testBit i = false ∧ (ck l r to s (k + 1)).1.testBit i = true
  · obtain ⟨i, hi, h1, h2⟩ := he
    rw [pc_cn, pc_cn]
    exact .inr (cn_lt hi h1 h2 fun j _ h => ck_up k j h)
  · refine .inl (Nat.eq_of_testBit_eq fun i => ?_)
    cases h1 : (ck l r to s k).1.testBit i
    · cases h2 : (ck l r to s (k + 1)).1.testBit i
      · rfl
      · exact absurd ⟨i, bit_lt' (ck_lt hb (k + 1)) h2, h1, h2⟩ he
    · exact ck_up k i h1
theorem ck_many {l r : Nat} {to : List Nat} {s : KS} (hb : ∀ y, y < r → s.b.getD y 0 < (l : Int)) : ∀ k, (ck l r to s (k + 1)).1 = (ck l r to s k).1 ∨ k + 1 ≤ pcTo (ck l r to s (k + 1)).1 l
  | 0 => (ck_grow hb 0).imp id fun h => by omega
  | k + 1 => by
    rcases ck_many hb k with h | h
    · exact .inl (ck_st h)
    · exact (ck_grow hb (k + 1)).imp id fun h => by omega
theorem ck_end {l r : Nat} {to : List Nat} {s : KS} (hb : ∀ y, y < r → s.b.getD y 0 < (l : Int)) : ∀ d, (ck l r to s (l + d + 1)).1 = (ck l r to s (l + d)).1
  | 0 => by
    rcases ck_many (to := to) hb l with h | h
    · exact h
    · have := pcTo_le (ck l r to s (l + 1)).1 l
      omega
  | d + 1 => ck_st (ck_end hb d)
/-- The set come to, and those with whom it goes. -/
def cz (l r : Nat) (to : List Nat) (s : KS) : Nat := (ck l r to s (l + r)).1
theorem cz_R {l r : Nat} {to : List Nat} {s : KS} (hc : Ctx l r to) (hb : ∀ y, y < r → s.b.getD y 0 < (l : Int)) : (ck l r to s (l + r)).2 = orTo to (cz l r to s) l := by
  cases r with
  | zero =>
    have h1 : ∀ L, orTo to L l = 0 := fun L => by have := orTo_lt hc L l; omega
    unfold cz
    rw [h1]
    cases l with
    | zero => rfl
    | succ l => exact h1 _
  | succ d =>
    have e := ck_end (to := to) (s := s) hb d
    have e2 : l + (d + 1) = l + d + 1 := rfl
    unfold cz
    rw [e2, e]
    rfl
theorem cz_st {l r : Nat} {to : List Nat} {s : KS} (hb : ∀ y, y < r → s.b.getD y 0 < (l : Int)) (hr : 0 < r) : bkT s.b (orTo to (cz l r to s) l) (cz l r to s) r = cz l r to s := by
  have e := ck_end (to := to) (s := s) hb r
  exact e
theorem ck_S {l r : Nat} {to : List Nat} {s : KS} (hc : Ctx l r to) (h : Cn l r to s) {S : Nat → Prop} (hS : Clo l r to s S) (hf : ∀ x, x < l → s.w.getD x 0 = -1 → S x) : ∀ k x, x < l → (ck l r to s k).1.testBit x = true → S x
  | 0, x, hx, hb => by
    have h1 := (lf_bit.1 hb).2
    rcases h.wr x hx with h2 | ⟨y, _, h2⟩
    · exact hf x hx h2
    · omega
  | k + 1, x, hx, hb => by
    rcases bk_bit.1 hb with h1 | ⟨y, hy, h1, h2⟩
    · exact ck_S hc h hS hf k x hx h1
    · obtain ⟨c, hcl, h3, h4⟩ := nb_iff.1 h1
      obtain ⟨z, hz, h5, h6⟩ := hS c hcl (ck_S hc h hS hf k c hcl h3) y hy h4
      have : x = z := by omega
      rw [this]; exact h6
/-- What the work of the pairer comes to: so many have nobody, a set lacks as many, and none lacks more. -/
structure Kg (l r : Nat) (to : List Nat) (s : KS) : Prop where
  mt : Mt l r to s.w
  def_ : dfT l to (2 ^ l) = fr s.w l
  z : cz l r to s < 2 ^ l
  R : (ck l r to s (l + r)).2 = orTo to (cz l r to s) l
  eq : pcTo (cz l r to s) l = pcTo (orTo to (cz l r to s) l) r + fr s.w l
theorem koenig {l r : Nat} {to : List Nat} (hc : Ctx l r to) : Kg l r to (kp l r to l) := by
  obtain ⟨h, _, S, hS, hf⟩ := kp_pr (l := l) (r := r) (to := to) l (Nat.le_refl l)
  generalize kp l r to l = s at *
  have hb : ∀ y, y < r → s.b.getD y 0 < (l : Int) := fun y hy => by rcases h.br y hy with h | ⟨x, hx, h⟩ <;> omega
  have hm := Pr.mt h
  have hz : cz l r to s < 2 ^ l := ck_lt hb (l + r)
  have hfz : ∀ x, x < l → s.w.getD x 0 = -1 → (cz l r to s).testBit x = true := fun x hx hw => by
    have : ∀ k, (ck l r to s k).1.testBit x = true := fun k => by
      induction k with
      | zero => exact lf_bit.2 ⟨hx, by omega⟩
      | succ k ih => exact ck_up k x ih
    exact this _
  have h1 := lack_of h hfz fun y hy hN => by
    obtain ⟨c, hcl, h3, h4⟩ := nb_iff.1 hN
    obtain ⟨z, hz2, h5, _⟩ := hS c hcl (ck_S hc h hS hf (l + r) c hcl h3) y hy h4
    refine ⟨z, hz2, h5, ?_⟩
    rw [← cz_st (to := to) hb (by omega)]
    exact bk_bit.2 (.inr ⟨y, hy, hN, h5⟩)
  have h2 := hm.hall hc (T := cz l r to s)
  have hp : ∀ T, T < 2 ^ l → pcTo T 10 = pcTo T l ∧ pcTo (orTo to T l) 10 = pcTo (orTo to T l) r := fun T hT => ⟨pcTo_10 hT hc.ht, pcTo_10 (orTo_lt hc T l) hc.hm⟩
  have h3 : dfT l to (2 ^ l) ≤ fr s.w l := dfT_le _ fun j hj => by
    rw [(hp j hj).1, (hp j hj).2]; exact hm.hall hc
  have h4 := dfT_ge (l := l) (to := to) (2 ^ l) hz
  rw [(hp _ hz).1, (hp _ hz).2] at h4
  exact ⟨hm, by omega, hz, cz_R hc hb, by omega⟩
/-- A cover, told in sets. -/
def cvB (l : Nat) (to : List Nat) (A B : Nat) : Bool := (List.range l).all fun i => A.testBit i || sub (to.getD i 0) B
theorem cv_iff {l : Nat} {to : List Nat} {A B : Nat} : cvB l to A B = true ↔ ∀ i, i < l → A.testBit i = true ∨ sub (to.getD i 0) B = true := by
  unfold cvB
  simp [List.all_eq_true]
/-- Pairs are no more than the points of a cover. -/
theorem Mt.cover {l r : Nat} {to : List Nat} {w : List Int} (h : Mt l r to w) {A B : Nat} (hv : cvB l to A B = true) : cn (fun i => !decide (w.getD i 0 = -1)) l ≤ pcTo A l + pcTo B r := by
  rw [cv_iff] at hv
  rw [pc_cn, pc_cn, cn_split (fun i => !decide (w.getD i 0 = -1)) (fun i => A.testBit i) l]
  have h1 : cn (fun i => !decide (w.getD i 0 = -1) && A.testBit i) l ≤ cn (fun i => A.testBit i) l := cn_mono l fun i _ hp => by simp at hp; exact hp.2
  have h2 : cn (fun i => !decide (w.getD i 0 = -1) && !A.testBit i) l ≤ cn (fun i => B.testBit i) r := by
    refine cn_inj (f := fun i => (w.getD i 0).toNat) l _ (fun i hi hp => ?_) (fun i j hi hj hp hq he => ?_)
    · simp only [Bool.and_eq_true, Bool.not_eq_true', decide_eq_false_iff_not] at hp
      rcases h.ok i hi with h3 | ⟨y, hy, h3, h4⟩
      · exact absurd h3 hp.1
      · have e : (w.getD i 0).toNat = y := by omega
        rw [e]
        refine ⟨hy, ?_⟩
        rcases hv i hi with h5 | h5
        · rw [hp.2] at h5; cases h5
        · exact sub_iff.1 h5 y h4
    · simp only [Bool.and_eq_true, Bool.not_eq_true', decide_eq_false_iff_not] at hp hq
      rcases h.ok i hi with h3 | ⟨y, hy, h3, h4⟩
      · exact absurd h3 hp.1
      · rcases h.ok j hj with h5 | ⟨z, hz, h5, h6⟩
        · exact absurd h5 hq.1
        · have he : (w.getD i 0).toNat = (w.getD j 0).toNat := he
          exact h.inj i j hi hj (by omega) hp.1
  omega
/-! Matchings that give everyone on the left somebody. -/
theorem sum_pos {f : Nat → Nat} : ∀ {r : Nat}, 0 < sumTo f r → ∃ b, b < r ∧ 0 < f b
  | 0, h => absurd h (Nat.lt_irrefl 0)
  | r + 1, h => by
    have h : 0 < sumTo f r + f r := h
    by_cases e : 0 < f r
    · exact ⟨r, by omega, e⟩
    · obtain ⟨b, h1, h2⟩ := sum_pos (f := f) (r := r) (by omega)
      exact ⟨b, by omega, h2⟩
theorem mtc_some {r l : Nat} {to : List Nat} : ∀ f s, f ≤ l → 0 < mtc r to l f s → ∃ g : Nat → Nat, (∀ i, i < l → l - f ≤ i → g i < r ∧ (to.getD i 0).testBit (g i) = true ∧ s.testBit (g i) = false) ∧ ∀ i j, i < l → j < l → l - f ≤ i → l - f ≤ j → g i = g j → i = j
  | 0, s, _, _ => ⟨id, fun i h1 h2 => by omega, fun i j h1 h2 h3 => by omega⟩
  | f + 1, s, hf, h => by
    obtain ⟨b, hb, h1⟩ := sum_pos (show 0 < sumTo (fun b => if free to (l - (f + 1)) s b = true then mtc r to l f (s ||| 2 ^ b) else 0) r from h)
    have h1 : 0 < if free to (l - (f + 1)) s b = true then mtc r to l f (s ||| 2 ^ b) else 0 := h1
    by_cases hq : free to (l - (f + 1)) s b = true
    · rw [if_pos hq] at h1
      obtain ⟨g, h2, h3⟩ := mtc_some f (s ||| 2 ^ b) (by omega) h1
      unfold free at hq
      rw [Bool.and_eq_true, Bool.not_eq_true'] at hq
      have hs : ∀ i, i < l → l - f ≤ i → s.testBit (g i) = false ∧ g i ≠ b := fun i a1 a2 => by
        have := (h2 i a1 a2).2.2
        rw [Nat.testBit_or, Nat.testBit_two_pow, Bool.or_eq_false_iff, decide_eq_false_iff_not] at this
        exact ⟨this.1, fun e => this.2 e.symm⟩
      refine ⟨fun i => if i = l - (f + 1) then b else g i, fun i a1 a2 => ?_, fun i j a1 a2 a3 a4 he => ?_⟩
      · dsimp only
        by_cases e : i = l - (f + 1)
        · rw [if_pos e, e]
          exact ⟨hb, hq.1, hq.2⟩
        · rw [if_neg e]
          have := h2 i a1 (by omega)
          exact ⟨this.1, this.2.1, (hs i a1 (by omega)).1⟩
      · dsimp only at he
        by_cases e1 : i = l - (f + 1)
        · by_cases e2 : j = l - (f + 1)
          · omega
          · rw [if_pos e1, if_neg e2] at he
            exact absurd he.symm (hs j a2 (by omega)).2
        · by_cases e2 : j = l - (f + 1)
          · rw [if_neg e1, if_pos e2] at he
            exact absurd he (hs i a1 (by omega)).2
          · rw [if_neg e1, if_neg e2] at he
            exact h3 i j a1 a2 (by omega) (by omega) he
    · rw [if_neg hq] at h1; exact absurd h1 (Nat.lt_irrefl 0)
theorem mtc_pos {r l : Nat} {to : List Nat} {g : Nat → Nat} (h2 : ∀ i, i < l → g i < r ∧ (to.getD i 0).testBit (g i) = true) (h3 : ∀ i j, i < l → j < l → g i = g j → i = j) : ∀ f s, f ≤ l → (∀ i, i < l → l - f ≤ i → s.testBit (g i) = false) → 0 < mtc r to l f s
  | 0, _, _, _ => Nat.one_pos
  | f + 1, s, hf, hs => by
    have hi : l - (f + 1) < l := by omega
    obtain ⟨a1, a2⟩ := h2 _ hi
    have ih := mtc_pos h2 h3 f (s ||| 2 ^ g (l - (f + 1))) (by omega) fun i b1 b2 => by
      rw [Nat.testBit_or, Nat.testBit_two_pow, hs i b1 (by omega), Bool.false_or, decide_eq_false_iff_not]
      intro e
      have := h3 _ _ hi b1 e
      omega
    have h1 := sumTo_one (g := fun b => if free to (l - (f + 1)) s b = true then mtc r to l f (s ||| 2 ^ b) else 0) a1
    have h4 : free to (l - (f + 1)) s (g (l - (f + 1))) = true := by
      unfold free
      rw [a2, hs _ hi (Nat.le_refl _)]; rfl
    have h1 : (if free to (l - (f + 1)) s (g (l - (f + 1))) = true then mtc r to l f (s ||| 2 ^ g (l - (f + 1))) else 0) ≤ mtc r to l (f + 1) s := h1
    rw [if_pos h4] at h1
    omega
theorem fr_zero {l : Nat} {w : List Int} (h : fr w l = 0) : ∀ i, i < l → w.getD i 0 ≠ -1 := fun i hi he => by
  have h1 : cn (fun x => decide (w.getD x 0 = -1)) l = _ := cn_erase (q := fun x => decide (w.getD x 0 = -1)) (y := i) (by simpa using he) l hi
  have h2 : fr w l = cn (fun x => decide (w.getD x 0 = -1)) l := rfl
  omega
theorem Kg.hall {l r : Nat} {to : List Nat} {s : KS} (hc : Ctx l r to) (h : Kg l r to s) : (mtc r to l l 0 = 0 ↔ fr s.w l ≠ 0) := by
  constructor
  · intro h0 hF
    have hne := fr_zero hF
    have hg : ∀ i, i < l → ∃ y : Nat, y < r ∧ s.w.getD i 0 = y ∧ (to.getD i 0).testBit y = true := fun i hi => (h.mt.ok i hi).resolve_left (hne i hi)
    have := mtc_pos (r := r) (l := l) (to := to) (g := fun i => (s.w.getD i 0).toNat) (fun i hi => by
      obtain ⟨y, h1, h2, h3⟩ := hg i hi
      have e : (s.w.getD i 0).toNat = y := by omega
      rw [e]; exact ⟨h1, h3⟩) (fun i j hi hj he => by
      obtain ⟨y, _, h2, _⟩ := hg i hi
      obtain ⟨z, _, h4, _⟩ := hg j hj
      have he : (s.w.getD i 0).toNat = (s.w.getD j 0).toNat := he
      exact h.mt.inj i j hi hj (by omega) (hne i hi)) l 0 (Nat.le_refl l) (fun i _ _ => Nat.zero_testBit _)
    omega
  · intro hF
    rcases Nat.eq_zero_or_pos (mtc r to l l 0) with h0 | h0
    · exact h0
    · exfalso
      obtain ⟨g, h2, h3⟩ := mtc_some l 0 (Nat.le_refl l) h0
      have h4 : pcTo (cz l r to s) l ≤ pcTo (orTo to (cz l r to s) l) r := by
        rw [pc_cn, pc_cn]
        exact cn_inj (f := g) l _ (fun i hi hp => ⟨(h2 i hi (by omega)).1, nb_iff.2 ⟨i, hi, hp, (h2 i hi (by omega)).2.1⟩⟩) (fun i j hi hj _ _ he => h3 i j hi hj (by omega) (by omega) he)
      have := h.eq
      omega
end Go.Proofs.Ytgojkabjgagjcaa
