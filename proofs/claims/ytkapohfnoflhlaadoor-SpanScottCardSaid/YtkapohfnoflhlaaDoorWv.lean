import Derived.Test.YtkapohfnoflhlaaDoorWm
import Derived.Test.YtkapohfnoflhlaaDoorWq
set_option linter.unusedSimpArgs false
set_option linter.unusedVariables false
set_option linter.unusedSectionVars false
set_option maxRecDepth 20000
namespace Go.Proofs.YtkapohfnoflhlaaDoor
/-! Walks from point to point, up or to one of which nothing is known. -/
def adjU (ns : List Nat) (a b : Nat) : Bool := !decide (a = b) && !lt ns b a
def wtU (ns : List Nat) (a b : Nat) : Int := if lt ns a b = true then 101 else -100
/-- Neither kind of four points. -/
structure Smi (n : Nat) (ns : List Nat) : Prop where
  v : Vld n ns
  ok : okB n ns = true
  two : ∀ a b c d, a < n → b < n → c < n → d < n → qdD a b c d = true → twQ ns a b c d = false
  three : ∀ a b c d, a < n → b < n → c < n → d < n → qdD a b c d = true → thQ ns a b c d = false
section
variable {n : Nat} {ns : List Nat} (S : Smi n ns)
include S
theorem Smi.tr {a b c : Nat} (h1 : lt ns a b = true) (h2 : lt ns b c = true) : lt ns a c = true :=
  okB_tr S.ok (lt_lt' S.v.1 h2) (lt_lt S.v.2 h2) h2 h1
theorem Smi.ne {a b : Nat} (h : lt ns a b = true) : a ≠ b := by
  rintro rfl
  rw [okB_irr S.ok (lt_lt S.v.2 h)] at h; cases h
theorem Smi.uiu {x y z w : Nat} (h1 : lt ns x y = true) (h2 : lt ns z w = true) (h3 : y ≠ z) (h4 : lt ns y z = false) (h5 : lt ns z y = false) : lt ns x w = true := by
  cases hq : lt ns x w with
  | true => rfl
  | false =>
    exfalso
    have := S.two x y z w (lt_lt S.v.2 h1) (lt_lt' S.v.1 h1) (lt_lt S.v.2 h2) (lt_lt' S.v.1 h2) (by
      unfold qdD
      rw [decide_eq_true_eq]
      refine ⟨S.ne h1, ?_, ?_, h3, ?_, S.ne h2⟩
      · rintro rfl; rw [h2] at hq; cases hq
      · rintro rfl; rw [S.tr h2 h1] at h5; cases h5
      · rintro rfl; rw [h2] at h5; cases h5)
    unfold twQ at this
    rw [h1, h2, hq, h5] at this; cases this
theorem Smi.uui {x y z w : Nat} (hw : w < n) (h1 : lt ns x y = true) (h2 : lt ns y z = true) (h3 : z ≠ w) (h4 : lt ns z w = false) (h5 : lt ns w z = false) : lt ns x w = true := by
  cases hq : lt ns x w with
  | true => rfl
  | false =>
    exfalso
    have f : ∀ p, lt ns p z = true → lt ns w p = false := fun p hp => by
      cases hb : lt ns w p with
      | false => rfl
      | true => rw [S.tr hb hp] at h5; cases h5
    have hxz := S.tr h1 h2
    have hyw : lt ns y w = false := by
      cases hb : lt ns y w with
      | false => rfl
      | true => rw [S.tr h1 hb] at hq; cases hq
    have := S.three x y z w (lt_lt S.v.2 h1) (lt_lt' S.v.1 h1) (lt_lt' S.v.1 h2) hw (by
      unfold qdD
      rw [decide_eq_true_eq]
      refine ⟨S.ne h1, S.ne hxz, ?_, S.ne h2, ?_, h3⟩
      · rintro rfl; rw [hxz] at h5; cases h5
      · rintro rfl; rw [h2] at h5; cases h5)
    unfold thQ frQ at this
    rw [h1, h2, hq, f x hxz, hyw, f y h2, h4, h5] at this; cases this
end
/-- So many steps up. -/
def UpC (ns : List Nat) : Nat → Nat → Nat → Prop
  | 0, _, _ => False
  | 1, x, y => lt ns x y = true
  | d + 2, x, y => ∃ z, UpC ns (d + 1) x z ∧ lt ns z y = true
def dwU (ns : List Nat) (g : Nat → Nat) : Nat → Int
  | 0 => 0
  | t + 1 => dwU ns g t + if lt ns (g t) (g (t + 1)) = true then 1 else -1
theorem dwU_s (ns : List Nat) (g : Nat → Nat) (t : Nat) : dwU ns g (t + 1) = dwU ns g t + if lt ns (g t) (g (t + 1)) = true then 1 else -1 := rfl
theorem dwU_per {ns : List Nat} {g : Nat → Nat} {L : Nat} (hp : ∀ t, g (t + L) = g t) : ∀ t, dwU ns g (t + L) = dwU ns g t + dwU ns g L
  | 0 => by rw [Nat.zero_add, show dwU ns g 0 = 0 from rfl]; omega
  | t + 1 => by
    have ih := dwU_per (ns := ns) hp t
    rw [show t + 1 + L = (t + L) + 1 by omega, dwU_s, dwU_s, ih, hp t, show t + L + 1 = t + 1 + L by omega, hp (t + 1)]
    omega
theorem min_ex (D : Nat → Int) : ∀ L, 0 < L → ∃ s, s < L ∧ ∀ t, t < L → D s ≤ D t
  | 0, h => absurd h (Nat.lt_irrefl 0)
  | 1, _ => ⟨0, by omega, fun t ht => by rw [show t = 0 by omega]; exact Int.le_refl _⟩
  | L + 2, _ => by
    obtain ⟨s, h1, h2⟩ := min_ex D (L + 1) (by omega)
    by_cases hq : D s ≤ D (L + 1)
    · refine ⟨s, by omega, fun t ht => ?_⟩
      by_cases e : t = L + 1
      · subst e; exact hq
      · exact h2 t (by omega)
    · refine ⟨L + 1, by omega, fun t ht => ?_⟩
      by_cases e : t = L + 1
      · subst e; exact Int.le_refl _
      · have := h2 t (by omega); omega
theorem adjU_iff {ns : List Nat} {a b : Nat} : adjU ns a b = true ↔ a ≠ b ∧ lt ns b a = false := by
  unfold adjU
  rw [Bool.and_eq_true, Bool.not_eq_true', Bool.not_eq_true', decide_eq_false_iff_not]
/-- Who comes back has gone up fewer times than not. -/
theorem cyc_lt {n : Nat} {ns : List Nat} (S : Smi n ns) {g : Nat → Nat} {L : Nat} (hL : 0 < L) (hp : ∀ t, g (t + L) = g t) (hn : ∀ t, g t < n) (he : ∀ t, adjU ns (g t) (g (t + 1)) = true) : dwU ns g L < 0 := by
  rcases Int.lt_or_le (dwU ns g L) 0 with h | hge
  · exact h
  exfalso
  obtain ⟨s, hs, hmin⟩ := min_ex (dwU ns g) L hL
  have hall : ∀ t, t ≤ L → dwU ns g s ≤ dwU ns g (s + t) := fun t ht => by
    by_cases h : s + t < L
    · exact hmin _ h
    · have := dwU_per (ns := ns) hp (s + t - L)
      rw [show s + t - L + L = s + t by omega] at this
      by_cases h2 : s + t - L < L
      · have := hmin _ h2; omega
      · have : s + t - L = L := by omega
        omega
  have key : ∀ t, t ≤ L → (∃ d : Nat, dwU ns g (s + t) = dwU ns g s + ((d + 1 : Nat) : Int) ∧ UpC ns (d + 1) (g s) (g (s + t))) ∨
      (dwU ns g (s + t) = dwU ns g s ∧ (t = 0 ∨ ∃ y, lt ns (g s) y = true ∧ y ≠ g (s + t) ∧ lt ns y (g (s + t)) = false ∧ lt ns (g (s + t)) y = false)) := fun t => by
    induction t with
    | zero => exact fun _ => .inr ⟨rfl, .inl rfl⟩
    | succ t ih =>
      intro ht
      have hd := dwU_s ns g (s + t)
      obtain ⟨e1, e2⟩ := adjU_iff.1 (he (s + t))
      have hle := hall (t + 1) ht
      rw [show s + (t + 1) = s + t + 1 by omega] at hle ⊢
      cases hu : lt ns (g (s + t)) (g (s + t + 1)) with
      | true =>
        rw [hu, if_pos rfl] at hd
        rcases ih (by omega) with ⟨d, h1, h2⟩ | ⟨h1, h2 | ⟨y, h2, h3, h4, h5⟩⟩
        · exact .inl ⟨d + 1, by omega, _, h2, hu⟩
        · subst h2
          exact .inl ⟨0, by omega, hu⟩
        · exact .inl ⟨0, by omega, S.uiu h2 hu h3 h4 h5⟩
      | false =>
        rw [hu, if_neg (by decide)] at hd
        rcases ih (by omega) with ⟨d, h1, h2⟩ | ⟨h1, _⟩
        · match d, h1, h2 with
          | 0, h1, h2 => exact .inr ⟨by omega, .inr ⟨_, h2, e1, hu, e2⟩⟩
          | 1, h1, h2 =>
            obtain ⟨z, h3, h4⟩ := h2
            exact .inl ⟨0, by omega, S.uui (hn _) h3 h4 e1 hu e2⟩
          | d + 2, h1, h2 =>
            obtain ⟨z, ⟨z', h3, h4⟩, h5⟩ := h2
            exact .inl ⟨d + 1, by omega, z', h3, S.uui (hn _) h4 h5 e1 hu e2⟩
        · omega
  have hb : g (s + L) = g s := hp s
  rcases key L (Nat.le_refl _) with ⟨d, _, h2⟩ | ⟨_, h | ⟨y, h2, _, _, h5⟩⟩
  · rw [hb] at h2
    have up : ∀ d x y, UpC ns (d + 1) x y → lt ns x y = true := fun d => by
      induction d with
      | zero => exact fun x y h => h
      | succ d ih =>
        rintro x y ⟨z, h1, h2⟩
        exact S.tr (ih x z h1) h2
    exact S.ne (up d _ _ h2) rfl
  · omega
  · rw [hb, h2] at h5; cases h5
/-! The weight of a walk. -/
def sumU (ns : List Nat) (f : Nat → Nat) : Nat → Int
  | 0 => 0
  | k + 1 => sumU ns f k + wtU ns (f k) (f (k + 1))
theorem sumU_s (ns : List Nat) (f : Nat → Nat) (k : Nat) : sumU ns f (k + 1) = sumU ns f k + wtU ns (f k) (f (k + 1)) := rfl
theorem sumU_dw (ns : List Nat) (f : Nat → Nat) : ∀ k : Nat, 2 * sumU ns f k = 201 * dwU ns f k + k
  | 0 => by rw [sumU, dwU]; rfl
  | k + 1 => by
    have ih := sumU_dw ns f k
    rw [sumU_s, dwU_s]
    unfold wtU
    split <;> omega
theorem sumU_congr {ns : List Nat} {f g : Nat → Nat} : ∀ {k : Nat}, (∀ i, i ≤ k → f i = g i) → sumU ns f k = sumU ns g k
  | 0, _ => rfl
  | k + 1, h => by rw [sumU_s, sumU_s, sumU_congr (k := k) fun i hi => h i (by omega), h k (by omega), h (k + 1) (by omega)]
theorem sumU_add (ns : List Nat) (f : Nat → Nat) (i : Nat) : ∀ t, sumU ns f (i + t) = sumU ns f i + sumU ns (fun t => f (i + t)) t
  | 0 => by rw [show sumU ns (fun t => f (i + t)) 0 = 0 from rfl, Nat.add_zero]; omega
  | t + 1 => by
    rw [show i + (t + 1) = i + t + 1 by omega, sumU_s, sumU_s, sumU_add ns f i t, show i + (t + 1) = i + t + 1 by omega]
    omega
/-- A walk of k steps that ends in b and weighs v. -/
def Wk (n : Nat) (ns : List Nat) (b k : Nat) (v : Int) : Prop := ∃ f : Nat → Nat, (∀ i, i ≤ k → f i < n) ∧ (∀ i, i < k → adjU ns (f i) (f (i + 1)) = true) ∧ f k = b ∧ sumU ns f k = v
theorem Wk.nil {n : Nat} (ns : List Nat) {b : Nat} (hb : b < n) : Wk n ns b 0 0 := ⟨fun _ => b, fun _ _ => hb, fun i hi => by omega, rfl, rfl⟩
theorem Wk.snoc {n : Nat} {ns : List Nat} {a b k : Nat} {v : Int} (h : Wk n ns a k v) (hb : b < n) (he : adjU ns a b = true) : Wk n ns b (k + 1) (v + wtU ns a b) := by
  obtain ⟨f, h1, h2, h3, h4⟩ := h
  refine ⟨fun i => if i ≤ k then f i else b, fun i hi => ?_, fun i hi => ?_, ?_, ?_⟩
  · show (if i ≤ k then f i else b) < n
    split
    · exact h1 i (by assumption)
    · exact hb
  · show adjU ns (if i ≤ k then f i else b) (if i + 1 ≤ k then f (i + 1) else b) = true
    rw [if_pos (by omega)]
    by_cases hk : i + 1 ≤ k
    · rw [if_pos hk]; exact h2 i (by omega)
    · rw [if_neg hk, show i = k by omega, h3]; exact he
  · show (if k + 1 ≤ k then f (k + 1) else b) = b
    rw [if_neg (by omega)]
  · rw [sumU_s, sumU_congr (g := f) (k := k) fun i hi => if_pos hi, h4]
    show v + wtU ns (if k ≤ k then f k else b) (if k + 1 ≤ k then f (k + 1) else b) = _
    rw [if_pos (Nat.le_refl k), if_neg (by omega), h3]
theorem phpU : ∀ (B : Nat) (f : Nat → Nat), (∀ j, j ≤ B → f j < B) → ∃ i j, i < j ∧ j ≤ B ∧ f i = f j
  | 0, f, h => absurd (h 0 (Nat.le_refl 0)) (Nat.not_lt_zero _)
  | B + 1, f, h => by
    by_cases he : ∃ i, i < B + 1 ∧ f i = f (B + 1)
    · obtain ⟨i, hi, he⟩ := he
      exact ⟨i, B + 1, hi, Nat.le_refl _, he⟩
    · have hne : ∀ i, i < B + 1 → f i ≠ f (B + 1) := fun i hi h2 => he ⟨i, hi, h2⟩
      obtain ⟨i, j, h1, h2, h3⟩ := phpU B (fun j => if f j < f (B + 1) then f j else f j - 1) (fun j hj => by
        have a1 := h j (by omega)
        have a2 := h (B + 1) (Nat.le_refl _)
        have a3 := hne j (by omega)
        show (if f j < f (B + 1) then f j else f j - 1) < B
        split <;> omega)
      have b1 := hne i (by omega)
      have b2 := hne j (by omega)
      have h3 : (if f i < f (B + 1) then f i else f i - 1) = (if f j < f (B + 1) then f j else f j - 1) := h3
      refine ⟨i, j, h1, by omega, ?_⟩
      split at h3 <;> split at h3 <;> omega
/-- No long walk weighs more than some short one. -/
theorem wk_short {n : Nat} {ns : List Nat} (S : Smi n ns) (hn : n ≤ 10) : ∀ (m k b : Nat) (v : Int), k ≤ m → Wk n ns b k v → ∃ k' v', k' < n ∧ v ≤ v' ∧ Wk n ns b k' v'
  | 0, k, b, v, hk, h => by
    have hb : b < n := by obtain ⟨f, h1, _, h3, _⟩ := h; rw [← h3]; exact h1 k (Nat.le_refl _)
    exact ⟨k, v, by omega, Int.le_refl _, h⟩
  | m + 1, k, b, v, hk, h => by
    by_cases hkn : k < n
    · exact ⟨k, v, hkn, Int.le_refl _, h⟩
    obtain ⟨f, h1, h2, h3, h4⟩ := h
    obtain ⟨i, j, hij, hjn, hf⟩ := phpU n f fun j hj => h1 j (by omega)
    obtain ⟨L, rfl⟩ : ∃ L, j = i + L := ⟨j - i, by omega⟩
    have hL : 0 < L := by omega
    have hcyc : sumU ns f (i + L) - sumU ns f i ≤ 0 := by
      have hg : ∀ t, t ≤ L → f (i + t) = f (i + t % L) := fun t ht => by
        by_cases e : t = L
        · subst e; rw [Nat.mod_self, Nat.add_zero]; exact hf.symm
        · rw [Nat.mod_eq_of_lt (by omega)]
      have h5 := cyc_lt S (g := fun t => f (i + t % L)) hL (fun t => by show f (i + (t + L) % L) = _; rw [Nat.add_mod_right]) (fun t => h1 _ (by have := Nat.mod_lt t hL; omega)) (fun t => by
        have hm := Nat.mod_lt t hL
        have e := h2 (i + t % L) (by omega)
        show adjU ns (f (i + t % L)) (f (i + (t + 1) % L)) = true
        have : (t + 1) % L = (t % L + 1) % L := (Nat.mod_add_mod t L 1).symm
        rw [this, ← hg (t % L + 1) (by omega)]
        exact e)
      have h6 := sumU_dw ns (fun t => f (i + t % L)) L
      have h7 := sumU_add ns f i L
      rw [sumU_congr (f := fun t => f (i + t)) (g := fun t => f (i + t % L)) (k := L) hg] at h7
      omega
    have hw : Wk n ns b (k - L) (sumU ns f k - (sumU ns f (i + L) - sumU ns f i)) := by
      refine ⟨fun t => if t ≤ i then f t else f (t + L), fun t ht => ?_, fun t ht => ?_, ?_, ?_⟩
      · show (if t ≤ i then f t else f (t + L)) < n
        split
        · exact h1 t (by omega)
        · exact h1 _ (by omega)
      · show adjU ns (if t ≤ i then f t else f (t + L)) (if t + 1 ≤ i then f (t + 1) else f (t + 1 + L)) = true
        by_cases e1 : t + 1 ≤ i
        · rw [if_pos (by omega), if_pos e1]; exact h2 t (by omega)
        · rw [if_neg e1]
          by_cases e2 : t ≤ i
          · rw [if_pos e2, show t = i by omega, hf, show i + 1 + L = i + L + 1 by omega]; exact h2 _ (by omega)
          · rw [if_neg e2, show t + 1 + L = t + L + 1 by omega]; exact h2 _ (by omega)
      · show (if k - L ≤ i then f (k - L) else f (k - L + L)) = b
        by_cases e : k - L ≤ i
        · rw [if_pos e, show k - L = i by omega, hf, show i + L = k by omega]; exact h3
        · rw [if_neg e, show k - L + L = k by omega]; exact h3
      · have a1 := sumU_add ns f (i + L) (k - (i + L))
        rw [show i + L + (k - (i + L)) = k by omega] at a1
        have a2 := sumU_add ns (fun t => if t ≤ i then f t else f (t + L)) i (k - (i + L))
        rw [show i + (k - (i + L)) = k - L by omega] at a2
        have a3 : sumU ns (fun t => if t ≤ i then f t else f (t + L)) i = sumU ns f i := sumU_congr fun t ht => if_pos ht
        have a4 : sumU ns (fun t => (fun t => if t ≤ i then f t else f (t + L)) (i + t)) (k - (i + L)) = sumU ns (fun t => f (i + L + t)) (k - (i + L)) := sumU_congr fun t _ => by
          show (if i + t ≤ i then f (i + t) else f (i + t + L)) = f (i + L + t)
          by_cases e : t = 0
          · subst e; rw [if_pos (by omega), Nat.add_zero, Nat.add_zero]; exact hf
          · rw [if_neg (by omega), show i + t + L = i + L + t by omega]
        rw [a2, a3, a4]; omega
    obtain ⟨k', v', b1, b2, b3⟩ := wk_short S hn m (k - L) b _ (by omega) hw
    exact ⟨k', v', b1, by omega, b3⟩
end Go.Proofs.YtkapohfnoflhlaaDoor
