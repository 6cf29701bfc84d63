/- Up until it stays: where a map comes to from a point that goes up (plain). -/
import Derived.Test.YtdkkalplgfhpdaaTh
import Derived.Test.YtdkkalplgfhpdaaIp
set_option linter.unusedSimpArgs false
set_option linter.unusedVariables false
set_option linter.unusedSectionVars false
set_option maxRecDepth 20000
namespace Go.Proofs.Ytdkkalplgfhpdaa
attribute [local irreducible] QOp aL aC qL
/-- What is below what, among the first n numbers. -/
structure PoN (n : Nat) (le : Nat → Nat → Bool) : Prop where
  rf : ∀ x, x < n → le x x = true
  tr : ∀ x y z, x < n → y < n → z < n → le x y = true → le y z = true → le x z = true
  an : ∀ x y, x < n → y < n → le x y = true → le y x = true → x = y
theorem PoN.flip {n : Nat} {le : Nat → Nat → Bool} (h : PoN n le) : PoN n fun x y => le y x :=
  ⟨h.rf, fun x y z hx hy hz h1 h2 => h.tr z y x hz hy hx h2 h1, fun x y hx hy h1 h2 => h.an x y hx hy h2 h1⟩
theorem cqN_mono {p q : Nat → Bool} : ∀ {k : Nat}, (∀ i, i < k → p i = true → q i = true) → cqN p k ≤ cqN q k
  | 0, _ => Nat.le_refl _
  | k + 1, h => by
    have ih := cqN_mono (p := p) (q := q) (k := k) fun i hi => h i (by omega)
    have h1 := h k (by omega)
    rw [cqN, cqN]
    by_cases hp : p k = true
    · rw [if_pos hp, if_pos (h1 hp)]; omega
    · rw [if_neg hp]; split <;> omega
theorem cqN_lt {p q : Nat → Bool} : ∀ {k x : Nat}, (∀ i, i < k → p i = true → q i = true) → x < k → p x = false → q x = true → cqN p k < cqN q k
  | 0, x, _, hx, _, _ => by omega
  | k + 1, x, h, hx, h1, h2 => by
    have hm := cqN_mono (p := p) (q := q) (k := k) fun i hi => h i (by omega)
    rw [cqN, cqN]
    by_cases e : x = k
    · subst e
      rw [if_neg (by rw [h1]; decide), if_pos h2]; omega
    · have ih := cqN_lt (p := p) (q := q) (k := k) (x := x) (fun i hi => h i (by omega)) (by omega) h1 h2
      by_cases hp : p k = true
      · rw [if_pos hp, if_pos (h k (by omega) hp)]; omega
      · rw [if_neg hp]; split <;> omega
/-- How many are above, itself too. -/
def upC (le : Nat → Nat → Bool) (n x : Nat) : Nat := cqN (le x) n
theorem upC_lt {n : Nat} {le : Nat → Nat → Bool} (hp : PoN n le) {x y : Nat} (hx : x < n) (hy : y < n) (h : le x y = true) (hne : y ≠ x) : upC le n y < upC le n x := by
  refine cqN_lt (x := x) (fun i hi h1 => hp.tr x y i hx hy hi h h1) hx ?_ (hp.rf x hx)
  cases h2 : le y x
  · rfl
  · exact absurd (hp.an x y hx hy h h2) (Ne.symm hne)
theorem upC_pos {n : Nat} {le : Nat → Nat → Bool} (hp : PoN n le) {x : Nat} (hx : x < n) : 0 < upC le n x := by
  rcases Nat.eq_zero_or_pos (upC le n x) with h | h
  · have := cqN_zero.1 h x hx
    rw [hp.rf x hx] at this; cases this
  · exact h
def itR (F : Nat → Nat) : Nat → Nat → Nat
  | 0, x => x
  | k + 1, x => F (itR F k x)
/-- The map goes from n points to n points, and is monotone. -/
structure MnR (n : Nat) (le : Nat → Nat → Bool) (F : Nat → Nat) : Prop where
  ml : ∀ x, x < n → F x < n
  mm : ∀ x y, x < n → y < n → le x y = true → le (F x) (F y) = true
theorem itR_up {n : Nat} {le : Nat → Nat → Bool} {F : Nat → Nat} (hp : PoN n le) (hF : MnR n le F) {z : Nat} (hz : z < n) (hu : le z (F z) = true) :
    ∀ k, itR F k z < n ∧ le z (itR F k z) = true ∧ le (itR F k z) (F (itR F k z)) = true ∧ (F (itR F k z) = itR F k z ∨ upC le n (itR F k z) + k ≤ upC le n z)
  | 0 => ⟨hz, hp.rf z hz, hu, .inr (Nat.le_refl _)⟩
  | k + 1 => by
    obtain ⟨h1, h2, h3, h4⟩ := itR_up hp hF hz hu k
    have h5 := hF.ml _ h1
    refine ⟨h5, hp.tr _ _ _ hz h1 h5 h2 h3, hF.mm _ _ h1 h5 h3, ?_⟩
    show F (F (itR F k z)) = F (itR F k z) ∨ _
    by_cases e : F (itR F k z) = itR F k z
    · left; rw [e, e]
    · right
      have := upC_lt hp h1 h5 h3 e
      rcases h4 with h4 | h4
      · exact absurd h4 e
      · show upC le n (F (itR F k z)) + (k + 1) ≤ _
        omega
/-- After n steps it stays. -/
theorem itR_fix {n : Nat} {le : Nat → Nat → Bool} {F : Nat → Nat} (hp : PoN n le) (hF : MnR n le F) {z : Nat} (hz : z < n) (hu : le z (F z) = true) : F (itR F n z) = itR F n z := by
  obtain ⟨h1, _, _, h4⟩ := itR_up hp hF hz hu n
  rcases h4 with h4 | h4
  · exact h4
  · have := upC_pos hp h1
    have := cqN_le (le z) n
    unfold upC at *
    omega
theorem itR_below {n : Nat} {le : Nat → Nat → Bool} {F : Nat → Nat} (hF : MnR n le F) {z c : Nat} (hz : z < n) (hc : c < n) (hfc : F c = c) (h : le z c = true) : ∀ k, itR F k z < n ∧ le (itR F k z) c = true
  | 0 => ⟨hz, h⟩
  | k + 1 => by
    obtain ⟨h1, h2⟩ := itR_below hF hz hc hfc h k
    have := hF.mm _ _ h1 hc h2
    rw [hfc] at this
    exact ⟨hF.ml _ h1, this⟩
/-- ABIAN, BROWN: above a point that goes up is one that stays. -/
theorem abian {n : Nat} {le : Nat → Nat → Bool} {F : Nat → Nat} (hp : PoN n le) (hF : MnR n le F) {z : Nat} (hz : z < n) (hu : le z (F z) = true) : ∃ x, x < n ∧ F x = x ∧ le z x = true :=
  ⟨itR F n z, (itR_up hp hF hz hu n).1, itR_fix hp hF hz hu, (itR_up hp hF hz hu n).2.1⟩
/-- The least one that stays. -/
structure LsF (n : Nat) (le : Nat → Nat → Bool) (F : Nat → Nat) (x : Nat) : Prop where
  sl : x < n
  sf : F x = x
  sm : ∀ c, c < n → F c = c → le x c = true
theorem LsF.one {n : Nat} {le : Nat → Nat → Bool} {F : Nat → Nat} (hp : PoN n le) {x y : Nat} (h : LsF n le F x) (h' : LsF n le F y) : x = y :=
  hp.an x y h.sl h'.sl (h.sm y h'.sl h'.sf) (h'.sm x h.sl h.sf)
theorem lsF_ex {n : Nat} {le : Nat → Nat → Bool} {F : Nat → Nat} (hp : PoN n le) (hF : MnR n le F) {b : Nat} (hb : b < n) (hb2 : ∀ c, c < n → le b c = true) : ∃ x, LsF n le F x :=
  ⟨itR F n b, (itR_up hp hF hb (hb2 _ (hF.ml _ hb)) n).1, itR_fix hp hF hb (hb2 _ (hF.ml _ hb)), fun c hc hfc => (itR_below hF hb hc hfc (hb2 c hc) n).2⟩
/-- What is below what in a lattice, or turned over. -/
def leT (M : List (List Nat)) (h : Bool) (x y : Nat) : Bool := match h with
  | true => decide (ta M y x = y)
  | false => decide (ta M x y = x)
theorem leT_po {n : Nat} {M : List (List Nat)} {g : Nat → Nat → Nat} (L : Lt n (ta M) g) : ∀ h, PoN n (leT M h) := by
  have h0 : PoN n (leT M false) := ⟨fun x hx => decide_eq_true (L.idem hx), fun x y z hx hy hz h1 h2 => decide_eq_true (L.trans hx hy hz (of_decide_eq_true h1) (of_decide_eq_true h2)),
    fun x y hx hy h1 h2 => L.anti hx hy (of_decide_eq_true h1) (of_decide_eq_true h2)⟩
  intro h
  cases h
  · exact h0
  · exact h0.flip
/-- The map is monotone, in a lattice. -/
def LmP (n : Nat) (M : List (List Nat)) (F : List Nat) : Prop := ∀ x, x < n → ∀ y, y < n → ta M x y = x → ta M (F.getD x 0) (F.getD y 0) = F.getD x 0
instance (n : Nat) (M : List (List Nat)) (F : List Nat) : Decidable (LmP n M F) := by unfold LmP; infer_instance
theorem LmP.mn {n : Nat} {M : List (List Nat)} {F : List Nat} (h : LmP n M F) (hl : ∀ x, x < n → F.getD x 0 < n) : ∀ b, MnR n (leT M b) fun x => F.getD x 0
  | false => ⟨hl, fun x y hx hy h1 => decide_eq_true (h x hx y hy (of_decide_eq_true h1))⟩
  | true => ⟨hl, fun x y hx hy h1 => decide_eq_true (h y hy x hx (of_decide_eq_true h1))⟩
/-- The end at which one begins. -/
def enT (M J : List (List Nat)) (n : Nat) : Bool → Nat
  | false => endE (ta M) n
  | true => endE (ta J) n
theorem enT_ok {n : Nat} {M J : List (List Nat)} (L : Lt n (ta M) (ta J)) (h0 : 0 < n) : ∀ b, enT M J n b < n ∧ ∀ c, c < n → leT M b (enT M J n b) c = true
  | false => ⟨endE_lt L.fl n (Nat.le_refl _) h0, fun c hc => decide_eq_true (endE_least L h0 n (Nat.le_refl _) c hc)⟩
  | true => by
    have h1 := endE_lt L.gl n (Nat.le_refl _) h0
    refine ⟨h1, fun c hc => decide_eq_true ?_⟩
    have := endE_least L.dual h0 n (Nat.le_refl _) c hc
    show ta M c (endE (ta J) n) = c
    rw [L.up hc h1, L.dual.comm hc h1]
    exact this
end Go.Proofs.Ytdkkalplgfhpdaa
