import Derived.Test.YtjepdcfiogjmgaaJh
import Derived.Test.YtjepdcfiogjmgaaJj
import Derived.Test.YtjepdcfiogjmgaaJd
import Derived.Test.YtjepdcfiogjmgaaJm
import Derived.Test.YtjepdcfiogjmgaaQm
set_option linter.unusedSimpArgs false
set_option linter.unusedVariables false
set_option maxRecDepth 20000
set_option linter.unusedSectionVars false
namespace Go.Proofs.Ytjepdcfiogjmgaa
attribute [local irreducible] QOp aL aC qL
theorem nc_mono {p q : Nat → Bool} : ∀ {k : Nat}, (∀ y, y < k → p y = true → q y = true) → nc p k ≤ nc q k
  | 0, _ => Nat.le_refl _
  | k + 1, h => by
    have ih := nc_mono (k := k) fun y hy => h y (by omega)
    unfold nc
    cases hp : p k
    · rw [if_neg (by decide)]; split <;> omega
    · rw [if_pos rfl, if_pos (h k (by omega) hp)]; omega
theorem nc_lt {p q : Nat → Bool} {x : Nat} (hp : p x = false) (hq : q x = true) : ∀ {k : Nat}, x < k → (∀ y, y < k → p y = true → q y = true) → nc p k < nc q k
  | k + 1, hx, h => by
    unfold nc
    by_cases e : x = k
    · subst e
      have := nc_mono (k := x) (p := p) (q := q) fun y hy => h y (by omega)
      rw [if_pos hq, if_neg (by rw [hp]; decide)]; omega
    · have ih := nc_lt hp hq (k := k) (by omega) fun y hy => h y (by omega)
      cases hpk : p k
      · rw [if_neg (by decide)]; split <;> omega
      · rw [if_pos rfl, if_pos (h k (by omega) hpk)]; omega
section
variable {n : Nat} {f g : Nat → Nat → Nat} (L : Lt n f g)
include L
/-- Irreducible. -/
abbrev Irr (n : Nat) (f : Nat → Nat → Nat) (x : Nat) : Prop := nc (fun y => decide (CovP n f x y)) n = 1
theorem irr_join {p a b : Nat} (hp : p < n) (ha : a < n) (hb : b < n) (h : Irr n f p) (hj : g a b = p) : a = p ∨ b = p := by
  obtain ⟨c, hc, h1, h2⟩ := nc_one.1 h
  have hcv := of_decide_eq_true h1
  by_cases e1 : a = p
  · exact .inl e1
  · by_cases e2 : b = p
    · exact .inr e2
    · exfalso
      have la : f a p = a := by rw [← hj]; exact L.above ha hb
      have lb : f b p = b := by rw [← hj]; exact L.above' ha hb
      obtain ⟨c1, q1, q2, q3⟩ := cov_above L hp ha e1 la
      obtain ⟨c2, r1, r2, r3⟩ := cov_above L hp hb e2 lb
      have d1 := h2 c1 q1 (decide_eq_true q2)
      have d2 := h2 c2 r1 (decide_eq_true r2)
      subst d1
      rw [d2] at r3
      have := L.least ha hb hc q3 r3
      rw [hj] at this
      exact hcv.1.1 (L.anti hc hp hcv.1.2 this)
theorem irr_low {p c : Nat} (hp : p < n) (hc : c < n) (h : Irr n f p) (hb : f p c = p) (hl : ∀ y, y < n → f c y = c) : False := by
  obtain ⟨d, hd, h1, _⟩ := nc_one.1 h
  have hcv := of_decide_eq_true h1
  exact hcv.1.1 (L.anti hd hp hcv.1.2 (L.trans hp hc hd hb (hl d hd)))
/-- What all irreducible ones below x are below, x is below. -/
theorem irr_all (h0 : 0 < n) : ∀ (r x y : Nat), x < n → y < n → nc (fun z => decide (f z x = z)) n ≤ r → (∀ p, p < n → Irr n f p → f p x = p → f p y = p) → f x y = x := by
  intro r
  induction r with
  | zero =>
    intro x y hx hy hr _
    have h1 := nc_zero.1 (Nat.le_zero.1 hr) x hx
    rw [decide_eq_true (L.idem hx)] at h1; cases h1
  | succ r ih =>
    intro x y hx hy hr hp
    by_cases hi : Irr n f x
    · exact hp x hx hi (L.idem hx)
    · have hj : jnT f g (endE f n) x n = x := Classical.byContradiction fun hne => hi ((irr_cov L hx).1 hne)
      have := jn_least L hx hy (fun z hz hzx hle => ?_) n (Nat.le_refl _)
      · rw [hj] at this; exact this
      · refine ih z y hz hy ?_ fun p hpn hpi hpz => hp p hpn hpi (L.trans hpn hz hx hpz hle)
        have hlt : nc (fun w => decide (f w z = w)) n < nc (fun w => decide (f w x = w)) n := nc_lt (x := x) (decide_eq_false fun e => hzx (L.anti hz hx hle e)) (decide_eq_true (L.idem hx)) hx fun w hw hwz => decide_eq_true (L.trans hw hz hx (of_decide_eq_true hwz) hle)
        omega
/-- Some of a list, taken together. -/
def bJ (g : Nat → Nat → Nat) (lo : Nat) (I : List Nat) (D : Nat) : Nat → Nat
  | 0 => lo
  | k + 1 => if D.testBit k = true then g (bJ g lo I D k) (I.getD k 0) else bJ g lo I D k
theorem bJ_ok {I : List Nat} {D lo : Nat} (hI : ∀ i, i < I.length → I.getD i 0 < n) (hlo : lo < n) : ∀ k, k ≤ I.length → bJ g lo I D k < n ∧ ∀ i, i < k → D.testBit i = true → f (I.getD i 0) (bJ g lo I D k) = I.getD i 0
  | 0, _ => ⟨hlo, fun i hi => absurd hi (Nat.not_lt_zero i)⟩
  | k + 1, hk => by
    obtain ⟨h1, h2⟩ := bJ_ok hI hlo k (by omega)
    have hIk := hI k (by omega)
    rw [bJ]
    split
    · rename_i hb
      refine ⟨L.gl _ _ h1 hIk, fun i hi hbi => ?_⟩
      by_cases e : i = k
      · subst e; exact L.above' h1 hIk
      · exact L.trans (hI i (by omega)) h1 (L.gl _ _ h1 hIk) (h2 i (by omega) hbi) (L.above h1 hIk)
    · rename_i hb
      refine ⟨h1, fun i hi hbi => ?_⟩
      by_cases e : i = k
      · subst e; exact absurd hbi hb
      · exact h2 i (by omega) hbi
theorem bJ_prime {I : List Nat} {D lo p : Nat} (hI : ∀ i, i < I.length → I.getD i 0 < n) (hlo : lo < n) (hl : ∀ y, y < n → f lo y = lo) (hd : ∀ x y z, x < n → y < n → z < n → f x (g y z) = g (f x y) (f x z)) (hp : p < n) (hi : Irr n f p) :
    ∀ k, k ≤ I.length → f p (bJ g lo I D k) = p → ∃ i, i < k ∧ D.testBit i = true ∧ f p (I.getD i 0) = p
  | 0, _, h => (irr_low L hp hlo hi h hl).elim
  | k + 1, hk, h => by
    have h1 := (bJ_ok L (D := D) hI hlo k (by omega)).1
    have hIk := hI k (by omega)
    rw [bJ] at h
    split at h
    · rename_i hb
      rw [hd p _ _ hp h1 hIk] at h
      rcases irr_join L hp (L.fl _ _ hp h1) (L.fl _ _ hp hIk) hi h with h2 | h2
      · obtain ⟨i, a, b, c⟩ := bJ_prime hI hlo hl hd hp hi k (by omega) h2
        exact ⟨i, by omega, b, c⟩
      · exact ⟨k, by omega, hb, h2⟩
    · obtain ⟨i, a, b, c⟩ := bJ_prime hI hlo hl hd hp hi k (by omega) h
      exact ⟨i, by omega, b, c⟩
end
theorem bsT_bsQ (p : Nat → Bool) : ∀ k, bsT p k = bs p k
  | 0 => rfl
  | k + 1 => by rw [bsT, bs, bsT_bsQ p k]
theorem orT_ofnQ (n : Nat) (p : Nat → Nat → Bool) : orT n p n = ofn n p := by
  unfold orT ofn
  exact List.map_congr_left fun b _ => bsT_bsQ _ n
theorem psT_bit {n : Nat} {M : List (List Nat)} {x i : Nat} : ∀ {k : Nat}, (psT n M x k).testBit i = true ↔ i < k ∧ ta M ((irT n M n).getD i 0) x = (irT n M n).getD i 0
  | 0 => by
    rw [psT, Nat.zero_testBit]
    exact ⟨fun h => Bool.noConfusion h, fun h => absurd h.1 (Nat.not_lt_zero i)⟩
  | k + 1 => by
    have ih := psT_bit (n := n) (M := M) (x := x) (i := i) (k := k)
    rw [psT]
    split
    · rename_i h
      rw [← orJ (psT_lt n M x k), Nat.testBit_or, Bool.or_eq_true, ih, Nat.testBit_two_pow, decide_eq_true_eq]
      constructor
      · rintro (⟨h1, h2⟩ | rfl)
        · exact ⟨by omega, h2⟩
        · exact ⟨by omega, h⟩
      · rintro ⟨h1, h2⟩
        by_cases e : k = i
        · exact .inr e
        · exact .inl ⟨by omega, h2⟩
    · rename_i h
      rw [ih]
      constructor
      · rintro ⟨h1, h2⟩; exact ⟨by omega, h2⟩
      · rintro ⟨h1, h2⟩
        by_cases e : i = k
        · subst e; exact absurd h2 h
        · exact ⟨by omega, h2⟩
theorem irT_get {n : Nat} {M : List (List Nat)} {i : Nat} (hi : i < (irT n M n).length) : (irT n M n).getD i 0 < n ∧ Irr n (ta M) ((irT n M n).getD i 0) := by
  have := rng_get (fun x => decide (nc (fun y => decide (CovP n (ta M) x y)) n = 1)) n hi
  exact ⟨this.1, of_decide_eq_true this.2⟩
theorem irT_at {n : Nat} {M : List (List Nat)} {p : Nat} (hp : p < n) (h : Irr n (ta M) p) : ∃ i, i < (irT n M n).length ∧ (irT n M n).getD i 0 = p := rng_at (p := fun x => decide (nc (fun y => decide (CovP n (ta M) x y)) n = 1)) hp (decide_eq_true h)
/-- The order of the irreducible ones. -/
def ioN (n : Nat) (M : List (List Nat)) : List Nat := ofn (irT n M n).length (blT M (irT n M n))
/-- The set of an element. -/
def ipS (n : Nat) (M : List (List Nat)) (x : Nat) : Nat := psT n M x (irT n M n).length
section
variable {n : Nat} {M J : List (List Nat)} (hL : La n M J)
include hL
theorem ip_sub {x y : Nat} (hx : x < n) (hy : y < n) : ta M x y = x ↔ sub (ipS n M x) (ipS n M y) = true := by
  have A := hL.A
  constructor
  · intro h
    refine sub_iff.2 fun i hi => ?_
    obtain ⟨h1, h2⟩ := psT_bit.1 hi
    exact psT_bit.2 ⟨h1, A.trans (irT_get h1).1 hx hy h2 h⟩
  · intro h
    refine irr_all A (by have := hL.n1; omega) _ x y hx hy (Nat.le_refl _) fun p hp hpi hpx => ?_
    obtain ⟨i, hi, rfl⟩ := irT_at hp hpi
    exact (psT_bit.1 (sub_iff.1 h i (psT_bit.2 ⟨hi, hpx⟩))).2
theorem ip_inj {x y : Nat} (hx : x < n) (hy : y < n) (h : ipS n M x = ipS n M y) : x = y :=
  hL.A.anti hx hy ((ip_sub hL hx hy).2 (by rw [h]; exact sub_rfl _)) ((ip_sub hL hy hx).2 (by rw [h]; exact sub_rfl _))
theorem io_lt {a b : Nat} (ha : a < (irT n M n).length) (hb : b < (irT n M n).length) : lt (ioN n M) a b = true ↔ (irT n M n).getD a 0 ≠ (irT n M n).getD b 0 ∧ ta M ((irT n M n).getD a 0) ((irT n M n).getD b 0) = (irT n M n).getD a 0 := by
  unfold ioN
  rw [ofn_lt _ ha hb]
  unfold blT
  rw [Bool.and_eq_true, decide_eq_true_eq, decide_eq_true_eq]
theorem io_ok : okB (irT n M n).length (ioN n M) = true := by
  have A := hL.A
  refine okB_all (ofn_vld _ _).2 fun i hi => ⟨fun j hj k hk => ?_, ?_⟩
  · cases ht : trip (ioN n M) i j k
    · rfl
    · exfalso
      unfold trip at ht
      rw [Bool.and_eq_true, Bool.and_eq_true, Bool.not_eq_true', io_lt hL hj hk, io_lt hL hk hi] at ht
      obtain ⟨h1, h2, h3⟩ := ht
      have e := A.trans (irT_get hj).1 (irT_get hk).1 (irT_get hi).1 h1.2 h2.2
      have : lt (ioN n M) j i = true := (io_lt hL hj hi).2 ⟨fun e2 => ?_, e⟩
      · rw [this] at h3; cases h3
      · refine h1.1 (A.anti (irT_get hj).1 (irT_get hk).1 h1.2 ?_)
        rw [e2]; exact h2.2
  · cases hq : lt (ioN n M) i i
    · rfl
    · exact absurd rfl ((io_lt hL hi hi).1 hq).1
theorem ip_idl {x : Nat} (hx : x < n) : idl (irT n M n).length (ioN n M) (ipS n M x) = true := idl_iff.2 fun b hb hbx => by
  refine sub_iff.2 fun i hi => ?_
  have hil : i < (irT n M n).length := by
    have h2 : (ioN n M).getD b 0 < 2 ^ (irT n M n).length := (ofn_vld _ _).get b
    rcases Nat.lt_or_ge i (irT n M n).length with h1 | h1
    · exact h1
    · rw [Nat.testBit_lt_two_pow (Nat.lt_of_lt_of_le h2 (Nat.pow_le_pow_right (n := 2) (by decide) h1))] at hi; cases hi
  exact psT_bit.2 ⟨hil, hL.A.trans (irT_get hil).1 (irT_get hb).1 hx ((io_lt hL hil hb).1 hi).2 (psT_bit.1 hbx).2⟩
theorem ip_meet {x y : Nat} (hx : x < n) (hy : y < n) (i : Nat) : (ipS n M (ta M x y)).testBit i = true ↔ (ipS n M x).testBit i = true ∧ (ipS n M y).testBit i = true := by
  have A := hL.A
  unfold ipS
  rw [psT_bit, psT_bit, psT_bit]
  constructor
  · rintro ⟨h1, h2⟩
    have hi := (irT_get h1).1
    exact ⟨⟨h1, A.trans hi (A.fl _ _ hx hy) hx h2 (A.below hx hy)⟩, ⟨h1, A.trans hi (A.fl _ _ hx hy) hy h2 (A.below' hx hy)⟩⟩
  · rintro ⟨⟨h1, h2⟩, ⟨_, h3⟩⟩
    exact ⟨h1, A.greatest hx hy (irT_get h1).1 h2 h3⟩
/-- Distributive: each set that is closed below is some element's. -/
theorem ip_onto (hd : ∀ x y z, x < n → y < n → z < n → ta M x (ta J y z) = ta J (ta M x y) (ta M x z)) {D : Nat} (hD : D < 2 ^ (irT n M n).length) (hi : idl (irT n M n).length (ioN n M) D = true) : ∃ x, x < n ∧ ipS n M x = D := by
  have A := hL.A
  have h0 : 0 < n := by have := hL.n1; omega
  have hI : ∀ i, i < (irT n M n).length → (irT n M n).getD i 0 < n := fun i hi => (irT_get hi).1
  have hlo := endE_lt A.fl n (Nat.le_refl _) h0
  have hl := endE_least A h0 n (Nat.le_refl _)
  obtain ⟨b1, b2⟩ := bJ_ok A (D := D) hI hlo (irT n M n).length (Nat.le_refl _)
  refine ⟨_, b1, sub_eq (sub_iff.2 fun i hi2 => ?_) (sub_iff.2 fun i hi2 => ?_)⟩
  · obtain ⟨h1, h2⟩ := psT_bit.1 hi2
    obtain ⟨j, j1, j2, j3⟩ := bJ_prime A (D := D) hI hlo hl hd (hI i h1) (irT_get h1).2 _ (Nat.le_refl _) h2
    by_cases e : (irT n M n).getD i 0 = (irT n M n).getD j 0
    · have := rng_one (fun x => decide (nc (fun y => decide (CovP n (ta M) x y)) n = 1)) n h1 j1 e
      rw [this]; exact j2
    · have := idl_iff.1 hi j j1 j2
      exact sub_iff.1 this i ((io_lt hL h1 j1).2 ⟨e, j3⟩)
  · have hil : i < (irT n M n).length := by
      rcases Nat.lt_or_ge i (irT n M n).length with h1 | h1
      · exact h1
      · rw [Nat.testBit_lt_two_pow (Nat.lt_of_lt_of_le hD (Nat.pow_le_pow_right (n := 2) (by decide) h1))] at hi2; cases hi2
    exact psT_bit.2 ⟨hil, b2 i hil hi2⟩
theorem ip_dist (ho : ∀ D, D < 2 ^ (irT n M n).length → idl (irT n M n).length (ioN n M) D = true → ∃ x, x < n ∧ ipS n M x = D) {x y z : Nat} (hx : x < n) (hy : y < n) (hz : z < n) : ta M x (ta J y z) = ta J (ta M x y) (ta M x z) := by
  have A := hL.A
  have hjn : ∀ a b, a < n → b < n → ∀ i, (ipS n M (ta J a b)).testBit i = true ↔ (ipS n M a).testBit i = true ∨ (ipS n M b).testBit i = true := fun a b ha hb i => by
    have hab := A.gl _ _ ha hb
    constructor
    · intro h
      obtain ⟨c, hc, he⟩ := ho (ipS n M a ||| ipS n M b) (Nat.or_lt_two_pow (psT_lt _ _ _ _) (psT_lt _ _ _ _)) (idl_or (ip_idl hL ha) (ip_idl hL hb))
      have h1 : ta M a c = a := (ip_sub hL ha hc).2 (by rw [he]; exact (sub_lor.1 (sub_rfl _)).1)
      have h2 : ta M b c = b := (ip_sub hL hb hc).2 (by rw [he]; exact (sub_lor.1 (sub_rfl _)).2)
      have h3 := sub_iff.1 ((ip_sub hL hab hc).1 (A.least ha hb hc h1 h2)) i h
      rw [he, Nat.testBit_or, Bool.or_eq_true] at h3
      exact h3
    · rintro (h | h)
      · exact sub_iff.1 ((ip_sub hL ha hab).1 (A.above ha hb)) i h
      · exact sub_iff.1 ((ip_sub hL hb hab).1 (A.above' ha hb)) i h
  have hxy := A.fl _ _ hx hy
  have hxz := A.fl _ _ hx hz
  refine ip_inj hL (A.fl _ _ hx (A.gl _ _ hy hz)) (A.gl _ _ hxy hxz) (Nat.eq_of_testBit_eq fun i => ?_)
  rw [Bool.eq_iff_iff, ip_meet hL hx (A.gl _ _ hy hz), hjn y z hy hz, hjn _ _ hxy hxz, ip_meet hL hx hy, ip_meet hL hx hz]
  exact and_or_left
/-- As many elements as such sets: just if distributive. -/
theorem ip_count : (∀ x y z, x < n → y < n → z < n → ta M x (ta J y z) = ta J (ta M x y) (ta M x z)) ↔ n = (idTo (irT n M n).length (ioN n M) (2 ^ (irT n M n).length)).length := by
  have hpl : ∀ x, x < n → ∃ j, j < (idTo (irT n M n).length (ioN n M) (2 ^ (irT n M n).length)).length ∧ (idTo (irT n M n).length (ioN n M) (2 ^ (irT n M n).length)).getD j 0 = ipS n M x := fun x hx => id_at (psT_lt _ _ _ _) (ip_idl hL hx)
  have hone := fun i j => @rng_one (idl (irT n M n).length (ioN n M)) (2 ^ (irT n M n).length) i j
  have hle : n ≤ (idTo (irT n M n).length (ioN n M) (2 ^ (irT n M n).length)).length := countT_le (P := fun x j => (idTo (irT n M n).length (ioN n M) (2 ^ (irT n M n).length)).getD j 0 = ipS n M x) hpl fun x x' j hxx hx' h1 h2 => by
    have := ip_inj hL (by omega) hx' (h1.symm.trans h2)
    omega
  constructor
  · intro hd
    refine Nat.le_antisymm hle (countT_le (P := fun j x => (idTo (irT n M n).length (ioN n M) (2 ^ (irT n M n).length)).getD j 0 = ipS n M x) (fun j hj => ?_) fun j j' x hjj hj' h1 h2 => ?_)
    · obtain ⟨x, hx, he⟩ := ip_onto hL hd (id_get hj).1 (id_get hj).2
      exact ⟨x, hx, he.symm⟩
    · have := hone j j' (Nat.lt_trans hjj hj') hj' (h1.trans h2.symm)
      omega
  · intro he x y z hx hy hz
    refine ip_dist hL (fun D hD hi => ?_) hx hy hz
    obtain ⟨j0, h1, h2⟩ := id_at (n := (irT n M n).length) (ns := ioN n M) hD hi
    refine Classical.byContradiction fun hn => ?_
    have hne : ∀ x, x < n → ipS n M x ≠ D := fun x hx e => hn ⟨x, hx, e⟩
    have hlt := countT_le (T := n) (L := n - 1) (P := fun x j => ∃ j1, j1 < (idTo (irT n M n).length (ioN n M) (2 ^ (irT n M n).length)).length ∧ (idTo (irT n M n).length (ioN n M) (2 ^ (irT n M n).length)).getD j1 0 = ipS n M x ∧ j = if j1 < j0 then j1 else j1 - 1) (fun x hx => by
      obtain ⟨j1, q1, q2⟩ := hpl x hx
      have hj : j1 ≠ j0 := fun e => hne x hx (by rw [← q2, e, h2])
      refine ⟨_, ?_, j1, q1, q2, rfl⟩
      split <;> omega) fun x x' j hxx hx' ⟨j1, q1, q2, q3⟩ ⟨j2, r1, r2, r3⟩ => by
        have hj1 : j1 ≠ j0 := fun e => hne x (by omega) (by rw [← q2, e, h2])
        have hj2 : j2 ≠ j0 := fun e => hne x' hx' (by rw [← r2, e, h2])
        have : j1 = j2 := by
          subst q3
          split at r3 <;> split at r3 <;> omega
        subst this
        have := ip_inj hL (by omega) hx' (q2.symm.trans r2)
        omega
    omega
end
end Go.Proofs.Ytjepdcfiogjmgaa
