import Derived.Test.YtlihpalpkdgclaaDoorTl
import Derived.Test.YtlihpalpkdgclaaDoorTi
import Derived.Test.YtlihpalpkdgclaaDoorTg
set_option linter.unusedSimpArgs false
set_option linter.unusedVariables false
set_option linter.unusedSectionVars false
set_option maxRecDepth 20000
namespace Go.Proofs.YtlihpalpkdgclaaDoor
attribute [local irreducible] QOp aL aC qL
/-- Each monotone map of these points leaves one where it is. -/
def Fpp (R : Nat → Nat → Bool) (S : Nat → Bool) : Prop := ∀ g : Nat → Nat, (∀ x, S x = true → S (g x) = true) → (∀ x y, S x = true → S y = true → R x y = true → g x = g y ∨ R (g x) (g y) = true) → ∃ x, S x = true ∧ g x = x
structure StR (n : Nat) (R : Nat → Nat → Bool) (S : Nat → Bool) : Prop where
  sl : ∀ x, S x = true → x < n
  ir : ∀ x, S x = true → R x x = false
  tr : ∀ x y z, S x = true → S y = true → S z = true → R x y = true → R y z = true → R x z = true
theorem StR.flip {n : Nat} {R : Nat → Nat → Bool} {S : Nat → Bool} (h : StR n R S) : StR n (fun x y => R y x) S :=
  ⟨h.sl, h.ir, fun x y z hx hy hz h1 h2 => h.tr z y x hz hy hx h2 h1⟩
theorem Fpp.flip {R : Nat → Nat → Bool} {S : Nat → Bool} (h : Fpp R S) : Fpp (fun x y => R y x) S := fun g h1 h2 =>
  h g h1 fun x y hx hy hr => (h2 y x hy hx hr).imp Eq.symm id
theorem desc {n : Nat} {R : Nat → Nat → Bool} {S : Nat → Bool} (hS : StR n R S) {g : Nat → Nat} (h1 : ∀ x, S x = true → S (g x) = true) (h2 : ∀ x y, S x = true → S y = true → R x y = true → g x = g y ∨ R (g x) (g y) = true) :
    ∀ k x, S x = true → cqN (fun i => S i && R i x) n ≤ k → (g x = x ∨ R (g x) x = true) → ∃ y, S y = true ∧ g y = y
  | k, x, hx, hk, .inl h => ⟨x, hx, h⟩
  | 0, x, hx, hk, .inr h => by
    have hz : cqN (fun i => S i && R i x) n = 0 := by omega
    have := cqN_zero.1 hz (g x) (hS.sl _ (h1 x hx))
    rw [h1 x hx, h] at this
    cases this
  | k + 1, x, hx, hk, .inr h => by
    have hgx := h1 x hx
    have hlt : cqN (fun i => S i && R i (g x)) n < cqN (fun i => S i && R i x) n := by
      refine cqN_lt (x := g x) (fun i _ hi => ?_) (hS.sl _ hgx) ?_ ?_
      · simp only [Bool.and_eq_true] at hi ⊢
        exact ⟨hi.1, hS.tr _ _ _ hi.1 hgx hx hi.2 h⟩
      · simp only [hS.ir _ hgx, Bool.and_false]
      · simp only [hgx, h, Bool.and_self]
    exact desc hS h1 h2 k (g x) hgx (by omega) (h2 _ _ hgx hx h)
theorem retr {n : Nat} {R : Nat → Nat → Bool} {S : Nat → Bool} (hS : StR n R S) {p q : Nat} (hp : S p = true) (hq : S q = true) (hpq : R p q = true) (ho : ∀ x, S x = true → R p x = true → x = q ∨ R q x = true)
    (hf : Fpp R fun x => S x && !decide (x = p)) : Fpp R S := by
  intro g h1 h2
  have hne : q ≠ p := fun e => by rw [e, hS.ir p hp] at hpq; cases hpq
  obtain ⟨x, hx, hgx⟩ := hf (fun x => if g x = p then q else g x) (fun x hx => by
    simp only [Bool.and_eq_true, Bool.not_eq_true', decide_eq_false_iff_not] at hx ⊢
    split
    · exact ⟨hq, hne⟩
    · exact ⟨h1 x hx.1, by assumption⟩) (fun x y hx hy hr => by
    simp only [Bool.and_eq_true, Bool.not_eq_true', decide_eq_false_iff_not] at hx hy
    have a1 := h1 x hx.1
    have a2 := h1 y hy.1
    rcases h2 x y hx.1 hy.1 hr with e | e
    · left; rw [e]
    · by_cases e1 : g x = p
      · by_cases e2 : g y = p
        · left; rw [if_pos e1, if_pos e2]
        · rw [if_pos e1, if_neg e2]
          rw [e1] at e
          exact (ho _ a2 e).imp Eq.symm id
      · by_cases e2 : g y = p
        · rw [if_neg e1, if_pos e2]
          rw [e2] at e
          exact .inr (hS.tr _ _ _ a1 hp hq e hpq)
        · rw [if_neg e1, if_neg e2]; exact .inr e)
  simp only [Bool.and_eq_true, Bool.not_eq_true', decide_eq_false_iff_not] at hx
  by_cases e : g x = p
  · rw [if_pos e] at hgx
    subst hgx
    have := h2 p q hp hq hpq
    rw [e] at this
    exact desc hS h1 h2 _ p hp (Nat.le_refl _) this
  · rw [if_neg e] at hgx
    exact ⟨x, hx.1, hgx⟩
theorem cqN_one {p : Nat → Bool} : ∀ {k a b : Nat}, cqN p k = 1 → a < k → b < k → p a = true → p b = true → a = b
  | 0, a, b, h, _, _, _, _ => by cases h
  | k + 1, a, b, h, ha, hb, h1, h2 => by
    rw [cqN] at h
    by_cases hk : p k = true
    · rw [if_pos hk] at h
      have hz := cqN_zero.1 (show cqN p k = 0 by omega)
      have e1 : a = k := by
        rcases Nat.lt_or_ge a k with h3 | h3
        · rw [hz a h3] at h1; cases h1
        · omega
      have e2 : b = k := by
        rcases Nat.lt_or_ge b k with h3 | h3
        · rw [hz b h3] at h2; cases h2
        · omega
      omega
    · rw [if_neg hk] at h
      have e1 : a ≠ k := fun e => hk (e ▸ h1)
      have e2 : b ≠ k := fun e => hk (e ▸ h2)
      exact cqN_one h (by omega) (by omega) h1 h2
theorem cqN_ex {p : Nat → Bool} {k : Nat} (h : cqN p k = 1) : ∃ a, a < k ∧ p a = true := by
  refine Classical.byContradiction fun hn => ?_
  have : cqN p k = 0 := cqN_zero.2 fun i hi => by
    cases hp : p i
    · rfl
    · exact absurd ⟨i, hi, hp⟩ hn
  omega
/-- b is next above a, of the first m. -/
def cvR (R : Nat → Nat → Bool) (m a b : Nat) : Bool := R a b && !(List.range m).any fun c => R a c && R c b
theorem cvR_flip (R : Nat → Nat → Bool) (m a b : Nat) : cvR (fun x y => R y x) m a b = cvR R m b a := by
  unfold cvR
  have : (fun c => R c a && R b c) = fun c => R b c && R c a := funext fun c => Bool.and_comm _ _
  rw [this]
theorem cv_ex {m : Nat} {R : Nat → Nat → Bool} (ir : ∀ x, x < m → R x x = false) (tr : ∀ x y z, x < m → y < m → z < m → R x y = true → R y z = true → R x z = true) {a : Nat} (ha : a < m) :
    ∀ k x, x < m → R a x = true → cqN (fun c => R a c && R c x) m ≤ k → ∃ c, c < m ∧ cvR R m a c = true ∧ (c = x ∨ R c x = true) := by
  intro k
  induction k with
  | zero =>
    intro x hx hax hk
    have hz := cqN_zero.1 (show cqN (fun c => R a c && R c x) m = 0 by omega)
    refine ⟨x, hx, ?_, .inl rfl⟩
    unfold cvR
    rw [hax, Bool.true_and, Bool.not_eq_true', List.any_eq_false]
    intro c hc
    rw [hz c (List.mem_range.1 hc)]; decide
  | succ k ih =>
    intro x hx hax hk
    by_cases hex : ∃ c, c < m ∧ R a c = true ∧ R c x = true
    · obtain ⟨c, hc, h1, h2⟩ := hex
      have hlt : cqN (fun i => R a i && R i c) m < cqN (fun i => R a i && R i x) m := by
        refine cqN_lt (x := c) (fun i hi h => ?_) hc ?_ ?_
        · simp only [Bool.and_eq_true] at h ⊢
          exact ⟨h.1, tr _ _ _ hi hc hx h.2 h2⟩
        · simp only [ir c hc, Bool.and_false]
        · simp only [h1, h2, Bool.and_self]
      obtain ⟨d, hd, h3, h4⟩ := ih c hc h1 (by omega)
      refine ⟨d, hd, h3, .inr ?_⟩
      rcases h4 with rfl | h4
      · exact h2
      · exact tr _ _ _ hd hc hx h4 h2
    · refine ⟨x, hx, ?_, .inl rfl⟩
      unfold cvR
      rw [hax, Bool.true_and, Bool.not_eq_true', List.any_eq_false]
      intro c hc hcc
      rw [Bool.and_eq_true] at hcc
      exact hex ⟨c, List.mem_range.1 hc, hcc.1, hcc.2⟩
theorem cv_one {m : Nat} {R : Nat → Nat → Bool} (ir : ∀ x, x < m → R x x = false) (tr : ∀ x y z, x < m → y < m → z < m → R x y = true → R y z = true → R x z = true) {a : Nat} (ha : a < m) (h : cqN (cvR R m a) m = 1) :
    ∃ q, q < m ∧ R a q = true ∧ ∀ x, x < m → R a x = true → x = q ∨ R q x = true := by
  obtain ⟨q, hq, h1⟩ := cqN_ex h
  have h1' := h1
  unfold cvR at h1'
  rw [Bool.and_eq_true] at h1'
  refine ⟨q, hq, h1'.1, fun x hx hax => ?_⟩
  obtain ⟨c, hc, h2, h3⟩ := cv_ex ir tr ha _ x hx hax (Nat.le_refl _)
  obtain rfl := cqN_one h hq hc h1 h2
  exact h3.imp Eq.symm id
theorem cvQ_R {ns : List Nat} {s a b : Nat} (ha : a < (mbs s).length) (hb : b < (mbs s).length) : cvQ ns s a b = cvR (plP ns (mbs s)) (mbs s).length a b := by
  unfold cvQ pf cvR btw
  rw [ofn_lt _ ha hb]
  have : ((List.range (mbs s).length).any fun c => lt (ofn (mbs s).length (plP ns (mbs s))) a c && lt (ofn (mbs s).length (plP ns (mbs s))) c b) = (List.range (mbs s).length).any fun c => plP ns (mbs s) a c && plP ns (mbs s) c b := by
    rw [Bool.eq_iff_iff, List.any_eq_true, List.any_eq_true]
    constructor
    · rintro ⟨c, hc, h⟩
      have := List.mem_range.1 hc
      exact ⟨c, hc, by rwa [ofn_lt _ ha this, ofn_lt _ this hb] at h⟩
    · rintro ⟨c, hc, h⟩
      have := List.mem_range.1 hc
      exact ⟨c, hc, by rwa [ofn_lt _ ha this, ofn_lt _ this hb]⟩
  rw [this]; rfl
theorem nd_tb (s p x : Nat) : (ndiff s (2 ^ p)).testBit x = (s.testBit x && !decide (x = p)) := by
  rw [ndS_bit, Nat.testBit_two_pow]
  congr 2
  exact decide_eq_decide.2 eq_comm
/-- Whoever may go: without him each map leaves one where it is just if so with him. -/
theorem loose_fpp {n : Nat} {ns : List Nat} {s i : Nat} (hok : okB n ns = true) (hn : n ≤ 10) (hs : s < 2 ^ n) (hi : i < (mbs s).length) (h : lsQ ns s i = true) (hf : Fpp (lt ns) (ndiff s (2 ^ (mbs s).getD i 0)).testBit) : Fpp (lt ns) s.testBit := by
  have hs2 : s < 1024 := Nat.lt_of_lt_of_le hs (p2_10 hn)
  have hsl : ∀ x, s.testBit x = true → x < n := fun x hx => by
    rcases Nat.lt_or_ge x n with h1 | h1
    · exact h1
    · rw [Nat.testBit_lt_two_pow (Nat.lt_of_lt_of_le hs (Nat.pow_le_pow_right (n := 2) (by decide) h1))] at hx; cases hx
  have hS : StR n (lt ns) s.testBit := ⟨hsl, fun x hx => okB_irr hok (hsl x hx), fun x y z hx hy hz h1 h2 => okB_tr hok (hsl z hz) (hsl y hy) h2 h1⟩
  have hm : ∀ j, j < (mbs s).length → s.testBit ((mbs s).getD j 0) = true := fun j hj => (mbs_get hj).2
  have ir : ∀ x, x < (mbs s).length → plP ns (mbs s) x x = false := fun x hx => hS.ir _ (hm x hx)
  have tr : ∀ x y z, x < (mbs s).length → y < (mbs s).length → z < (mbs s).length → plP ns (mbs s) x y = true → plP ns (mbs s) y z = true → plP ns (mbs s) x z = true := fun x y z hx hy hz h1 h2 => hS.tr _ _ _ (hm x hx) (hm y hy) (hm z hz) h1 h2
  have hf' : Fpp (lt ns) fun x => s.testBit x && !decide (x = (mbs s).getD i 0) := by
    have e : (fun x => s.testBit x && !decide (x = (mbs s).getD i 0)) = (ndiff s (2 ^ (mbs s).getD i 0)).testBit := funext fun x => (nd_tb s _ x).symm
    rw [e]; exact hf
  rw [lsQ_eq hi, Bool.or_eq_true, decide_eq_true_eq, decide_eq_true_eq] at h
  rcases h with h | h
  · have e : cqN (fun k => cvQ ns s k i) (mbs s).length = cqN (cvR (fun x y => plP ns (mbs s) y x) (mbs s).length i) (mbs s).length := cqN_ext fun k hk => by rw [cvR_flip, cvQ_R hk hi]
    rw [e] at h
    obtain ⟨q, hq, h1, h2⟩ := cv_one (R := fun x y => plP ns (mbs s) y x) ir (fun x y z hx hy hz h1 h2 => tr z y x hz hy hx h2 h1) hi h
    refine (retr (q := (mbs s).getD q 0) hS.flip (hm i hi) (hm q hq) h1 (fun x hx hr => ?_) hf'.flip).flip
    obtain ⟨j, hj, rfl⟩ := mbs_pos hs2 hx
    rcases h2 j hj hr with rfl | h3
    · exact .inl rfl
    · exact .inr h3
  · have e : cqN (cvQ ns s i) (mbs s).length = cqN (cvR (plP ns (mbs s)) (mbs s).length i) (mbs s).length := cqN_ext fun k hk => cvQ_R hi hk
    rw [e] at h
    obtain ⟨q, hq, h1, h2⟩ := cv_one (R := plP ns (mbs s)) ir tr hi h
    refine retr (q := (mbs s).getD q 0) hS (hm i hi) (hm q hq) h1 (fun x hx hr => ?_) hf'
    obtain ⟨j, hj, rfl⟩ := mbs_pos hs2 hx
    rcases h2 j hj hr with rfl | h3
    · exact .inl rfl
    · exact .inr h3
theorem nd_lt2 {s p n : Nat} (h : s < 2 ^ n) : ndiff s (2 ^ p) < 2 ^ n := by
  refine Nat.lt_pow_two_of_testBit _ fun x hx => ?_
  rw [nd_tb, Nat.testBit_lt_two_pow (Nat.lt_of_lt_of_le h (Nat.pow_le_pow_right (n := 2) (by decide) hx)), Bool.false_and]
theorem core_fpp {n : Nat} {ns : List Nat} (hok : okB n ns = true) (hn : n ≤ 10) : ∀ f s, s < 2 ^ n → Fpp (lt ns) (coF ns f s).testBit → Fpp (lt ns) s.testBit
  | 0, _, _, h => h
  | f + 1, s, hs, h => by
    rw [coF] at h
    cases hq : (List.range (mbs s).length).find? (lsQ ns s) with
    | none => rw [hq] at h; exact h
    | some i =>
      rw [hq] at h
      have h1 := List.find?_some hq
      have h2 := List.mem_range.1 (List.mem_of_find?_eq_some hq)
      exact loose_fpp hok hn hs h2 h1 (core_fpp hok hn f _ (nd_lt2 hs) h)
theorem one_fpp {R : Nat → Nat → Bool} {S : Nat → Bool} {x : Nat} (h : ∀ y, S y = true ↔ y = x) : Fpp R S := fun g h1 _ => ⟨x, (h x).2 rfl, (h _).1 (h1 x ((h x).2 rfl))⟩
end Go.Proofs.YtlihpalpkdgclaaDoor
