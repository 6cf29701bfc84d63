import Derived.Test.YtgojkabjgagjcaaGp
set_option linter.unusedSimpArgs false
set_option linter.unusedVariables false
set_option linter.unusedSectionVars false
set_option maxRecDepth 20000
namespace Go.Proofs.Ytgojkabjgagjcaa
attribute [local irreducible] QOp aL aC qL
/-- Of so many, how many are such. -/
def cn (p : Nat → Bool) : Nat → Nat
  | 0 => 0
  | k + 1 => cn p k + if p k = true then 1 else 0
theorem cn_s (p : Nat → Bool) (k : Nat) : cn p (k + 1) = cn p k + if p k = true then 1 else 0 := rfl
theorem cn_congr {p q : Nat → Bool} : ∀ n, (∀ i, i < n → p i = q i) → cn p n = cn q n
  | 0, _ => rfl
  | n + 1, h => by rw [cn_s, cn_s, cn_congr n fun i hi => h i (by omega), h n (by omega)]
theorem cn_erase {q : Nat → Bool} {y : Nat} (hy : q y = true) : ∀ m, y < m → cn q m = cn (fun x => q x && !decide (x = y)) m + 1
  | 0, h => absurd h (Nat.not_lt_zero _)
  | m + 1, h => by
    rw [cn_s, cn_s]
    by_cases e : m = y
    · subst e
      rw [cn_congr (p := fun x => q x && !decide (x = m)) (q := q) m (fun i hi => by simp [show i ≠ m by omega])]
      simp [hy]
    · rw [cn_erase hy m (by omega)]
      simp [e]; omega
theorem cn_inj {p : Nat → Bool} {m : Nat} {f : Nat → Nat} : ∀ (n : Nat) (q : Nat → Bool), (∀ i, i < n → p i = true → f i < m ∧ q (f i) = true) → (∀ i j, i < n → j < n → p i = true → p j = true → f i = f j → i = j) → cn p n ≤ cn q m
  | 0, _, _, _ => Nat.zero_le _
  | n + 1, q, h1, h2 => by
    rw [cn_s]
    cases hp : p n
    · simpa using cn_inj n q (fun i hi => h1 i (by omega)) (fun i j hi hj => h2 i j (by omega) (by omega))
    · obtain ⟨a1, a2⟩ := h1 n (by omega) hp
      rw [cn_erase a2 m a1, if_pos rfl]
      refine Nat.succ_le_succ (cn_inj n _ (fun i hi hpi => ?_) (fun i j hi hj => h2 i j (by omega) (by omega)))
      obtain ⟨b1, b2⟩ := h1 i (by omega) hpi
      refine ⟨b1, ?_⟩
      have : f i ≠ f n := fun e => by have := h2 i n (by omega) (by omega) hpi hp e; omega
      simp [b2, this]
theorem cn_split (p q : Nat → Bool) : ∀ n, cn p n = cn (fun i => p i && q i) n + cn (fun i => p i && !q i) n
  | 0 => rfl
  | n + 1 => by
    rw [cn_s, cn_s, cn_s, cn_split p q n]
    cases p n <;> cases q n <;> simp <;> omega
theorem cn_not (p : Nat → Bool) : ∀ n, cn p n + cn (fun i => !p i) n = n
  | 0 => rfl
  | n + 1 => by
    have := cn_not p n
    rw [cn_s, cn_s]
    cases p n <;> simp <;> omega
theorem cn_mono {p q : Nat → Bool} (n : Nat) (h : ∀ i, i < n → p i = true → q i = true) : cn p n ≤ cn q n :=
  cn_inj (f := id) n q (fun i hi hp => ⟨hi, h i hi hp⟩) (fun _ _ _ _ _ _ e => e)
theorem pc_cn (x : Nat) : ∀ n, pcTo x n = cn (fun i => x.testBit i) n
  | 0 => rfl
  | n + 1 => by
    rw [cn_s, ← pc_cn x n]
    show pcTo x n + x / 2 ^ n % 2 = _
    have := Nat.mod_two_eq_zero_or_one (x / 2 ^ n)
    split
    · rename_i h
      rw [← bit_odd] at h
      omega
    · rename_i h
      rw [← bit_odd] at h
      omega
theorem gs {l : List Int} {i : Nat} (hi : i < l.length) (v : Int) (j : Nat) : (l.set i v).getD j 0 = if j = i then v else l.getD j 0 := by
  simp only [List.getD_eq_getElem?_getD]
  by_cases e : j = i
  · subst e
    rw [if_pos rfl, List.getElem?_set_self hi]; rfl
  · rw [if_neg e, List.getElem?_set_ne (Ne.symm e)]
/-- Where the one who looks for pairs stands: who has whom, on both sides, and who on the right was asked. -/
structure KS where
  w : List Int
  b : List Int
  m : Nat
def KS.put (s : KS) (a b : Nat) : KS := ⟨s.w.set a b, s.b.set b a, s.m⟩
def KS.ask (s : KS) (b : Nat) : KS := ⟨s.w, s.b, s.m ||| 2 ^ b⟩
/-- One of the left asks the last d of the right. -/
def kl (r : Nat) (to : List Nat) (g : Nat → KS → Bool × KS) (a : Nat) : Nat → KS → Bool × KS
  | 0, s => (false, s)
  | d + 1, s =>
    if (to.getD a 0).testBit (r - (d + 1)) = true ∧ s.m.testBit (r - (d + 1)) = false then
      if s.b.getD (r - (d + 1)) 0 < 0 then (true, (s.ask (r - (d + 1))).put a (r - (d + 1)))
      else if (g (s.b.getD (r - (d + 1)) 0).toNat (s.ask (r - (d + 1)))).1 = true then (true, (g (s.b.getD (r - (d + 1)) 0).toNat (s.ask (r - (d + 1)))).2.put a (r - (d + 1)))
      else kl r to g a d (g (s.b.getD (r - (d + 1)) 0).toNat (s.ask (r - (d + 1)))).2
    else kl r to g a d s
def kf (r : Nat) (to : List Nat) : Nat → Nat → KS → Bool × KS
  | 0, _, s => (false, s)
  | f + 1, a, s => kl r to (kf r to f) a r s
theorem kl_no {r : Nat} {to : List Nat} {g : Nat → KS → Bool × KS} {a b : Nat} {s : KS} (hb : b < r) (h : ¬ ((to.getD a 0).testBit b = true ∧ s.m.testBit b = false)) : kl r to g a (r - b) s = kl r to g a (r - (b + 1)) s := by
  obtain ⟨d, hd⟩ : ∃ d, r - b = d + 1 := ⟨r - b - 1, by omega⟩
  have e : r - (d + 1) = b := by omega
  rw [hd, show r - (b + 1) = d by omega, kl, e, if_neg h]
theorem kl_end {r : Nat} {to : List Nat} {g : Nat → KS → Bool × KS} {a b : Nat} {s : KS} (hb : b < r) (h : (to.getD a 0).testBit b = true ∧ s.m.testBit b = false) (h2 : s.b.getD b 0 < 0) : kl r to g a (r - b) s = (true, (s.ask b).put a b) := by
  obtain ⟨d, hd⟩ : ∃ d, r - b = d + 1 := ⟨r - b - 1, by omega⟩
  have e : r - (d + 1) = b := by omega
  rw [hd, kl, e, if_pos h, if_pos h2]
theorem kl_yes {r : Nat} {to : List Nat} {g : Nat → KS → Bool × KS} {a b : Nat} {s : KS} (hb : b < r) (h : (to.getD a 0).testBit b = true ∧ s.m.testBit b = false) (h2 : ¬ s.b.getD b 0 < 0) (h3 : (g (s.b.getD b 0).toNat (s.ask b)).1 = true) : kl r to g a (r - b) s = (true, (g (s.b.getD b 0).toNat (s.ask b)).2.put a b) := by
  obtain ⟨d, hd⟩ : ∃ d, r - b = d + 1 := ⟨r - b - 1, by omega⟩
  have e : r - (d + 1) = b := by omega
  rw [hd, kl, e, if_pos h, if_neg h2, if_pos h3]
theorem kl_on {r : Nat} {to : List Nat} {g : Nat → KS → Bool × KS} {a b : Nat} {s : KS} (hb : b < r) (h : (to.getD a 0).testBit b = true ∧ s.m.testBit b = false) (h2 : ¬ s.b.getD b 0 < 0) (h3 : (g (s.b.getD b 0).toNat (s.ask b)).1 = false) : kl r to g a (r - b) s = kl r to g a (r - (b + 1)) (g (s.b.getD b 0).toNat (s.ask b)).2 := by
  obtain ⟨d, hd⟩ : ∃ d, r - b = d + 1 := ⟨r - b - 1, by omega⟩
  have e : r - (d + 1) = b := by omega
  rw [hd, show r - (b + 1) = d by omega, kl, e, if_pos h, if_neg h2, if_neg (by rw [h3]; decide)]
theorem or_bit {m b : Nat} (h : m.testBit b = false) : m + 1 ≤ m ||| 2 ^ b := by
  have h1 : m ≤ m ||| 2 ^ b := Nat.left_le_or
  have h2 : m ≠ m ||| 2 ^ b := fun e => by
    have : (m ||| 2 ^ b).testBit b = true := by rw [Nat.testBit_or, Nat.testBit_two_pow]; simp
    rw [← e, h] at this; cases this
  omega
/-- What a step of the program needs. -/
structure KO (l r : Nat) (s : KS) : Prop where
  lw : s.w.length = l
  lb : s.b.length = r
  bl : ∀ y, y < r → s.b.getD y 0 < (l : Int)
  m : s.m < 2 ^ r
theorem KO.ask {l r b : Nat} {s : KS} (h : KO l r s) (hb : b < r) : KO l r (s.ask b) := ⟨h.lw, h.lb, h.bl, Nat.or_lt_two_pow h.m (Nat.pow_lt_pow_right (by decide) hb)⟩
theorem KO.put {l r a b : Nat} {s : KS} (h : KO l r s) (ha : a < l) (hb : b < r) : KO l r (s.put a b) := by
  refine ⟨by unfold KS.put; simp [h.lw], by unfold KS.put; simp [h.lb], fun y hy => ?_, h.m⟩
  show (s.b.set b (a : Int)).getD y 0 < _
  rw [gs (by rw [h.lb]; exact hb)]
  split
  · omega
  · exact h.bl y hy
theorem kl_ok {l r : Nat} {to : List Nat} {g : Nat → KS → Bool × KS} {a : Nat} (ha : a < l) (hg : ∀ c s, c < l → KO l r s → KO l r (g c s).2 ∧ s.m ≤ (g c s).2.m) : ∀ d, d ≤ r → ∀ s, KO l r s → KO l r (kl r to g a d s).2 ∧ s.m ≤ (kl r to g a d s).2.m
  | 0, _, s, h => ⟨h, Nat.le_refl _⟩
  | d + 1, hd, s, h => by
    have e : r - (r - (d + 1)) = d + 1 := by omega
    have e2 : r - (r - (d + 1) + 1) = d := by omega
    have hb : r - (d + 1) < r := by omega
    generalize r - (d + 1) = b at *
    rw [← e]
    have hle : s.m ≤ (s.ask b).m := Nat.left_le_or
    by_cases h1 : (to.getD a 0).testBit b = true ∧ s.m.testBit b = false
    · by_cases h2 : s.b.getD b 0 < 0
      · rw [kl_end hb h1 h2]
        exact ⟨(h.ask hb).put ha hb, hle⟩
      · have hc := hg (s.b.getD b 0).toNat (s.ask b) (by have := h.bl b hb; omega) (h.ask hb)
        cases h3 : (g (s.b.getD b 0).toNat (s.ask b)).1
        · rw [kl_on hb h1 h2 h3, e2]
          have := kl_ok (to := to) ha hg d (by omega) _ hc.1
          exact ⟨this.1, by omega⟩
        · rw [kl_yes hb h1 h2 h3]
          exact ⟨hc.1.put ha hb, Nat.le_trans hle hc.2⟩
    · rw [kl_no hb h1, e2]
      exact kl_ok ha hg d (by omega) s h
theorem kf_ok {l r : Nat} {to : List Nat} : ∀ f a s, a < l → KO l r s → KO l r (kf r to f a s).2 ∧ s.m ≤ (kf r to f a s).2.m
  | 0, _, s, _, h => ⟨h, Nat.le_refl _⟩
  | f + 1, a, s, ha, h => kl_ok ha (fun c s hc hs => kf_ok f c s hc hs) r (Nat.le_refl r) s h
/-! What it comes to. -/
structure Cn (l r : Nat) (to : List Nat) (s : KS) : Prop where
  lw : s.w.length = l
  lb : s.b.length = r
  wr : ∀ x, x < l → s.w.getD x 0 = -1 ∨ ∃ y : Nat, y < r ∧ s.w.getD x 0 = y
  br : ∀ y, y < r → s.b.getD y 0 = -1 ∨ ∃ x : Nat, x < l ∧ s.b.getD y 0 = x
  wb : ∀ x y : Nat, x < l → y < r → s.w.getD x 0 = y → s.b.getD y 0 = x ∧ (to.getD x 0).testBit y = true
  bw : ∀ x y : Nat, x < l → y < r → s.b.getD y 0 = x → s.w.getD x 0 = y
/-- Whom those of S may have has somebody of S. -/
def Clo (l r : Nat) (to : List Nat) (s : KS) (S : Nat → Prop) : Prop := ∀ c, c < l → S c → ∀ y, y < r → (to.getD c 0).testBit y = true → ∃ x : Nat, x < l ∧ s.b.getD y 0 = x ∧ S x
structure Suc (l r : Nat) (to : List Nat) (a : Nat) (s t : KS) : Prop where
  lw : t.w.length = l
  lb : t.b.length = r
  wr : ∀ x, x < l → t.w.getD x 0 = -1 ∨ ∃ y : Nat, y < r ∧ t.w.getD x 0 = y
  br : ∀ y, y < r → t.b.getD y 0 = -1 ∨ ∃ x : Nat, x < l ∧ t.b.getD y 0 = x
  one : ∃ b : Nat, b < r ∧ s.m.testBit b = false ∧ t.w.getD a 0 = b
  free : ∀ x, x < l → x ≠ a → s.w.getD x 0 = -1 → t.w.getD x 0 = -1
  lock : ∀ x, x < l → x ≠ a → ∀ y : Nat, y < r → s.w.getD x 0 = y → s.m.testBit y = true → t.w.getD x 0 = y
  stay : ∀ x, x < l → s.w.getD x 0 ≠ -1 → t.w.getD x 0 ≠ -1
  met : ∀ y, y < r → s.m.testBit y = true → t.b.getD y 0 = s.b.getD y 0
  wb : ∀ x y : Nat, x < l → y < r → t.w.getD x 0 = y → t.b.getD y 0 = x ∧ (to.getD x 0).testBit y = true
  bw : ∀ x y : Nat, x < l → y < r → t.b.getD y 0 = x → t.w.getD x 0 = y ∨ (x = a ∧ s.w.getD a 0 = y)
  cl : ∀ S, Clo l r to s S → ¬ S a ∧ ∀ c, c < l → S c → ∀ y, y < r → (to.getD c 0).testBit y = true → t.b.getD y 0 = s.b.getD y 0
/-- Nobody was found among the first b. -/
structure Fal (l r : Nat) (to : List Nat) (a b : Nat) (s t : KS) : Prop where
  ew : t.w = s.w
  eb : t.b = s.b
  le : s.m ≤ t.m
  mono : ∀ y, s.m.testBit y = true → t.m.testBit y = true
  all : ∀ y, y < b → (to.getD a 0).testBit y = true → t.m.testBit y = true
  back : ∀ y, y < r → t.m.testBit y = true → s.m.testBit y = true ∨ ∃ c : Nat, c < l ∧ s.b.getD y 0 = c ∧ ∀ z, z < r → (to.getD c 0).testBit z = true → t.m.testBit z = true
theorem Cn.of {l r : Nat} {to : List Nat} {s t : KS} (h : Cn l r to s) (hw : t.w = s.w) (hb : t.b = s.b) : Cn l r to t :=
  ⟨by rw [hw]; exact h.lw, by rw [hb]; exact h.lb, by rw [hw]; exact h.wr, by rw [hb]; exact h.br, by rw [hw, hb]; exact h.wb, by rw [hw, hb]; exact h.bw⟩
theorem ask_bit (s : KS) (b y : Nat) : (s.ask b).m.testBit y = (s.m.testBit y || decide (b = y)) := by
  show (s.m ||| 2 ^ b).testBit y = _
  rw [Nat.testBit_or, Nat.testBit_two_pow]
/-- Somebody who has nobody. -/
theorem suc_end {l r : Nat} {to : List Nat} {a b : Nat} {s0 s : KS} (ha : a < l) (hb : b < r) (h0 : Cn l r to s0) (hF : Fal l r to a b s0 s) (hE : (to.getD a 0).testBit b = true) (hm : s.m.testBit b = false) (hn : s.b.getD b 0 = -1) : Suc l r to a s0 ((s.ask b).put a b) := by
  have hs := h0.of hF.ew hF.eb
  have e1 : ∀ x, ((s.ask b).put a b).w.getD x 0 = if x = a then (b : Int) else s0.w.getD x 0 := fun x => by
    show (s.w.set a (b : Int)).getD x 0 = _
    rw [gs (by rw [hs.lw]; exact ha), hF.ew]
  have e2 : ∀ y, ((s.ask b).put a b).b.getD y 0 = if y = b then (a : Int) else s0.b.getD y 0 := fun y => by
    show (s.b.set b (a : Int)).getD y 0 = _
    rw [gs (by rw [hs.lb]; exact hb), hF.eb]
  have l1 : ((s.ask b).put a b).w.length = l := by show (s.w.set a (b : Int)).length = l; rw [List.length_set]; exact hs.lw
  have l2 : ((s.ask b).put a b).b.length = r := by show (s.b.set b (a : Int)).length = r; rw [List.length_set]; exact hs.lb
  rw [hF.eb] at hn
  have hmm : s0.m.testBit b = false := by
    cases hq : s0.m.testBit b
    · rfl
    · rw [hF.mono b hq] at hm; cases hm
  generalize (s.ask b).put a b = t at *
  refine ⟨l1, l2, fun x hx => ?_, fun y hy => ?_, ⟨b, hb, hmm, by rw [e1, if_pos rfl]⟩, fun x hx hxa h => ?_, fun x hx hxa y hy h hy2 => ?_, fun x hx h => ?_, fun y hy h => ?_, fun x y hx hy h => ?_, fun x y hx hy h => ?_, fun S hS => ?_⟩
  · rw [e1]; split
    · exact .inr ⟨b, hb, rfl⟩
    · exact h0.wr x hx
  · rw [e2]; split
    · exact .inr ⟨a, ha, rfl⟩
    · exact h0.br y hy
  · rw [e1, if_neg hxa]; exact h
  · rw [e1, if_neg hxa]; exact h
  · rw [e1]; split
    · omega
    · exact h
  · rw [e2, if_neg (fun e => by rw [e, hmm] at h; cases h)]
  · rw [e1] at h
    by_cases e : x = a
    · rw [if_pos e] at h
      have : y = b := by omega
      subst this
      exact ⟨by rw [e2, if_pos rfl, e], by rw [e]; exact hE⟩
    · rw [if_neg e] at h
      have h2 := h0.wb x y hx hy h
      refine ⟨?_, h2.2⟩
      rw [e2, if_neg (fun e3 => by rw [e3, hn] at h2; omega)]; exact h2.1
  · rw [e2] at h
    by_cases e : y = b
    · rw [if_pos e] at h
      exact .inl (by rw [e1, if_pos (by omega), e])
    · rw [if_neg e] at h
      have h2 := h0.bw x y hx hy h
      by_cases e3 : x = a
      · exact .inr ⟨e3, by rw [← e3]; exact h2⟩
      · exact .inl (by rw [e1, if_neg e3]; exact h2)
  · have hne : ∀ c, c < l → S c → (to.getD c 0).testBit b = true → False := fun c hc hSc hE => by
      obtain ⟨x, _, h2, _⟩ := hS c hc hSc b hb hE
      rw [hn] at h2; omega
    refine ⟨fun h => hne a ha h hE, fun c hc hSc y hy hEy => ?_⟩
    rw [e2, if_neg (fun e => by rw [e] at hEy; exact hne c hc hSc hEy)]
/-- Somebody whose partner finds another one. -/
theorem suc_yes {l r : Nat} {to : List Nat} {a b c : Nat} {s0 s u : KS} (ha : a < l) (hb : b < r) (h0 : Cn l r to s0) (hL : s0.w.getD a 0 = -1 ∨ ∃ y : Nat, y < r ∧ s0.w.getD a 0 = y ∧ s0.m.testBit y = true) (hF : Fal l r to a b s0 s) (hE : (to.getD a 0).testBit b = true) (hm : s.m.testBit b = false) (hc : c < l) (hn : s.b.getD b 0 = c) (hU : Suc l r to c (s.ask b) u) : Suc l r to a s0 (u.put a b) := by
  have e1 : ∀ x, (u.put a b).w.getD x 0 = if x = a then (b : Int) else u.w.getD x 0 := fun x => by
    show (u.w.set a (b : Int)).getD x 0 = _
    rw [gs (by rw [hU.lw]; exact ha)]
  have e2 : ∀ y, (u.put a b).b.getD y 0 = if y = b then (a : Int) else u.b.getD y 0 := fun y => by
    show (u.b.set b (a : Int)).getD y 0 = _
    rw [gs (by rw [hU.lb]; exact hb)]
  have l1 : (u.put a b).w.length = l := by show (u.w.set a (b : Int)).length = l; rw [List.length_set]; exact hU.lw
  have l2 : (u.put a b).b.length = r := by show (u.b.set b (a : Int)).length = r; rw [List.length_set]; exact hU.lb
  have ew : (s.ask b).w = s0.w := hF.ew
  have eb : (s.ask b).b = s0.b := hF.eb
  rw [hF.eb] at hn
  have hmm : s0.m.testBit b = false := by
    cases hq : s0.m.testBit b
    · rfl
    · rw [hF.mono b hq] at hm; cases hm
  have hask : ∀ y, s0.m.testBit y = true → (s.ask b).m.testBit y = true := fun y hy => by rw [ask_bit, hF.mono y hy]; rfl
  have haskb : (s.ask b).m.testBit b = true := by rw [ask_bit]; simp
  obtain ⟨b1, hb1, hb2, hb3⟩ := hU.one
  have hbb : b1 ≠ b := fun e => by rw [e, haskb] at hb2; cases hb2
  have hcb := h0.bw c b hc hb hn
  have hca : c ≠ a := fun e => by
    rw [e] at hcb
    rcases hL with h | ⟨y, _, h, h2⟩
    · omega
    · have : y = b := by omega
      rw [this, hmm] at h2; cases h2
  have hbc : u.b.getD b 0 = c := by rw [hU.met b hb haskb, eb]; exact hn
  generalize u.put a b = t at *
  refine ⟨l1, l2, fun x hx => ?_, fun y hy => ?_, ⟨b, hb, hmm, by rw [e1, if_pos rfl]⟩, fun x hx hxa h => ?_, fun x hx hxa y hy h hy2 => ?_, fun x hx h => ?_, fun y hy h => ?_, fun x y hx hy h => ?_, fun x y hx hy h => ?_, fun S hS => ?_⟩
  · rw [e1]; split
    · exact .inr ⟨b, hb, rfl⟩
    · exact hU.wr x hx
  · rw [e2]; split
    · exact .inr ⟨a, ha, rfl⟩
    · exact hU.br y hy
  · rw [e1, if_neg hxa]
    by_cases e : x = c
    · rw [e] at h; omega
    · exact hU.free x hx e (by rw [ew]; exact h)
  · rw [e1, if_neg hxa]
    by_cases e : x = c
    · rw [e] at h
      have : y = b := by omega
      rw [this, hmm] at hy2; cases hy2
    · exact hU.lock x hx e y hy (by rw [ew]; exact h) (hask y hy2)
  · rw [e1]; split
    · omega
    · exact hU.stay x hx (by rw [ew]; exact h)
  · rw [e2, if_neg (fun e => by rw [e, hmm] at h; cases h), hU.met y hy (hask y h), eb]
  · rw [e1] at h
    by_cases e : x = a
    · rw [if_pos e] at h
      have : y = b := by omega
      subst this
      exact ⟨by rw [e2, if_pos rfl, e], by rw [e]; exact hE⟩
    · rw [if_neg e] at h
      have h2 := hU.wb x y hx hy h
      refine ⟨?_, h2.2⟩
      rw [e2, if_neg (fun e3 => ?_)]
      · exact h2.1
      · rw [e3, hbc] at h2
        have : c = x := by omega
        subst this
        rw [hb3] at h; omega
  · rw [e2] at h
    by_cases e : y = b
    · rw [if_pos e] at h
      exact .inl (by rw [e1, if_pos (by omega), e])
    · rw [if_neg e] at h
      have h2 : u.w.getD x 0 = y := by
        rcases hU.bw x y hx hy h with h2 | ⟨h2, h3⟩
        · exact h2
        · rw [ew, hcb] at h3; omega
      by_cases e3 : x = a
      · refine .inr ⟨e3, ?_⟩
        subst e3
        rcases hL with h4 | ⟨z, hz, h4, h5⟩
        · have := hU.free x hx (Ne.symm hca) (by rw [ew]; exact h4)
          omega
        · have := hU.lock x hx (Ne.symm hca) z hz (by rw [ew]; exact h4) (hask z h5)
          omega
      · exact .inl (by rw [e1, if_neg e3]; exact h2)
  · have hS2 : Clo l r to (s.ask b) S := by unfold Clo; rw [eb]; exact hS
    obtain ⟨hc1, hc2⟩ := hU.cl S hS2
    have hne : ∀ d, d < l → S d → (to.getD d 0).testBit b = true → False := fun d hd hSd hE => by
      obtain ⟨x, _, h2, h3⟩ := hS d hd hSd b hb hE
      have : x = c := by omega
      rw [this] at h3; exact hc1 h3
    refine ⟨fun h => hne a ha h hE, fun d hd hSd y hy hEy => ?_⟩
    rw [e2, if_neg (fun e => by rw [e] at hEy; exact hne d hd hSd hEy), hc2 d hd hSd y hy hEy, eb]
def Lk (r a : Nat) (s : KS) : Prop := s.w.getD a 0 = -1 ∨ ∃ y : Nat, y < r ∧ s.w.getD a 0 = y ∧ s.m.testBit y = true
theorem kl_law {l r : Nat} {to : List Nat} {f : Nat} (hg : ∀ c s, c < l → Cn l r to s → Lk r c s → s.m < 2 ^ r → 2 ^ r ≤ s.m + f → ((kf r to f c s).1 = true → Suc l r to c s (kf r to f c s).2) ∧ ((kf r to f c s).1 = false → Fal l r to c r s (kf r to f c s).2))
    {a : Nat} {s0 : KS} (ha : a < l) (h0 : Cn l r to s0) (hL : Lk r a s0) (hfu : 2 ^ r ≤ s0.m + (f + 1)) : ∀ d, d ≤ r → ∀ s, KO l r s → Fal l r to a (r - d) s0 s → ((kl r to (kf r to f) a d s).1 = true → Suc l r to a s0 (kl r to (kf r to f) a d s).2) ∧ ((kl r to (kf r to f) a d s).1 = false → Fal l r to a r s0 (kl r to (kf r to f) a d s).2)
  | 0, _, s, _, hF => ⟨fun h => Bool.noConfusion h, fun _ => hF⟩
  | d + 1, hd, s, hO, hF => by
    have e : r - (r - (d + 1)) = d + 1 := by omega
    have e2 : r - (r - (d + 1) + 1) = d := by omega
    have e3 : r - d = r - (d + 1) + 1 := by omega
    have hb : r - (d + 1) < r := by omega
    have ih := kl_law hg ha h0 hL hfu d (by omega)
    rw [e3] at ih
    generalize r - (d + 1) = b at *
    rw [← e]
    by_cases h1 : (to.getD a 0).testBit b = true ∧ s.m.testBit b = false
    · by_cases h2 : s.b.getD b 0 < 0
      · rw [kl_end hb h1 h2]
        refine ⟨fun _ => suc_end ha hb h0 hF h1.1 h1.2 ?_, fun h => by cases h⟩
        rcases (h0.of hF.ew hF.eb).br b hb with h | ⟨x, _, h⟩
        · exact h
        · omega
      · obtain ⟨c, hc, hn⟩ : ∃ c : Nat, c < l ∧ s.b.getD b 0 = c := by
          rcases (h0.of hF.ew hF.eb).br b hb with h | h
          · omega
          · exact h
        have hcn : (s.b.getD b 0).toNat = c := by omega
        have hp : 0 < 2 ^ b := Nat.pow_pos (by decide)
        have hmb : s.m + 1 ≤ (s.ask b).m := or_bit h1.2
        have hle := hF.le
        have hsn : Cn l r to (s.ask b) := h0.of hF.ew hF.eb
        have hG := hg c (s.ask b) hc hsn (.inr ⟨b, hb, hsn.bw c b hc hb hn, by rw [ask_bit]; simp⟩) (hO.ask hb).m (by omega)
        have hK := kf_ok (to := to) f c (s.ask b) hc (hO.ask hb)
        cases h3 : (kf r to f (s.b.getD b 0).toNat (s.ask b)).1
        · rw [kl_on hb h1 h2 h3, e2]
          rw [hcn] at h3 ⊢
          have hG := hG.2 h3
          refine ih _ hK.1 ⟨?_, ?_, ?_, ?_, ?_, ?_⟩
          · rw [hG.ew]; exact hF.ew
          · rw [hG.eb]; exact hF.eb
          · have := hG.le; omega
          · exact fun y hy => hG.mono y (by rw [ask_bit, hF.mono y hy]; rfl)
          · intro y hy hE
            by_cases ey : y = b
            · exact hG.mono y (by rw [ask_bit, ey]; simp)
            · exact hG.mono y (by rw [ask_bit, hF.all y (by omega) hE]; rfl)
          · intro y hy hm
            have eb : (s.ask b).b = s0.b := hF.eb
            rcases hG.back y hy hm with h4 | h4
            · rw [ask_bit, Bool.or_eq_true, decide_eq_true_eq] at h4
              rcases h4 with h4 | h4
              · rcases hF.back y hy h4 with h5 | ⟨z, hz, h5, h6⟩
                · exact .inl h5
                · exact .inr ⟨z, hz, h5, fun x hx hE => hG.mono x (by rw [ask_bit, h6 x hx hE]; rfl)⟩
              · subst h4
                exact .inr ⟨c, hc, by rw [← hF.eb]; exact hn, fun x hx hE => hG.all x hx hE⟩
            · rw [eb] at h4
              exact .inr h4
        · rw [kl_yes hb h1 h2 h3]
          rw [hcn] at h3 ⊢
          exact ⟨fun _ => suc_yes ha hb h0 hL hF h1.1 h1.2 hc hn (hG.1 h3), fun h => by cases h⟩
    · rw [kl_no hb h1, e2]
      refine ih s hO ⟨hF.ew, hF.eb, hF.le, hF.mono, fun y hy hE => ?_, hF.back⟩
      by_cases ey : y = b
      · subst ey
        cases hq : s.m.testBit y
        · exact absurd ⟨hE, hq⟩ h1
        · rfl
      · exact hF.all y (by omega) hE
theorem kf_law {l r : Nat} {to : List Nat} : ∀ f a s, a < l → Cn l r to s → Lk r a s → s.m < 2 ^ r → 2 ^ r ≤ s.m + f → ((kf r to f a s).1 = true → Suc l r to a s (kf r to f a s).2) ∧ ((kf r to f a s).1 = false → Fal l r to a r s (kf r to f a s).2)
  | 0, a, s, _, _, _, hm, hf => by omega
  | f + 1, a, s, ha, h, hL, hm, hf => by
    refine kl_law (fun c s hc hs hl hm hf => kf_law f c s hc hs hl hm hf) ha h hL hf r (Nat.le_refl r) s ⟨h.lw, h.lb, fun y hy => ?_, hm⟩ ⟨rfl, rfl, Nat.le_refl _, fun _ h => h, fun y hy => by omega, fun y _ h => .inl h⟩
    rcases h.br y hy with h | ⟨x, hx, h⟩ <;> omega
/-! One of the left behind the other. -/
def kp (l r : Nat) (to : List Nat) : Nat → KS
  | 0 => ⟨List.replicate l (-1), List.replicate r (-1), 0⟩
  | k + 1 => (kf r to (2 ^ r) k ⟨(kp l r to k).w, (kp l r to k).b, 0⟩).2
theorem rep_get {n i : Nat} (h : i < n) : (List.replicate n (-1 : Int)).getD i 0 = -1 := by
  rw [List.getD_eq_getElem?_getD, List.getElem?_replicate, if_pos h]; rfl
structure Pr (l r : Nat) (to : List Nat) (k : Nat) (s : KS) : Prop where
  cn : Cn l r to s
  rest : ∀ x, x < l → k ≤ x → s.w.getD x 0 = -1
  clo : ∃ S, Clo l r to s S ∧ ∀ x, x < k → s.w.getD x 0 = -1 → S x
theorem kp_pr {l r : Nat} {to : List Nat} : ∀ k, k ≤ l → Pr l r to k (kp l r to k)
  | 0, _ => by
    refine ⟨⟨by simp [kp], by simp [kp], fun x hx => .inl (rep_get hx), fun y hy => .inl (rep_get hy), fun x y hx hy h => ?_, fun x y hx hy h => ?_⟩, fun x hx _ => rep_get hx, ⟨fun _ => False, fun c _ h => h.elim, fun x hx => by omega⟩⟩
    · have : (List.replicate l (-1 : Int)).getD x 0 = y := h
      rw [rep_get hx] at this; omega
    · have : (List.replicate r (-1 : Int)).getD y 0 = x := h
      rw [rep_get hy] at this; omega
  | k + 1, hk => by
    obtain ⟨h1, h2, S, h3, h4⟩ := kp_pr (l := l) (r := r) (to := to) k (by omega)
    have hk1 : kp l r to (k + 1) = (kf r to (2 ^ r) k ⟨(kp l r to k).w, (kp l r to k).b, 0⟩).2 := rfl
    rw [hk1]
    generalize kp l r to k = s at *
    have hs : Cn l r to ⟨s.w, s.b, 0⟩ := h1.of rfl rfl
    have hL := kf_law (2 ^ r) k ⟨s.w, s.b, 0⟩ (by omega) hs (.inl (h2 k (by omega) (Nat.le_refl k))) (Nat.pow_pos (by decide)) (by show 2 ^ r ≤ 0 + 2 ^ r; omega)
    cases hq : (kf r to (2 ^ r) k ⟨s.w, s.b, 0⟩).1
    · have hF := hL.2 hq
      generalize (kf r to (2 ^ r) k ⟨s.w, s.b, 0⟩).2 = t at *
      have ew : t.w = s.w := hF.ew
      have eb : t.b = s.b := hF.eb
      refine ⟨hs.of hF.ew hF.eb, by rw [ew]; exact fun x hx hx2 => h2 x hx (by omega), ⟨fun x => S x ∨ x = k ∨ ∃ y, y < r ∧ t.m.testBit y = true ∧ s.b.getD y 0 = x, ?_, ?_⟩⟩
      · have hback : ∀ y, y < r → t.m.testBit y = true → ∃ c : Nat, c < l ∧ s.b.getD y 0 = c ∧ ∀ z, z < r → (to.getD c 0).testBit z = true → t.m.testBit z = true := fun y hy hm => by
          rcases hF.back y hy hm with h | h
          · have : (0 : Nat).testBit y = true := h
            rw [Nat.zero_testBit] at this; cases this
          · exact h
        unfold Clo
        rw [eb]
        rintro c hc (hS | hS | ⟨y, hy, hm, hS⟩) z hz hE
        · obtain ⟨x, a1, a2, a3⟩ := h3 c hc hS z hz hE
          exact ⟨x, a1, a2, .inl a3⟩
        · rw [hS] at hE
          have hm := hF.all z hz hE
          obtain ⟨x, a1, a2, _⟩ := hback z hz hm
          exact ⟨x, a1, a2, .inr (.inr ⟨z, hz, hm, a2⟩)⟩
        · obtain ⟨x, a1, a2, a3⟩ := hback y hy hm
          have : x = c := by omega
          rw [this] at a3
          have hm := a3 z hz hE
          obtain ⟨x, a1, a2, _⟩ := hback z hz hm
          exact ⟨x, a1, a2, .inr (.inr ⟨z, hz, hm, a2⟩)⟩
      · intro x hx hw
        rw [ew] at hw
        by_cases e : x = k
        · exact .inr (.inl e)
        · exact .inl (h4 x (by omega) hw)
    · have hU := hL.1 hq
      generalize (kf r to (2 ^ r) k ⟨s.w, s.b, 0⟩).2 = t at *
      obtain ⟨b, hb, _, hb2⟩ := hU.one
      have hw0 := h2 k (by omega) (Nat.le_refl k)
      refine ⟨⟨hU.lw, hU.lb, hU.wr, hU.br, hU.wb, fun x y hx hy h => ?_⟩, fun x hx hx2 => hU.free x hx (by omega) (h2 x hx (by omega)), ⟨S, ?_, ?_⟩⟩
      · rcases hU.bw x y hx hy h with h | ⟨_, h⟩
        · exact h
        · have : s.w.getD k 0 = y := h
          omega
      · obtain ⟨_, hc2⟩ := hU.cl S h3
        intro c hc hSc y hy hE
        rw [hc2 c hc hSc y hy hE]
        exact h3 c hc hSc y hy hE
      · intro x hx hw
        by_cases e : x = k
        · rw [e] at hw; omega
        · refine h4 x (by omega) ?_
          have hst := hU.stay x (by omega)
          by_cases h : s.w.getD x 0 = -1
          · exact h
          · exact absurd hw (hst h)
end Go.Proofs.Ytgojkabjgagjcaa
