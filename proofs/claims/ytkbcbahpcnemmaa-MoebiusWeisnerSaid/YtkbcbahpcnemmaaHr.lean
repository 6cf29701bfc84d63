import Derived.Test.YtkbcbahpcnemmaaGs
import Derived.Test.YtkbcbahpcnemmaaGp
set_option linter.unusedSimpArgs false
set_option linter.unusedVariables false
set_option linter.unusedSectionVars false
set_option maxRecDepth 20000
namespace Go.Proofs.Ytkbcbahpcnemmaa
attribute [local irreducible] QOp aL aC qL
/-- Of so many, how many are such. -/
def cn (p : Nat → Bool) : Nat → Nat
  | 0 => 0
  | k + 1 => cn p k + if p k = true then 1 else 0
theorem cn_s (p : Nat → Bool) (k : Nat) : cn p (k + 1) = cn p k + if p k = true then 1 else 0 := rfl
theorem cn_congr {p q : Nat → Bool} : ∀ n, (∀ i, i < n → p i = q i) → cn p n = cn q n
  | 0, _ => rfl
  | n + 1, h => by rw [cn_s, cn_s, cn_congr n fun i hi => h i (by omega), h n (by omega)]
theorem cn_le (p : Nat → Bool) : ∀ n, cn p n ≤ n
  | 0 => Nat.le_refl 0
  | n + 1 => by
    have := cn_le p n
    rw [cn_s]; split <;> omega
theorem cn_erase {q : Nat → Bool} {y : Nat} (hy : q y = true) : ∀ m, y < m → cn q m = cn (fun x => q x && !decide (x = y)) m + 1
  | 0, h => absurd h (Nat.not_lt_zero _)
  | m + 1, h => by
    rw [cn_s, cn_s]
    by_cases e : m = y
    · subst e
      rw [cn_congr (p := fun x => q x && !decide (x = m)) (q := q) m (fun i hi => by simp [show i ≠ m by omega])]
      simp [hy]
    · rw [cn_erase hy m (by omega)]
      simp [e]; omega
theorem cn_inj {p : Nat → Bool} {m : Nat} {f : Nat → Nat} : ∀ (n : Nat) (q : Nat → Bool), (∀ i, i < n → p i = true → f i < m ∧ q (f i) = true) → (∀ i j, i < n → j < n → p i = true → p j = true → f i = f j → i = j) → cn p n ≤ cn q m
  | 0, _, _, _ => Nat.zero_le _
  | n + 1, q, h1, h2 => by
    rw [cn_s]
    cases hp : p n
    · simpa using cn_inj n q (fun i hi => h1 i (by omega)) (fun i j hi hj => h2 i j (by omega) (by omega))
    · obtain ⟨a1, a2⟩ := h1 n (by omega) hp
      rw [cn_erase a2 m a1, if_pos rfl]
      refine Nat.succ_le_succ (cn_inj n _ (fun i hi hpi => ?_) (fun i j hi hj => h2 i j (by omega) (by omega)))
      obtain ⟨b1, b2⟩ := h1 i (by omega) hpi
      refine ⟨b1, ?_⟩
      have : f i ≠ f n := fun e => by have := h2 i n (by omega) (by omega) hpi hp e; omega
      simp [b2, this]
theorem pc_cn (x : Nat) : ∀ n, pcTo x n = cn (fun i => x.testBit i) n
  | 0 => rfl
  | n + 1 => by
    rw [cn_s, ← pc_cn x n]
    show pcTo x n + x / 2 ^ n % 2 = _
    have := Nat.mod_two_eq_zero_or_one (x / 2 ^ n)
    split
    · rename_i h
      rw [← bit_odd] at h
      omega
    · rename_i h
      rw [← bit_odd] at h
      omega
theorem gs {l : List Int} {i : Nat} (hi : i < l.length) (v : Int) (j : Nat) : (l.set i v).getD j 0 = if j = i then v else l.getD j 0 := by
  simp only [List.getD_eq_getElem?_getD]
  by_cases e : j = i
  · subst e
    rw [if_pos rfl, List.getElem?_set_self hi]; rfl
  · rw [if_neg e, List.getElem?_set_ne (Ne.symm e)]
/-- Where the one who looks for pairs stands: who has whom, on both sides, and who on the right was asked. -/
structure KS where
  w : List Int
  b : List Int
  m : Nat
def KS.put (s : KS) (a b : Nat) : KS := ⟨s.w.set a b, s.b.set b a, s.m⟩
def KS.ask (s : KS) (b : Nat) : KS := ⟨s.w, s.b, s.m ||| 2 ^ b⟩
/-- One of the left asks the last d of the right. -/
def kl (r : Nat) (to : List Nat) (g : Nat → KS → Bool × KS) (a : Nat) : Nat → KS → Bool × KS
  | 0, s => (false, s)
  | d + 1, s =>
    if (to.getD a 0).testBit (r - (d + 1)) = true ∧ s.m.testBit (r - (d + 1)) = false then
      if s.b.getD (r - (d + 1)) 0 < 0 then (true, (s.ask (r - (d + 1))).put a (r - (d + 1)))
      else if (g (s.b.getD (r - (d + 1)) 0).toNat (s.ask (r - (d + 1)))).1 = true then (true, (g (s.b.getD (r - (d + 1)) 0).toNat (s.ask (r - (d + 1)))).2.put a (r - (d + 1)))
      else kl r to g a d (g (s.b.getD (r - (d + 1)) 0).toNat (s.ask (r - (d + 1)))).2
    else kl r to g a d s
def kf (r : Nat) (to : List Nat) : Nat → Nat → KS → Bool × KS
  | 0, _, s => (false, s)
  | f + 1, a, s => kl r to (kf r to f) a r s
/-- What a step of the program needs. -/
structure KO (l r : Nat) (s : KS) : Prop where
  lw : s.w.length = l
  lb : s.b.length = r
  bl : ∀ y, y < r → s.b.getD y 0 < (l : Int)
  m : s.m < 2 ^ r
theorem KO.ask {l r b : Nat} {s : KS} (h : KO l r s) (hb : b < r) : KO l r (s.ask b) := ⟨h.lw, h.lb, h.bl, Nat.or_lt_two_pow h.m (Nat.pow_lt_pow_right (by decide) hb)⟩
theorem KO.put {l r a b : Nat} {s : KS} (h : KO l r s) (ha : a < l) (hb : b < r) : KO l r (s.put a b) := by
  refine ⟨by unfold KS.put; simp [h.lw], by unfold KS.put; simp [h.lb], fun y hy => ?_, h.m⟩
  show (s.b.set b (a : Int)).getD y 0 < _
  rw [gs (by rw [h.lb]; exact hb)]
  split
  · omega
  · exact h.bl y hy
/-! What it comes to. -/
structure Cn (l r : Nat) (to : List Nat) (s : KS) : Prop where
  lw : s.w.length = l
  lb : s.b.length = r
  wr : ∀ x, x < l → s.w.getD x 0 = -1 ∨ ∃ y : Nat, y < r ∧ s.w.getD x 0 = y
  br : ∀ y, y < r → s.b.getD y 0 = -1 ∨ ∃ x : Nat, x < l ∧ s.b.getD y 0 = x
  wb : ∀ x y : Nat, x < l → y < r → s.w.getD x 0 = y → s.b.getD y 0 = x ∧ (to.getD x 0).testBit y = true
  bw : ∀ x y : Nat, x < l → y < r → s.b.getD y 0 = x → s.w.getD x 0 = y
/-- Whom those of S may have has somebody of S. -/
def Clo (l r : Nat) (to : List Nat) (s : KS) (S : Nat → Prop) : Prop := ∀ c, c < l → S c → ∀ y, y < r → (to.getD c 0).testBit y = true → ∃ x : Nat, x < l ∧ s.b.getD y 0 = x ∧ S x
structure Suc (l r : Nat) (to : List Nat) (a : Nat) (s t : KS) : Prop where
  lw : t.w.length = l
  lb : t.b.length = r
  wr : ∀ x, x < l → t.w.getD x 0 = -1 ∨ ∃ y : Nat, y < r ∧ t.w.getD x 0 = y
  br : ∀ y, y < r → t.b.getD y 0 = -1 ∨ ∃ x : Nat, x < l ∧ t.b.getD y 0 = x
  one : ∃ b : Nat, b < r ∧ s.m.testBit b = false ∧ t.w.getD a 0 = b
  free : ∀ x, x < l → x ≠ a → s.w.getD x 0 = -1 → t.w.getD x 0 = -1
  lock : ∀ x, x < l → x ≠ a → ∀ y : Nat, y < r → s.w.getD x 0 = y → s.m.testBit y = true → t.w.getD x 0 = y
  stay : ∀ x, x < l → s.w.getD x 0 ≠ -1 → t.w.getD x 0 ≠ -1
  met : ∀ y, y < r → s.m.testBit y = true → t.b.getD y 0 = s.b.getD y 0
  wb : ∀ x y : Nat, x < l → y < r → t.w.getD x 0 = y → t.b.getD y 0 = x ∧ (to.getD x 0).testBit y = true
  bw : ∀ x y : Nat, x < l → y < r → t.b.getD y 0 = x → t.w.getD x 0 = y ∨ (x = a ∧ s.w.getD a 0 = y)
  cl : ∀ S, Clo l r to s S → ¬ S a ∧ ∀ c, c < l → S c → ∀ y, y < r → (to.getD c 0).testBit y = true → t.b.getD y 0 = s.b.getD y 0
/-- Nobody was found among the first b. -/
structure Fal (l r : Nat) (to : List Nat) (a b : Nat) (s t : KS) : Prop where
  ew : t.w = s.w
  eb : t.b = s.b
  le : s.m ≤ t.m
  mono : ∀ y, s.m.testBit y = true → t.m.testBit y = true
  all : ∀ y, y < b → (to.getD a 0).testBit y = true → t.m.testBit y = true
  back : ∀ y, y < r → t.m.testBit y = true → s.m.testBit y = true ∨ ∃ c : Nat, c < l ∧ s.b.getD y 0 = c ∧ ∀ z, z < r → (to.getD c 0).testBit z = true → t.m.testBit z = true
theorem Cn.of {l r : Nat} {to : List Nat} {s t : KS} (h : Cn l r to s) (hw : t.w = s.w) (hb : t.b = s.b) : Cn l r to t :=
  ⟨by rw [hw]; exact h.lw, by rw [hb]; exact h.lb, by rw [hw]; exact h.wr, by rw [hb]; exact h.br, by rw [hw, hb]; exact h.wb, by rw [hw, hb]; exact h.bw⟩
def Lk (r a : Nat) (s : KS) : Prop := s.w.getD a 0 = -1 ∨ ∃ y : Nat, y < r ∧ s.w.getD a 0 = y ∧ s.m.testBit y = true
/-! One of the left behind the other. -/
def kp (l r : Nat) (to : List Nat) : Nat → KS
  | 0 => ⟨List.replicate l (-1), List.replicate r (-1), 0⟩
  | k + 1 => (kf r to (2 ^ r) k ⟨(kp l r to k).w, (kp l r to k).b, 0⟩).2
structure Pr (l r : Nat) (to : List Nat) (k : Nat) (s : KS) : Prop where
  cn : Cn l r to s
  rest : ∀ x, x < l → k ≤ x → s.w.getD x 0 = -1
  clo : ∃ S, Clo l r to s S ∧ ∀ x, x < k → s.w.getD x 0 = -1 → S x
end Go.Proofs.Ytkbcbahpcnemmaa
