import Derived.Test.YtkackilhfkicoaaDoorHr
import Derived.Test.YtkackilhfkicoaaDoorEngZp
set_option linter.unusedSimpArgs false
set_option linter.unusedVariables false
set_option linter.unusedSectionVars false
set_option maxRecDepth 20000
namespace Go.Proofs.YtkackilhfkicoaaDoor
/-! Sums of whole numbers. -/
def sumI (f : Nat → Int) : Nat → Int
  | 0 => 0
  | k + 1 => sumI f k + f k
theorem sumI_s (f : Nat → Int) (k : Nat) : sumI f (k + 1) = sumI f k + f k := rfl
theorem sumI_abs (f : Nat → Int) : ∀ k, (sumI f k).natAbs ≤ sumTo (fun i => (f i).natAbs) k
  | 0 => Nat.le_refl 0
  | k + 1 => by
    have := sumI_abs f k
    rw [sumI_s]
    show _ ≤ sumTo _ k + (f k).natAbs
    omega
/-! What is below what: a strict order of n points. -/
structure StO (n : Nat) (L : Nat → Nat → Bool) : Prop where
  irr : ∀ i, i < n → L i i = false
  tr : ∀ i j k, i < n → j < n → k < n → L i j = true → L j k = true → L i k = true
def rkL (n : Nat) (L : Nat → Nat → Bool) (b : Nat) : Nat := (List.range n).countP fun a => L a b
theorem countP_ltL {p q : Nat → Bool} {x : Nat} : ∀ {l : List Nat}, (∀ y ∈ l, p y = true → q y = true) → x ∈ l → q x = true → p x = false → l.countP p < l.countP q
  | [], _, h, _, _ => by cases h
  | y :: l, hpq, h, hq, hp => by
    rw [List.countP_cons, List.countP_cons]
    have hle : l.countP p ≤ l.countP q := List.countP_mono_left fun z hz => hpq z (List.mem_cons_of_mem _ hz)
    rcases List.mem_cons.1 h with rfl | h
    · rw [hq, hp]; simp; omega
    · have ih := countP_ltL (fun z hz => hpq z (List.mem_cons_of_mem _ hz)) h hq hp
      by_cases h1 : p y = true
      · rw [h1, hpq y List.mem_cons_self h1]; omega
      · rw [if_neg h1]; omega
theorem rkL_lt {n : Nat} {L : Nat → Nat → Bool} (h : StO n L) {a b : Nat} (ha : a < n) (hb : b < n) (hl : L a b = true) : rkL n L a < rkL n L b :=
  countP_ltL (fun y hy h1 => h.tr y a b (List.mem_range.1 hy) ha hb h1 hl) (List.mem_range.2 ha) hl (h.irr a ha)
/-- From the lower end. -/
def muF (n : Nat) (L : Nat → Nat → Bool) : Nat → Nat → Nat → Int
  | 0, _, _ => 0
  | f + 1, a, y => if a = y then 1 else if L a y = true then -sumI (fun x => if x = a ∨ L a x = true ∧ L x y = true then muF n L f a x else 0) n else 0
def mu (n : Nat) (L : Nat → Nat → Bool) (a y : Nat) : Int := muF n L (n + 1) a y
/-- From the upper end. -/
def nuF (n : Nat) (L : Nat → Nat → Bool) : Nat → Nat → Nat → Int
  | 0, _, _ => 0
  | f + 1, a, b => if a = b then 1 else if L a b = true then -sumI (fun c => if c ≠ a ∧ L a c = true ∧ (c = b ∨ L c b = true) then nuF n L f c b else 0) n else 0
def upL (L : Nat → Nat → Bool) : Nat → Nat → Bool := fun a b => L b a
theorem StO.up {n : Nat} {L : Nat → Nat → Bool} (h : StO n L) : StO n (upL L) := ⟨h.irr, fun i j k hi hj hk h1 h2 => h.tr k j i hk hj hi h2 h1⟩
def nu (n : Nat) (L : Nat → Nat → Bool) (a b : Nat) : Int := nuF n L (n + 1) a b
def zt (L : Nat → Nat → Bool) (a b : Nat) : Int := if a = b ∨ L a b = true then 1 else 0
theorem StO.as {n : Nat} {L : Nat → Nat → Bool} (h : StO n L) {a b : Nat} (ha : a < n) (hb : b < n) (h1 : L a b = true) (h2 : L b a = true) : False := by
  have := h.tr a b a ha hb ha h1 h2
  rw [h.irr a ha] at this; cases this
/-! How great they are. -/
/-! What is kept. -/
def lpF (a : Nat) (L : Nat → Nat → Bool) (y : Nat) (g : List (Int × Int) → Nat → Int × List (Int × Int)) (m : List (Int × Int)) : Nat → Int × List (Int × Int)
  | 0 => (0, m)
  | k + 1 => if k = a ∨ L a k = true ∧ L k y = true then ((lpF a L y g m k).1 - (g (lpF a L y g m k).2 k).1, (g (lpF a L y g m k).2 k).2) else lpF a L y g m k
def ofF (n : Nat) (L : Nat → Nat → Bool) (a : Nat) : Nat → List (Int × Int) → Nat → Int × List (Int × Int)
  | 0, m, _ => (0, m)
  | f + 1, m, y => match mget m y with
    | some v => (v, m)
    | none => if L a y = true then ((lpF a L y (fun m x => ofF n L a f m x) m n).1, mput (lpF a L y (fun m x => ofF n L a f m x) m n).2 y (lpF a L y (fun m x => ofF n L a f m x) m n).1) else (0, mput m y 0)
structure Kpt (n : Nat) (L : Nat → Nat → Bool) (a : Nat) (m : List (Int × Int)) : Prop where
  one : mget m a = some 1
  all : ∀ (x : Nat) (v : Int), x < n → mget m x = some v → v = mu n L a x
theorem Kpt.put {n : Nat} {L : Nat → Nat → Bool} {a : Nat} {m : List (Int × Int)} (h : Kpt n L a m) {y : Nat} (hn : mget m y = none) {v : Int} (hv : y < n → v = mu n L a y) : Kpt n L a (mput m y v) := by
  refine ⟨?_, fun x u hx hg => ?_⟩
  · rw [mget_put, if_neg, h.one]
    intro e
    rw [← e, h.one] at hn; cases hn
  · rw [mget_put] at hg
    split at hg
    · rename_i e
      have : x = y := by omega
      subst this
      rw [← Option.some.inj hg]; exact hv hx
    · exact h.all x u hx hg
end Go.Proofs.YtkackilhfkicoaaDoor
