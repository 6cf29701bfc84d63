import Derived.Test.YtpfldhaaiglgdaaDoorFhb
set_option linter.unusedSimpArgs false
set_option linter.unusedVariables false
set_option linter.unusedSectionVars false
set_option maxRecDepth 20000
namespace Go.Proofs.YtpfldhaaiglgdaaDoor

theorem iterN_congr {α : Type} {f g : Nat → α → α} {x : α} : ∀ {k : Nat}, (∀ i y, i < k → f i y = g i y) → iterN k f x = iterN k g x
  | 0, _ => rfl
  | k + 1, h => by
    show f k (iterN k f x) = g k (iterN k g x)
    rw [iterN_congr (k := k) (fun i y hi => h i y (by omega)), h k _ (by omega)]

theorem okB_irr {n : Nat} {ns : List Nat} (h : okB n ns = true) {i : Nat} (hi : i < n) : lt ns i i = false := by
  have h1 := List.all_eq_true.1 h i (List.mem_range.2 hi)
  simp only [okRow, Bool.and_eq_true, Bool.not_eq_true'] at h1
  exact h1.1
theorem okB_tr {n : Nat} {ns : List Nat} (h : okB n ns = true) {i j k : Nat} (hi : i < n) (hk : k < n) (h1 : lt ns k i = true) (h2 : lt ns j k = true) : lt ns j i = true := by
  have h3 := List.all_eq_true.1 h i (List.mem_range.2 hi)
  simp only [okRow, Bool.and_eq_true] at h3
  have h4 := List.all_eq_true.1 h3.2 k (List.mem_range.2 hk)
  simp only [okPair, Bool.or_eq_true, Bool.not_eq_true', beq_iff_eq, h1] at h4
  rcases h4 with h4 | h4
  · cases h4
  · exact ndiff_zero.1 h4 j h2

/-- How many are below. -/
def rk (n : Nat) (ns : List Nat) (b : Nat) : Nat := (List.range n).countP fun a => lt ns a b
theorem countP_lt {p q : Nat → Bool} {x : Nat} : ∀ {l : List Nat}, (∀ y ∈ l, p y = true → q y = true) → x ∈ l → q x = true → p x = false → l.countP p < l.countP q
  | [], _, h, _, _ => by cases h
  | y :: l, h, hx, hq, hp => by
    have hle : l.countP p ≤ l.countP q := List.countP_mono_left fun z hz => h z (List.mem_cons_of_mem _ hz)
    simp only [List.countP_cons]
    rcases List.mem_cons.1 hx with rfl | hx
    · simp [hq, hp]; omega
    · have := countP_lt (l := l) (fun z hz => h z (List.mem_cons_of_mem _ hz)) hx hq hp
      have h1 := h y (by simp)
      cases hpy : p y
      · simp; omega
      · simp [h1 hpy]; omega
theorem rk_lt {n : Nat} {ns : List Nat} (h : okB n ns = true) {a b : Nat} (ha : a < n) (hb : b < n) (hl : lt ns a b = true) : rk n ns a < rk n ns b :=
  countP_lt (fun y _ hy => okB_tr h hb ha hl hy) (List.mem_range.2 ha) hl (okB_irr h ha)
theorem rk_le (n : Nat) (ns : List Nat) (b : Nat) : rk n ns b ≤ n := by
  unfold rk
  have := List.countP_le_length (p := fun a => lt ns a b) (l := List.range n)
  simpa using this

/-- One step of the greatest. -/
def mx (p : Nat → Bool) (g : Nat → Nat) (j h : Nat) : Nat := if p j = true then max h (g j + 1) else h
theorem mx_ge {p : Nat → Bool} {g : Nat → Nat} : ∀ {n j : Nat}, j < n → p j = true → g j + 1 ≤ iterN n (mx p g) 0
  | 0, j, h, _ => by omega
  | n + 1, j, h, hp => by
    show _ ≤ mx p g n (iterN n (mx p g) 0)
    unfold mx
    by_cases hj : j = n
    · subst hj
      rw [if_pos hp]
      omega
    · have := mx_ge (p := p) (g := g) (n := n) (j := j) (by omega) hp
      unfold mx at this
      split <;> omega
def hF (n : Nat) (ns : List Nat) : Nat → Nat → Nat
  | 0, _ => 0
  | f + 1, b => iterN n (mx (fun j => lt ns j b) (hF n ns f)) 0
def hgt (n : Nat) (ns : List Nat) (b : Nat) : Nat := hF n ns (n + 1) b

theorem mx_congr {p : Nat → Bool} {g g' : Nat → Nat} {n : Nat} (h : ∀ j, j < n → p j = true → g j = g' j) : iterN n (mx p g) 0 = iterN n (mx p g') 0 :=
  iterN_congr fun i y hi => by
    unfold mx
    split
    · rename_i hp; rw [h i hi hp]
    · rfl
theorem hF_fuel {n : Nat} {ns : List Nat} (h : okB n ns = true) : ∀ (f : Nat) (b : Nat), b < n → rk n ns b < f → ∀ f', f ≤ f' → hF n ns f' b = hF n ns f b
  | 0, _, _, hr, _, _ => by omega
  | f + 1, b, hb, hr, f', hf => by
    obtain ⟨g, rfl⟩ : ∃ g, f' = g + 1 := ⟨f' - 1, by omega⟩
    exact mx_congr fun j hj hl => hF_fuel h f j hj (by have := rk_lt h hj hb hl; omega) g (by omega)
theorem hgt_eq {n : Nat} {ns : List Nat} (h : okB n ns = true) {b : Nat} (hb : b < n) : hgt n ns b = iterN n (mx (fun j => lt ns j b) (hgt n ns)) 0 :=
  mx_congr fun j hj hl => (hF_fuel h n j hj (by have := rk_lt h hj hb hl; have := rk_le n ns b; omega) (n + 1) (by omega)).symm
theorem hgt_up {n : Nat} {ns : List Nat} (h : okB n ns = true) {a b : Nat} (ha : a < n) (hb : b < n) (hl : lt ns a b = true) : hgt n ns a + 1 ≤ hgt n ns b := by
  rw [hgt_eq h hb]
  exact mx_ge (p := fun j => lt ns j b) (g := hgt n ns) ha hl
/-! Rounds. -/
def rlx (ns : List Nat) (b a : Nat) (out : List Nat) : List Nat := if lt ns a b = true then out.set b (max (out.getD b 0) (out.getD a 0 + 1)) else out
def rlxB (n : Nat) (ns : List Nat) (b : Nat) (out : List Nat) : List Nat := iterN n (rlx ns b) out
def rlxR (n : Nat) (ns : List Nat) (_ : Nat) (out : List Nat) : List Nat := iterN n (rlxB n ns) out
def htP (n : Nat) (ns : List Nat) : List Nat := iterN n (rlxR n ns) (List.replicate n 0)

structure Hts (n : Nat) (ns : List Nat) (out : List Nat) : Prop where
  len : out.length = n
  le : ∀ b, b < n → out.getD b 0 ≤ hgt n ns b

end Go.Proofs.YtpfldhaaiglgdaaDoor
