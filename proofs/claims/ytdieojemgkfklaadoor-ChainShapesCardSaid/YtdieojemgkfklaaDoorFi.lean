import Derived.Test.YtdieojemgkfklaaDoorFhb
set_option linter.unusedSimpArgs false
set_option linter.unusedVariables false
set_option maxRecDepth 20000
namespace Go.Proofs.YtdieojemgkfklaaDoor

theorem okB_irr {n : Nat} {ns : List Nat} (h : okB n ns = true) {i : Nat} (hi : i < n) : lt ns i i = false := by
  have h1 := List.all_eq_true.1 h i (List.mem_range.2 hi)
  simp only [okRow, Bool.and_eq_true, Bool.not_eq_true'] at h1
  exact h1.1
theorem okB_tr {n : Nat} {ns : List Nat} (h : okB n ns = true) {i j k : Nat} (hi : i < n) (hk : k < n) (h1 : lt ns k i = true) (h2 : lt ns j k = true) : lt ns j i = true := by
  have h3 := List.all_eq_true.1 h i (List.mem_range.2 hi)
  simp only [okRow, Bool.and_eq_true] at h3
  have h4 := List.all_eq_true.1 h3.2 k (List.mem_range.2 hk)
  simp only [okPair, Bool.or_eq_true, Bool.not_eq_true', beq_iff_eq, h1] at h4
  rcases h4 with h4 | h4
  · cases h4
  · exact ndiff_zero.1 h4 j h2

/-- How many are below. -/
def rk (n : Nat) (ns : List Nat) (b : Nat) : Nat := (List.range n).countP fun a => lt ns a b
theorem countP_lt {p q : Nat → Bool} {x : Nat} : ∀ {l : List Nat}, (∀ y ∈ l, p y = true → q y = true) → x ∈ l → q x = true → p x = false → l.countP p < l.countP q
  | [], _, h, _, _ => by cases h
  | y :: l, h, hx, hq, hp => by
    have hle : l.countP p ≤ l.countP q := List.countP_mono_left fun z hz => h z (List.mem_cons_of_mem _ hz)
    simp only [List.countP_cons]
    rcases List.mem_cons.1 hx with rfl | hx
    · simp [hq, hp]; omega
    · have := countP_lt (l := l) (fun z hz => h z (List.mem_cons_of_mem _ hz)) hx hq hp
      have h1 := h y (by simp)
      cases hpy : p y
      · simp; omega
      · simp [h1 hpy]; omega
theorem rk_lt {n : Nat} {ns : List Nat} (h : okB n ns = true) {a b : Nat} (ha : a < n) (hb : b < n) (hl : lt ns a b = true) : rk n ns a < rk n ns b :=
  countP_lt (fun y _ hy => okB_tr h hb ha hl hy) (List.mem_range.2 ha) hl (okB_irr h ha)
/-- One step of the greatest. -/
def mx (p : Nat → Bool) (g : Nat → Nat) (j h : Nat) : Nat := if p j = true then max h (g j + 1) else h
def hF (n : Nat) (ns : List Nat) : Nat → Nat → Nat
  | 0, _ => 0
  | f + 1, b => iterN n (mx (fun j => lt ns j b) (hF n ns f)) 0
def hgt (n : Nat) (ns : List Nat) (b : Nat) : Nat := hF n ns (n + 1) b

/-! Rounds. -/
def rlx (ns : List Nat) (b a : Nat) (out : List Nat) : List Nat := if lt ns a b = true then out.set b (max (out.getD b 0) (out.getD a 0 + 1)) else out
def rlxB (n : Nat) (ns : List Nat) (b : Nat) (out : List Nat) : List Nat := iterN n (rlx ns b) out
def rlxR (n : Nat) (ns : List Nat) (_ : Nat) (out : List Nat) : List Nat := iterN n (rlxB n ns) out
def htP (n : Nat) (ns : List Nat) : List Nat := iterN n (rlxR n ns) (List.replicate n 0)

structure Hts (n : Nat) (ns : List Nat) (out : List Nat) : Prop where
  len : out.length = n
  le : ∀ b, b < n → out.getD b 0 ≤ hgt n ns b

theorem getD_set {l : List Nat} {i j v : Nat} : (l.set i v).getD j 0 = if i = j ∧ i < l.length then v else l.getD j 0 := by
  simp only [List.getD_eq_getElem?_getD, List.getElem?_set]
  by_cases h : i = j
  · subst h
    by_cases h2 : i < l.length
    · simp [h2]
    · simp [h2]
  · simp [h]

end Go.Proofs.YtdieojemgkfklaaDoor
