import Derived.Test.YtgojkabjgagjcaaEngA
import Derived.Test.YtgojkabjgagjcaaFf
import Derived.Test.YtgojkabjgagjcaaCf
set_option linter.unusedSimpArgs false
set_option linter.unusedVariables false
set_option linter.unusedSectionVars false
set_option maxRecDepth 20000
namespace Go.Proofs.Ytgojkabjgagjcaa
def sumTo (g : Nat → Nat) : Nat → Nat
  | 0 => 0
  | k + 1 => sumTo g k + g k
theorem sumTo_congr {g g' : Nat → Nat} : ∀ {k : Nat}, (∀ i, i < k → g i = g' i) → sumTo g k = sumTo g' k
  | 0, _ => rfl
  | k + 1, h => by
    show sumTo g k + g k = sumTo g' k + g' k
    rw [sumTo_congr (k := k) fun i hi => h i (by omega), h k (by omega)]
theorem sumTo_le {g : Nat → Nat} {M : Nat} (h : ∀ i, g i ≤ M) : ∀ k, sumTo g k ≤ k * M
  | 0 => by simp [sumTo]
  | k + 1 => by
    have := sumTo_le h k
    have := h k
    show sumTo g k + g k ≤ _
    rw [Nat.succ_mul]; omega
theorem sumTo_zero {g : Nat → Nat} : ∀ {k : Nat}, (∀ i, i < k → g i = 0) → sumTo g k = 0
  | 0, _ => rfl
  | k + 1, h => by
    show sumTo g k + g k = 0
    rw [sumTo_zero (k := k) fun i hi => h i (by omega), h k (by omega)]
theorem sumTo_pos {g : Nat → Nat} : ∀ {k : Nat}, sumTo g k ≠ 0 → ∃ i, i < k ∧ g i ≠ 0
  | 0, h => absurd rfl h
  | k + 1, h => by
    by_cases hk : g k = 0
    · have h' : sumTo g k ≠ 0 := fun h2 => h (by show sumTo g k + g k = 0; omega)
      obtain ⟨i, hi, h3⟩ := sumTo_pos h'
      exact ⟨i, by omega, h3⟩
    · exact ⟨k, by omega, hk⟩
theorem sumTo_one {g : Nat → Nat} : ∀ {k i : Nat}, i < k → g i ≤ sumTo g k
  | 0, i, h => by omega
  | k + 1, i, h => by
    show g i ≤ sumTo g k + g k
    by_cases hi : i = k
    · subst hi; omega
    · have := sumTo_one (g := g) (k := k) (i := i) (by omega)
      omega
/-- A list of numbers, each of them taken so many times. -/
def dot (w : List Nat) (m : Nat → Nat) (k : Nat) : Nat := sumTo (fun t => w.getD t 0 * m t) k
theorem getD_setS (l : List Nat) (x v b : Nat) (hx : x < l.length) : (l.set x v).getD b 0 = if b = x then v else l.getD b 0 := by
  simp only [List.getD_eq_getElem?_getD, List.getElem?_set]
  by_cases h : x = b
  · subst h; simp [hx]
  · simp [h, Ne.symm h]
theorem dot_out (w : List Nat) (m : Nat → Nat) {i v : Nat} (hl : i < w.length) : ∀ k, k ≤ i → dot (w.set i v) m k = dot w m k
  | 0, _ => rfl
  | k + 1, h => by
    show dot (w.set i v) m k + (w.set i v).getD k 0 * m k = dot w m k + w.getD k 0 * m k
    rw [dot_out w m hl k (by omega), getD_setS _ _ _ _ hl, if_neg (by omega)]
theorem dot_set (w : List Nat) (m : Nat → Nat) {i n : Nat} (hl : i < w.length) : ∀ k, i < k → dot (w.set i (w.getD i 0 + n)) m k = dot w m k + n * m i
  | 0, h => by omega
  | k + 1, h => by
    show dot (w.set i (w.getD i 0 + n)) m k + (w.set i (w.getD i 0 + n)).getD k 0 * m k = dot w m k + w.getD k 0 * m k + n * m i
    by_cases hi : i = k
    · subst hi
      rw [dot_out w m hl i (Nat.le_refl i), getD_setS _ _ _ _ hl, if_pos rfl, Nat.add_mul]
      omega
    · rw [dot_set w m hl k (by omega), getD_setS _ _ _ _ hl, if_neg (Ne.symm hi)]
      omega
theorem dot_rep (n : Nat) (m : Nat → Nat) (k : Nat) : dot (List.replicate n 0) m k = 0 := sumTo_zero fun i _ => by
  rw [List.getD_eq_getElem?_getD, List.getElem?_replicate]
  split <;> simp
end Go.Proofs.Ytgojkabjgagjcaa
set_option linter.unusedSimpArgs false
set_option linter.unusedVariables false
set_option linter.unusedSectionVars false
set_option maxRecDepth 20000
namespace Go.Proofs.Ytgojkabjgagjcaa
attribute [local irreducible] QOp aL aC qL
def okP (N : Int) (p : Int × Int) : Bool := decide (0 ≤ p.1 ∧ p.1 < N ∧ 0 ≤ p.2 ∧ p.2 < N)
def toN (l : List (Int × Int)) : List (Nat × Nat) := l.map fun p => (p.1.toNat, p.2.toNat)
/-- What the program answers: the error's number. -/
def mkE (N : Int) (l : List (Int × Int)) : Int := if N < 0 ∨ 10 < N then 2 else if l.all (okP N) = false then 3 else if irr N.toNat (clos N.toNat (toN l)) = true then 0 else 4
def mkA (N e : Int) : AV := bif decide (e = 0) then .tup [.agg [.val (.int .i64 N), .own 0], .val (.int .i64 0)] else .tup [.agg [.val (.int .i64 0), .val (.slice none 0 0)], .val (.int .i64 e)]
def mkO (t : TypeId) (N : Int) (l : List (Int × Int)) (e : Int) : List AO := bif decide (e = 0) then [.row t 1 (intc (nl (clos N.toNat (toN l))))] else []

end Go.Proofs.Ytgojkabjgagjcaa
set_option linter.unusedSimpArgs false
set_option linter.unusedVariables false
set_option linter.unusedSectionVars false
set_option maxRecDepth 20000
namespace Go.Proofs.Ytgojkabjgagjcaa

theorem iterN_congr {α : Type} {f g : Nat → α → α} {x : α} : ∀ {k : Nat}, (∀ i y, i < k → f i y = g i y) → iterN k f x = iterN k g x
  | 0, _ => rfl
  | k + 1, h => by
    show f k (iterN k f x) = g k (iterN k g x)
    rw [iterN_congr (k := k) (fun i y hi => h i y (by omega)), h k _ (by omega)]

theorem okB_irr {n : Nat} {ns : List Nat} (h : okB n ns = true) {i : Nat} (hi : i < n) : lt ns i i = false := by
  have h1 := List.all_eq_true.1 h i (List.mem_range.2 hi)
  simp only [okRow, Bool.and_eq_true, Bool.not_eq_true'] at h1
  exact h1.1
theorem okB_tr {n : Nat} {ns : List Nat} (h : okB n ns = true) {i j k : Nat} (hi : i < n) (hk : k < n) (h1 : lt ns k i = true) (h2 : lt ns j k = true) : lt ns j i = true := by
  have h3 := List.all_eq_true.1 h i (List.mem_range.2 hi)
  simp only [okRow, Bool.and_eq_true] at h3
  have h4 := List.all_eq_true.1 h3.2 k (List.mem_range.2 hk)
  simp only [okPair, Bool.or_eq_true, Bool.not_eq_true', beq_iff_eq, h1] at h4
  rcases h4 with h4 | h4
  · cases h4
  · exact ndiff_zero.1 h4 j h2

/-- How many are below. -/
def rk (n : Nat) (ns : List Nat) (b : Nat) : Nat := (List.range n).countP fun a => lt ns a b
theorem countP_lt {p q : Nat → Bool} {x : Nat} : ∀ {l : List Nat}, (∀ y ∈ l, p y = true → q y = true) → x ∈ l → q x = true → p x = false → l.countP p < l.countP q
  | [], _, h, _, _ => by cases h
  | y :: l, h, hx, hq, hp => by
    have hle : l.countP p ≤ l.countP q := List.countP_mono_left fun z hz => h z (List.mem_cons_of_mem _ hz)
    simp only [List.countP_cons]
    rcases List.mem_cons.1 hx with rfl | hx
    · simp [hq, hp]; omega
    · have := countP_lt (l := l) (fun z hz => h z (List.mem_cons_of_mem _ hz)) hx hq hp
      have h1 := h y (by simp)
      cases hpy : p y
      · simp; omega
      · simp [h1 hpy]; omega
theorem rk_lt {n : Nat} {ns : List Nat} (h : okB n ns = true) {a b : Nat} (ha : a < n) (hb : b < n) (hl : lt ns a b = true) : rk n ns a < rk n ns b :=
  countP_lt (fun y _ hy => okB_tr h hb ha hl hy) (List.mem_range.2 ha) hl (okB_irr h ha)
theorem rk_le (n : Nat) (ns : List Nat) (b : Nat) : rk n ns b ≤ n := by
  unfold rk
  have := List.countP_le_length (p := fun a => lt ns a b) (l := List.range n)
  simpa using this

/-- One step of the greatest. -/
def mx (p : Nat → Bool) (g : Nat → Nat) (j h : Nat) : Nat := if p j = true then max h (g j + 1) else h
theorem mx_ge {p : Nat → Bool} {g : Nat → Nat} : ∀ {n j : Nat}, j < n → p j = true → g j + 1 ≤ iterN n (mx p g) 0
  | 0, j, h, _ => by omega
  | n + 1, j, h, hp => by
    show _ ≤ mx p g n (iterN n (mx p g) 0)
    unfold mx
    by_cases hj : j = n
    · subst hj
      rw [if_pos hp]
      omega
    · have := mx_ge (p := p) (g := g) (n := n) (j := j) (by omega) hp
      unfold mx at this
      split <;> omega
def hF (n : Nat) (ns : List Nat) : Nat → Nat → Nat
  | 0, _ => 0
  | f + 1, b => iterN n (mx (fun j => lt ns j b) (hF n ns f)) 0
def hgt (n : Nat) (ns : List Nat) (b : Nat) : Nat := hF n ns (n + 1) b

theorem mx_congr {p : Nat → Bool} {g g' : Nat → Nat} {n : Nat} (h : ∀ j, j < n → p j = true → g j = g' j) : iterN n (mx p g) 0 = iterN n (mx p g') 0 :=
  iterN_congr fun i y hi => by
    unfold mx
    split
    · rename_i hp; rw [h i hi hp]
    · rfl
theorem hF_fuel {n : Nat} {ns : List Nat} (h : okB n ns = true) : ∀ (f : Nat) (b : Nat), b < n → rk n ns b < f → ∀ f', f ≤ f' → hF n ns f' b = hF n ns f b
  | 0, _, _, hr, _, _ => by omega
  | f + 1, b, hb, hr, f', hf => by
    obtain ⟨g, rfl⟩ : ∃ g, f' = g + 1 := ⟨f' - 1, by omega⟩
    exact mx_congr fun j hj hl => hF_fuel h f j hj (by have := rk_lt h hj hb hl; omega) g (by omega)
theorem hgt_eq {n : Nat} {ns : List Nat} (h : okB n ns = true) {b : Nat} (hb : b < n) : hgt n ns b = iterN n (mx (fun j => lt ns j b) (hgt n ns)) 0 :=
  mx_congr fun j hj hl => (hF_fuel h n j hj (by have := rk_lt h hj hb hl; have := rk_le n ns b; omega) (n + 1) (by omega)).symm
theorem hgt_up {n : Nat} {ns : List Nat} (h : okB n ns = true) {a b : Nat} (ha : a < n) (hb : b < n) (hl : lt ns a b = true) : hgt n ns a + 1 ≤ hgt n ns b := by
  rw [hgt_eq h hb]
  exact mx_ge (p := fun j => lt ns j b) (g := hgt n ns) ha hl
/-! Rounds. -/
def rlx (ns : List Nat) (b a : Nat) (out : List Nat) : List Nat := if lt ns a b = true then out.set b (max (out.getD b 0) (out.getD a 0 + 1)) else out
def rlxB (n : Nat) (ns : List Nat) (b : Nat) (out : List Nat) : List Nat := iterN n (rlx ns b) out
def rlxR (n : Nat) (ns : List Nat) (_ : Nat) (out : List Nat) : List Nat := iterN n (rlxB n ns) out
def htP (n : Nat) (ns : List Nat) : List Nat := iterN n (rlxR n ns) (List.replicate n 0)

structure Hts (n : Nat) (ns : List Nat) (out : List Nat) : Prop where
  len : out.length = n
  le : ∀ b, b < n → out.getD b 0 ≤ hgt n ns b

theorem getD_set {l : List Nat} {i j v : Nat} : (l.set i v).getD j 0 = if i = j ∧ i < l.length then v else l.getD j 0 := by
  simp only [List.getD_eq_getElem?_getD, List.getElem?_set]
  by_cases h : i = j
  · subst h
    by_cases h2 : i < l.length
    · simp [h2]
    · simp [h2]
  · simp [h]

end Go.Proofs.Ytgojkabjgagjcaa
set_option linter.unusedSimpArgs false
set_option linter.unusedVariables false
set_option linter.unusedSectionVars false
set_option maxRecDepth 20000
namespace Go.Proofs.Ytgojkabjgagjcaa
attribute [local irreducible] QOp aL aC qL
theorem p2_10 {n : Nat} (h : n ≤ 10) : 2 ^ n ≤ 1024 := Nat.pow_le_pow_right (by decide) h
abbrev ordv (N : Int) (l : List Int) : AV := .agg [.val (.int .i64 N), ints l]
theorem chk_zero {N : Int} {l : List Int} (h : chk N l = 0) : ∃ (n : Nat) (ns : List Nat), N = n ∧ l = nl ns ∧ n ≤ 10 ∧ Vld n ns ∧ okB n ns = true := by
  by_cases h1 : N < 0 ∨ 10 < N
  · rw [chk, if_pos h1] at h; cases h
  by_cases h2 : (l.length : Int) ≠ N
  · rw [chk, if_neg h1, if_pos h2] at h; cases h
  obtain ⟨n, rfl⟩ : ∃ n : Nat, N = n := ⟨N.toNat, by omega⟩
  by_cases h3 : ∃ x ∈ l, x < 0 ∨ x / 2 ^ n ≠ 0
  · rw [chk, if_neg h1, if_neg h2, if_pos (by simpa using h3)] at h; cases h
  have hl : l.length = n := by omega
  obtain ⟨ns, rfl, hns⟩ := nl_valid hl (fun j hj => by
    have hm : l.getD j 0 ∈ l := by rw [List.getD_eq_getElem?_getD, List.getElem?_eq_getElem (by omega)]; exact List.getElem_mem _
    have := fun hx => h3 ⟨_, hm, hx⟩
    constructor
    · by_cases hq : l.getD j 0 < 0
      · exact absurd (.inl hq) this
      · omega
    · by_cases hq : l.getD j 0 / 2 ^ n = 0
      · exact hq
      · exact absurd (.inr hq) this)
  have hl' : ns.length = n := by rw [← hl, nl_len]
  rw [chk_nl (by omega) hl' hns] at h
  refine ⟨n, ns, rfl, rfl, by omega, ⟨hl', hns⟩, ?_⟩
  cases hq : okB n ns
  · rw [hq] at h; cases h
  · rfl
theorem chk_ok {n : Nat} {ns : List Nat} (hn : n ≤ 10) (hv : Vld n ns) (hok : okB n ns = true) : chk n (nl ns) = 0 := by rw [chk_nl hn hv.1 hv.2, if_pos hok]
def uptoB (ns : List Nat) (a b : Nat) : Bool := decide (a = b) || lt ns a b
end Go.Proofs.Ytgojkabjgagjcaa
