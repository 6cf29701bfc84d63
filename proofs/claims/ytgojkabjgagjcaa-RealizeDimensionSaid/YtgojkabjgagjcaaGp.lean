import Derived.Test.YtgojkabjgagjcaaFc
import Derived.Test.YtgojkabjgagjcaaCf
import Derived.Test.YtgojkabjgagjcaaFkb
set_option linter.unusedSimpArgs false
set_option linter.unusedVariables false
set_option linter.unusedSectionVars false
set_option maxRecDepth 20000
namespace Go.Proofs.Ytgojkabjgagjcaa
attribute [local irreducible] QOp aL aC qL
abbrev ctx (T M : Int) (l : List Int) : AV := .agg [.val (.int .i64 T), .val (.int .i64 M), ints l]
def cbad (M : Nat) (x : Int) : Prop := x < 0 ∨ x / 2 ^ M ≠ 0
instance (M : Nat) (x : Int) : Decidable (cbad M x) := inferInstanceAs (Decidable (_ ∨ _))
def cchk (T M : Int) (l : List Int) : Int :=
  if T < 0 ∨ 10 < T ∨ M < 0 ∨ 10 < M then 2 else if (l.length : Int) ≠ T then 1 else if ∃ x ∈ l, cbad M.toNat x then 3 else 0
theorem cchk_0 {t m : Nat} {l : List Int} (ht : t ≤ 10) (hm : m ≤ 10) (hl : l.length = t) (h : ∀ k, k < t → ¬ cbad m (l.getD k 0)) : cchk t m l = 0 := by
  unfold cchk
  rw [if_neg (by omega), if_neg (by omega), if_neg]
  rintro ⟨x, hx, hb⟩
  obtain ⟨i, hi, rfl⟩ := List.getElem_of_mem hx
  rw [Int.toNat_natCast, ← getD_of hi 0] at hb
  exact h i (by omega) hb
/-- A context of which nothing is wrong. -/
structure Ctx (t m : Nat) (ns : List Nat) : Prop where
  ht : t ≤ 10
  hm : m ≤ 10
  len : ns.length = t
  lt : ∀ x ∈ ns, x < 2 ^ m
theorem Ctx.get {t m : Nat} {ns : List Nat} (h : Ctx t m ns) (k : Nat) : ns.getD k 0 < 2 ^ m := by
  rw [List.getD_eq_getElem?_getD]
  cases hk : ns[k]? with
  | none => exact Nat.pow_pos (by decide)
  | some x => exact h.lt x (List.mem_of_getElem? hk)
theorem pow10 {m : Nat} (h : m ≤ 10) : 2 ^ m ≤ 1024 := Nat.pow_le_pow_right (by decide) h
theorem Ctx.le {t m : Nat} {ns : List Nat} (h : Ctx t m ns) (k : Nat) : ns.getD k 0 < 1024 := Nat.lt_of_lt_of_le (h.get k) (pow10 h.hm)
theorem Ctx.chk {t m : Nat} {ns : List Nat} (h : Ctx t m ns) : cchk t m (nl ns) = 0 :=
  cchk_0 h.ht h.hm (by rw [nl_len]; exact h.len) fun k hk => by
    have := h.get k
    rw [nl_get]
    rintro (hb | hb)
    · omega
    · have h6 : (((ns.getD k 0 : Nat) : Int) / 2 ^ m) = ((ns.getD k 0 / 2 ^ m : Nat) : Int) := by simp
      rw [h6, Nat.div_eq_of_lt this] at hb
      exact hb rfl

/-! Marks of things. -/
def marksTo (m : Nat) (ns : List Nat) (s : Nat) : Nat → Nat
  | 0 => 2 ^ m - 1
  | k + 1 => if s.testBit k = true then marksTo m ns s k &&& ns.getD k 0 else marksTo m ns s k
def marksN (m : Nat) (ns : List Nat) (s : Nat) : Nat := marksTo m ns s ns.length
def thingsTo (ns : List Nat) (q : Nat) : Nat → Nat
  | 0 => 0
  | k + 1 => if sub q (ns.getD k 0) = true then thingsTo ns q k ||| 2 ^ k else thingsTo ns q k
def thingsN (ns : List Nat) (q : Nat) : Nat := thingsTo ns q ns.length
end Go.Proofs.Ytgojkabjgagjcaa
set_option linter.unusedSimpArgs false
set_option linter.unusedVariables false
set_option linter.unusedSectionVars false
set_option maxRecDepth 20000
namespace Go.Proofs.Ytgojkabjgagjcaa
attribute [local irreducible] QOp aL aC qL
/-- With whom the first k of a set may go. -/
def orTo (to : List Nat) (s : Nat) : Nat → Nat
  | 0 => 0
  | k + 1 => if s.testBit k = true then orTo to s k ||| to.getD k 0 else orTo to s k
theorem orTo_lt {l r : Nat} {to : List Nat} (hc : Ctx l r to) (s : Nat) : ∀ k, orTo to s k < 2 ^ r
  | 0 => Nat.pow_pos (by decide)
  | k + 1 => by
    rw [orTo]
    split
    · exact Nat.or_lt_two_pow (orTo_lt hc s k) (hc.get k)
    · exact orTo_lt hc s k
def wTo (to : List Nat) (s j : Nat) : Nat → Bool
  | 0 => false
  | k + 1 => wTo to s j k || (s.testBit k && (to.getD k 0).testBit j)
theorem orTo_bit (to : List Nat) (s j : Nat) : ∀ k, (orTo to s k).testBit j = wTo to s j k
  | 0 => Nat.zero_testBit j
  | k + 1 => by
    rw [orTo, wTo]
    cases hq : s.testBit k
    · rw [if_neg (by decide), orTo_bit to s j k]; simp
    · rw [if_pos rfl, Nat.testBit_or, orTo_bit to s j k]; simp
/-! Lacks. -/
def lackB (l : Nat) (to : List Nat) (s : Nat) : Bool := decide (pcTo (orTo to s l) 10 < pcTo s 10)
def lackO (l : Nat) (to : List Nat) : Option Nat := (List.range (2 ^ l)).find? (lackB l to)
end Go.Proofs.Ytgojkabjgagjcaa
set_option linter.unusedSimpArgs false
set_option linter.unusedVariables false
set_option linter.unusedSectionVars false
set_option maxRecDepth 20000
namespace Go.Proofs.Ytgojkabjgagjcaa
/-- Who on the right may be taken by the one of the left, besides those that are taken. -/
def free (to : List Nat) (a s b : Nat) : Bool := (to.getD a 0).testBit b && !s.testBit b
/-- Ways of the last f on the left, of l. -/
def mtc (r : Nat) (to : List Nat) (l : Nat) : Nat → Nat → Nat
  | 0, _ => 1
  | f + 1, s => sumTo (fun b => if free to (l - (f + 1)) s b = true then mtc r to l f (s ||| 2 ^ b) else 0) r
/-- What the ones of the left up to a make of ways: each of them told by those who are taken. f more are behind. -/
structure Wys (r : Nat) (to : List Nat) (l a : Nat) (w : List Nat) : Prop where
  len : w.length = 2 ^ r
  all : dot w (mtc r to l (l - a)) (2 ^ r) = mtc r to l l 0
  few : dot w (fun _ => 1) (2 ^ r) ≤ 10 ^ a
theorem Wys.le {r : Nat} {to : List Nat} {l a : Nat} {w : List Nat} (h : Wys r to l a w) (t : Nat) : w.getD t 0 ≤ 10 ^ a := by
  by_cases ht : t < 2 ^ r
  · have h1 : w.getD t 0 * 1 ≤ dot w (fun _ => 1) (2 ^ r) := sumTo_one (g := fun t => w.getD t 0 * (fun _ => 1) t) ht
    have h2 := h.few
    omega
  · rw [List.getD_eq_getElem?_getD, List.getElem?_eq_none (by have := h.len; omega)]
    exact Nat.zero_le _
theorem Wys.start (r : Nat) (to : List Nat) (l : Nat) : Wys r to l 0 ((List.replicate (2 ^ r) 0).set 0 1) := by
  have hp : 0 < 2 ^ r := Nat.pow_pos (by decide)
  have e : (List.replicate (2 ^ r) 0).set 0 1 = (List.replicate (2 ^ r) 0).set 0 ((List.replicate (2 ^ r) 0).getD 0 0 + 1) := by
    simp [List.getD_eq_getElem?_getD, hp]
  refine ⟨by simp, ?_, ?_⟩
  · rw [e, dot_set _ _ (by simpa using hp) _ hp, dot_rep]; simp
  · rw [e, dot_set _ _ (by simpa using hp) _ hp, dot_rep]; simp
theorem Wys.end {r : Nat} {to : List Nat} {l : Nat} {w : List Nat} (h : Wys r to l l w) : dot w (fun _ => 1) (2 ^ r) = mtc r to l l 0 := by
  rw [← h.all, Nat.sub_self]
  rfl
/-- Within one of the left: the sets below s are done, and of s those below b. -/
structure Nxs (r : Nat) (to : List Nat) (l a : Nat) (w : List Nat) (s b : Nat) (x : List Nat) : Prop where
  len : x.length = 2 ^ r
  all : dot x (mtc r to l (l - (a + 1))) (2 ^ r) = dot w (mtc r to l (l - a)) s + w.getD s 0 * sumTo (fun b => if free to a s b = true then mtc r to l (l - (a + 1)) (s ||| 2 ^ b) else 0) b
  few : dot x (fun _ => 1) (2 ^ r) ≤ 10 * dot w (fun _ => 1) s + w.getD s 0 * b
theorem Nxs.start (r : Nat) (to : List Nat) (l a : Nat) (w : List Nat) : Nxs r to l a w 0 0 (List.replicate (2 ^ r) 0) :=
  ⟨by simp, by rw [dot_rep]; simp [dot, sumTo], by rw [dot_rep]; exact Nat.zero_le _⟩
theorem Nxs.le {r : Nat} (hr : r ≤ 10) {to : List Nat} {l a : Nat} {w : List Nat} (h : Wys r to l a w) {s b : Nat} (hb : b ≤ r) (hs : s < 2 ^ r) {x : List Nat} (hx : Nxs r to l a w s b x) (t : Nat) : x.getD t 0 ≤ 10 * 10 ^ a := by
  by_cases ht : t < 2 ^ r
  · have h1 : x.getD t 0 * 1 ≤ dot x (fun _ => 1) (2 ^ r) := sumTo_one (g := fun t => x.getD t 0 * (fun _ => 1) t) ht
    have h2 := hx.few
    have h3 := h.few
    have h4 : dot w (fun _ => 1) (s + 1) ≤ dot w (fun _ => 1) (2 ^ r) := by
      obtain ⟨d, hd⟩ : ∃ d, 2 ^ r = s + 1 + d := ⟨2 ^ r - (s + 1), by omega⟩
      rw [hd]
      clear hd
      induction d with
      | zero => exact Nat.le_refl _
      | succ d ih => exact Nat.le_trans ih (Nat.le_add_right _ _)
    have h5 : dot w (fun _ => 1) (s + 1) = dot w (fun _ => 1) s + w.getD s 0 * 1 := rfl
    have h6 : w.getD s 0 * b ≤ w.getD s 0 * 10 := Nat.mul_le_mul_left _ (by omega)
    omega
  · rw [List.getD_eq_getElem?_getD, List.getElem?_eq_none (by have := hx.len; omega)]
    exact Nat.zero_le _
theorem Nxs.put {r : Nat} {to : List Nat} {l a : Nat} {w : List Nat} {s b : Nat} (hs : s < 2 ^ r) (hb : b < r) {x : List Nat} (hx : Nxs r to l a w s b x) (hf : free to a s b = true) :
    Nxs r to l a w s (b + 1) (x.set (s ||| 2 ^ b) (x.getD (s ||| 2 ^ b) 0 + w.getD s 0)) := by
  have hlt : s ||| 2 ^ b < 2 ^ r := Nat.or_lt_two_pow hs (Nat.pow_lt_pow_right (by decide) hb)
  have hl := hx.len
  refine ⟨by rw [List.length_set]; exact hl, ?_, ?_⟩
  · rw [dot_set _ _ (by omega) _ hlt, hx.all]
    show _ = _ + w.getD s 0 * (sumTo _ b + if free to a s b = true then mtc r to l (l - (a + 1)) (s ||| 2 ^ b) else 0)
    rw [if_pos hf, Nat.mul_add, Nat.add_assoc]
  · rw [dot_set _ _ (by omega) _ hlt]
    have := hx.few
    rw [Nat.mul_add]
    omega
theorem Nxs.skip {r : Nat} {to : List Nat} {l a : Nat} {w : List Nat} {s b : Nat} {x : List Nat} (hx : Nxs r to l a w s b x) (hf : free to a s b = false) : Nxs r to l a w s (b + 1) x := by
  refine ⟨hx.len, ?_, ?_⟩
  · rw [hx.all]
    show _ = _ + w.getD s 0 * (sumTo _ b + if free to a s b = true then mtc r to l (l - (a + 1)) (s ||| 2 ^ b) else 0)
    rw [if_neg (by rw [hf]; decide)]
    rfl
  · have := hx.few
    rw [Nat.mul_add]
    omega
theorem Nxs.next {r : Nat} (hr : r ≤ 10) {to : List Nat} {l a : Nat} (ha : a < l) {w : List Nat} {s : Nat} {x : List Nat} (hx : Nxs r to l a w s r x) : Nxs r to l a w (s + 1) 0 x := by
  have e2 : mtc r to l (l - a) s = sumTo (fun b => if free to a s b = true then mtc r to l (l - (a + 1)) (s ||| 2 ^ b) else 0) r := by
    rw [show l - a = (l - (a + 1)) + 1 by omega]
    show sumTo (fun b => if free to (l - (l - (a + 1) + 1)) s b = true then mtc r to l (l - (a + 1)) (s ||| 2 ^ b) else 0) r = _
    rw [show l - (l - (a + 1) + 1) = a by omega]
  refine ⟨hx.len, ?_, ?_⟩
  · rw [hx.all]
    show _ = (dot w (mtc r to l (l - a)) s + w.getD s 0 * mtc r to l (l - a) s) + w.getD (s + 1) 0 * 0
    rw [e2]
    rfl
  · have h1 := hx.few
    have h2 : w.getD s 0 * r ≤ w.getD s 0 * 10 := Nat.mul_le_mul_left _ hr
    have h3 : dot w (fun _ => 1) (s + 1) = dot w (fun _ => 1) s + w.getD s 0 * 1 := rfl
    rw [h3]
    omega
theorem Nxs.end {r : Nat} {to : List Nat} {l a : Nat} {w : List Nat} (hw : Wys r to l a w) {x : List Nat} (hx : Nxs r to l a w (2 ^ r) 0 x) : Wys r to l (a + 1) x := by
  refine ⟨hx.len, ?_, ?_⟩
  · rw [hx.all, Nat.add_comm, ← hw.all]
    simp [sumTo]
  · have h1 := hx.few
    have h2 := hw.few
    rw [Nat.pow_succ]
    omega
end Go.Proofs.Ytgojkabjgagjcaa
