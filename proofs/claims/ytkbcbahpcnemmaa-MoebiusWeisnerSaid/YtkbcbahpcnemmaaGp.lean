import Derived.Test.YtkbcbahpcnemmaaGo
set_option linter.unusedSimpArgs false
set_option linter.unusedVariables false
set_option linter.unusedSectionVars false
set_option maxRecDepth 20000
namespace Go.Proofs.Ytkbcbahpcnemmaa
/-- Who on the right may be taken by the one of the left, besides those that are taken. -/
def free (to : List Nat) (a s b : Nat) : Bool := (to.getD a 0).testBit b && !s.testBit b
/-- Ways of the last f on the left, of l. -/
def mtc (r : Nat) (to : List Nat) (l : Nat) : Nat → Nat → Nat
  | 0, _ => 1
  | f + 1, s => sumTo (fun b => if free to (l - (f + 1)) s b = true then mtc r to l f (s ||| 2 ^ b) else 0) r
/-- What the ones of the left up to a make of ways: each of them told by those who are taken. f more are behind. -/
structure Wys (r : Nat) (to : List Nat) (l a : Nat) (w : List Nat) : Prop where
  len : w.length = 2 ^ r
  all : dot w (mtc r to l (l - a)) (2 ^ r) = mtc r to l l 0
  few : dot w (fun _ => 1) (2 ^ r) ≤ 10 ^ a
theorem Wys.le {r : Nat} {to : List Nat} {l a : Nat} {w : List Nat} (h : Wys r to l a w) (t : Nat) : w.getD t 0 ≤ 10 ^ a := by
  by_cases ht : t < 2 ^ r
  · have h1 : w.getD t 0 * 1 ≤ dot w (fun _ => 1) (2 ^ r) := sumTo_one (g := fun t => w.getD t 0 * (fun _ => 1) t) ht
    have h2 := h.few
    omega
  · rw [List.getD_eq_getElem?_getD, List.getElem?_eq_none (by have := h.len; omega)]
    exact Nat.zero_le _
theorem Wys.start (r : Nat) (to : List Nat) (l : Nat) : Wys r to l 0 ((List.replicate (2 ^ r) 0).set 0 1) := by
  have hp : 0 < 2 ^ r := Nat.pow_pos (by decide)
  have e : (List.replicate (2 ^ r) 0).set 0 1 = (List.replicate (2 ^ r) 0).set 0 ((List.replicate (2 ^ r) 0).getD 0 0 + 1) := by
    simp [List.getD_eq_getElem?_getD, hp]
  refine ⟨by simp, ?_, ?_⟩
  · rw [e, dot_set _ _ (by simpa using hp) _ hp, dot_rep]; simp
  · rw [e, dot_set _ _ (by simpa using hp) _ hp, dot_rep]; simp
theorem Wys.end {r : Nat} {to : List Nat} {l : Nat} {w : List Nat} (h : Wys r to l l w) : dot w (fun _ => 1) (2 ^ r) = mtc r to l l 0 := by
  rw [← h.all, Nat.sub_self]
  rfl
/-- Within one of the left: the sets below s are done, and of s those below b. -/
structure Nxs (r : Nat) (to : List Nat) (l a : Nat) (w : List Nat) (s b : Nat) (x : List Nat) : Prop where
  len : x.length = 2 ^ r
  all : dot x (mtc r to l (l - (a + 1))) (2 ^ r) = dot w (mtc r to l (l - a)) s + w.getD s 0 * sumTo (fun b => if free to a s b = true then mtc r to l (l - (a + 1)) (s ||| 2 ^ b) else 0) b
  few : dot x (fun _ => 1) (2 ^ r) ≤ 10 * dot w (fun _ => 1) s + w.getD s 0 * b
theorem Nxs.start (r : Nat) (to : List Nat) (l a : Nat) (w : List Nat) : Nxs r to l a w 0 0 (List.replicate (2 ^ r) 0) :=
  ⟨by simp, by rw [dot_rep]; simp [dot, sumTo], by rw [dot_rep]; exact Nat.zero_le _⟩
theorem Nxs.le {r : Nat} (hr : r ≤ 10) {to : List Nat} {l a : Nat} {w : List Nat} (h : Wys r to l a w) {s b : Nat} (hb : b ≤ r) (hs : s < 2 ^ r) {x : List Nat} (hx : Nxs r to l a w s b x) (t : Nat) : x.getD t 0 ≤ 10 * 10 ^ a := by
  by_cases ht : t < 2 ^ r
  · have h1 : x.getD t 0 * 1 ≤ dot x (fun _ => 1) (2 ^ r) := sumTo_one (g := fun t => x.getD t 0 * (fun _ => 1) t) ht
    have h2 := hx.few
    have h3 := h.few
    have h4 : dot w (fun _ => 1) (s + 1) ≤ dot w (fun _ => 1) (2 ^ r) := by
      obtain ⟨d, hd⟩ : ∃ d, 2 ^ r = s + 1 + d := ⟨2 ^ r - (s + 1), by omega⟩
      rw [hd]
      clear hd
      induction d with
      | zero => exact Nat.le_refl _
      | succ d ih => exact Nat.le_trans ih (Nat.le_add_right _ _)
    have h5 : dot w (fun _ => 1) (s + 1) = dot w (fun _ => 1) s + w.getD s 0 * 1 := rfl
    have h6 : w.getD s 0 * b ≤ w.getD s 0 * 10 := Nat.mul_le_mul_left _ (by omega)
    omega
  · rw [List.getD_eq_getElem?_getD, List.getElem?_eq_none (by have := hx.len; omega)]
    exact Nat.zero_le _
theorem Nxs.put {r : Nat} {to : List Nat} {l a : Nat} {w : List Nat} {s b : Nat} (hs : s < 2 ^ r) (hb : b < r) {x : List Nat} (hx : Nxs r to l a w s b x) (hf : free to a s b = true) :
    Nxs r to l a w s (b + 1) (x.set (s ||| 2 ^ b) (x.getD (s ||| 2 ^ b) 0 + w.getD s 0)) := by
  have hlt : s ||| 2 ^ b < 2 ^ r := Nat.or_lt_two_pow hs (Nat.pow_lt_pow_right (by decide) hb)
  have hl := hx.len
  refine ⟨by rw [List.length_set]; exact hl, ?_, ?_⟩
  · rw [dot_set _ _ (by omega) _ hlt, hx.all]
    show _ = _ + w.getD s 0 * (sumTo _ b + if free to a s b = true then mtc r to l (l - (a + 1)) (s ||| 2 ^ b) else 0)
    rw [if_pos hf, Nat.mul_add, Nat.add_assoc]
  · rw [dot_set _ _ (by omega) _ hlt]
    have := hx.few
    rw [Nat.mul_add]
    omega
theorem Nxs.skip {r : Nat} {to : List Nat} {l a : Nat} {w : List Nat} {s b : Nat} {x : List Nat} (hx : Nxs r to l a w s b x) (hf : free to a s b = false) : Nxs r to l a w s (b + 1) x := by
  refine ⟨hx.len, ?_, ?_⟩
  · rw [hx.all]
    show _ = _ + w.getD s 0 * (sumTo _ b + if free to a s b = true then mtc r to l (l - (a + 1)) (s ||| 2 ^ b) else 0)
    rw [if_neg (by rw [hf]; decide)]
    rfl
  · have := hx.few
    rw [Nat.mul_add]
    omega
theorem Nxs.next {r : Nat} (hr : r ≤ 10) {to : List Nat} {l a : Nat} (ha : a < l) {w : List Nat} {s : Nat} {x : List Nat} (hx : Nxs r to l a w s r x) : Nxs r to l a w (s + 1) 0 x := by
  have e2 : mtc r to l (l - a) s = sumTo (fun b => if free to a s b = true then mtc r to l (l - (a + 1)) (s ||| 2 ^ b) else 0) r := by
    rw [show l - a = (l - (a + 1)) + 1 by omega]
    show sumTo (fun b => if free to (l - (l - (a + 1) + 1)) s b = true then mtc r to l (l - (a + 1)) (s ||| 2 ^ b) else 0) r = _
    rw [show l - (l - (a + 1) + 1) = a by omega]
  refine ⟨hx.len, ?_, ?_⟩
  · rw [hx.all]
    show _ = (dot w (mtc r to l (l - a)) s + w.getD s 0 * mtc r to l (l - a) s) + w.getD (s + 1) 0 * 0
    rw [e2]
    rfl
  · have h1 := hx.few
    have h2 : w.getD s 0 * r ≤ w.getD s 0 * 10 := Nat.mul_le_mul_left _ hr
    have h3 : dot w (fun _ => 1) (s + 1) = dot w (fun _ => 1) s + w.getD s 0 * 1 := rfl
    rw [h3]
    omega
theorem Nxs.end {r : Nat} {to : List Nat} {l a : Nat} {w : List Nat} (hw : Wys r to l a w) {x : List Nat} (hx : Nxs r to l a w (2 ^ r) 0 x) : Wys r to l (a + 1) x := by
  refine ⟨hx.len, ?_, ?_⟩
  · rw [hx.all, Nat.add_comm, ← hw.all]
    simp [sumTo]
  · have h1 := hx.few
    have h2 := hw.few
    rw [Nat.pow_succ]
    omega
end Go.Proofs.Ytkbcbahpcnemmaa
