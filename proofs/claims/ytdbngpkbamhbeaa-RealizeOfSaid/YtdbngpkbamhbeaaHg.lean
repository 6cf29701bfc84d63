import Derived.Test.YtdbngpkbamhbeaaHf
import Derived.Test.YtdbngpkbamhbeaaHd
set_option linter.unusedSimpArgs false
set_option linter.unusedVariables false
set_option linter.unusedSectionVars false
set_option maxRecDepth 20000
namespace Go.Proofs.Ytdbngpkbamhbeaa
attribute [local irreducible] QOp aL aC qL
theorem sumTo_at {g : Nat → Nat} {p : Nat} : ∀ {k : Nat}, p < k → g p ≤ sumTo g k
  | 0, h => by omega
  | k + 1, h => by
    show g p ≤ sumTo g k + g k
    by_cases hp : p = k
    · subst hp; omega
    · have := sumTo_at (g := g) (p := p) (k := k) (by omega)
      omega
theorem may_ex {n : Nat} {ns : List Nat} (hv : Vld n ns) (hok : okB n ns = true) {s : Nat} : ∀ h i, i < n → hgt n ns i ≤ h → s.testBit i = false → ∃ p, p < n ∧ mayO ns s p = true
  | h, i, hi, hh, hs => by
    by_cases hsub : sub (ns.getD i 0) s = true
    · exact ⟨i, hi, by unfold mayO; rw [hs, hsub]; rfl⟩
    · have : ∃ j, (ns.getD i 0).testBit j = true ∧ s.testBit j = false := by
        rcases Classical.em (∃ j, (ns.getD i 0).testBit j = true ∧ s.testBit j = false) with h1 | h1
        · exact h1
        · exfalso
          apply hsub
          rw [sub_iff]
          intro j hj
          cases hq : s.testBit j
          · exact absurd ⟨j, hj, hq⟩ h1
          · rfl
      obtain ⟨j, hj1, hj2⟩ := this
      have hjn : j < n := by
        rcases Nat.lt_or_ge j n with h1 | h1
        · exact h1
        · rw [Nat.testBit_lt_two_pow (Nat.lt_of_lt_of_le (hv.get i) (Nat.pow_le_pow_right (by decide) h1))] at hj1
          cases hj1
      have hup := hgt_up hok hjn hi hj1
      match h with
      | 0 => omega
      | h + 1 => exact may_ex hv hok h j hjn (by omega) hj2
theorem cnt_pos {n : Nat} {ns : List Nat} (hv : Vld n ns) (hok : okB n ns = true) : ∀ f s, mis n s = f → 1 ≤ cnt n (mayO ns) f s
  | 0, s, _ => Nat.le_refl 1
  | f + 1, s, h => by
    have : ∃ i, i < n ∧ s.testBit i = false := by
      rcases Classical.em (∃ i, i < n ∧ s.testBit i = false) with h1 | h1
      · exact h1
      · exfalso
        have := (mis_zero (n := n) (s := s)).2 fun i hi => by
          cases hq : s.testBit i
          · exact absurd ⟨i, hi, hq⟩ h1
          · rfl
        omega
    obtain ⟨i, hi, hs⟩ := this
    obtain ⟨p, hp, hm⟩ := may_ex hv hok _ i hi (Nat.le_refl _) hs
    have h2 := sumTo_at (g := fun p => if mayO ns s p = true then cnt n (mayO ns) f (s ||| 2 ^ p) else 0) hp
    have h3 := mis_add (mayO_not hm) hp
    have h4 := cnt_pos hv hok f (s ||| 2 ^ p) (by omega)
    simp only [hm, if_true] at h2
    show 1 ≤ sumTo _ n
    omega
theorem rest_pos {n : Nat} {ns : List Nat} (hv : Vld n ns) (hok : okB n ns = true) (s : Nat) : 1 ≤ rest n (mayO ns) s := cnt_pos hv hok _ s rfl
/-! The row of a number. -/
theorem nst_get {n : Nat} {may : Nat → Nat → Bool} {k0 : Nat} : ∀ j i, i < j → (nst n may k0 j).2.2.length = j → ((∀ m, m ≤ j → (nst n may k0 m).2.2.length = m)) → (nst n may k0 j).2.2.getD i 0 = pk n may (nst n may k0 i).1 (nst n may k0 i).2.1
  | 0, i, h, _, _ => by omega
  | j + 1, i, h, hl, ha => by
    have hj := ha j (by omega)
    show ((nst n may k0 j).2.2 ++ [_]).getD i 0 = _
    by_cases hi : i = j
    · subst hi
      rw [List.getD_eq_getElem?_getD, List.getElem?_append_right (by omega), hj, Nat.sub_self]; rfl
    · have ih := nst_get (n := n) (may := may) (k0 := k0) j i (by omega) hj fun m hm => ha m (by omega)
      rw [← ih]
      simp only [List.getD_eq_getElem?_getD]
      rw [List.getElem?_append_left (by omega)]
structure NthR (n : Nat) (ns : List Nat) (k : Nat) : Prop where
  row : RowN n ns (nthN n ns k)
  rk : rkN n ns (nthN n ns k) n = k
  at' : ∀ j, j < n → ∃ kj, rkN n ns (nthN n ns k) j + kj = k ∧ kj < sumTo (term n (mayO ns) (rsN (nthN n ns k) j)) n ∧ (nthN n ns k).getD j 0 = pk n (mayO ns) (rsN (nthN n ns k) j) kj
theorem nth_ok {n : Nat} {ns : List Nat} {k : Nat} (hk : k < rest n (mayO ns) 0) : NthR n ns k := by
  have hN := nst_ok (may := mayO ns) (fun s p h => mayO_not h) hk
  have hlen : ∀ m, m ≤ n → (nst n (mayO ns) k m).2.2.length = m := fun m hm => (hN m hm).len
  have hg : ∀ i, i < n → (nthN n ns k).getD i 0 = pk n (mayO ns) (nst n (mayO ns) k i).1 (nst n (mayO ns) k i).2.1 := fun i hi => nst_get n i hi (hlen n (Nat.le_refl n)) hlen
  have hS := fun j (h : j < n) => nst_sum (may := mayO ns) (fun s p h => mayO_not h) (hN j (by omega)) h
  have hrs : ∀ j, j ≤ n → rsN (nthN n ns k) j = (nst n (mayO ns) k j).1 := by
    intro j
    induction j with
    | zero => intro _; rfl
    | succ j ih =>
      intro hj
      rw [rsN, ih (by omega), hg j (by omega)]; rfl
  have hrk : ∀ j, j ≤ n → rkN n ns (nthN n ns k) j + (nst n (mayO ns) k j).2.1 = k := by
    intro j
    induction j with
    | zero => intro _; show 0 + k = k; omega
    | succ j ih =>
      intro hj
      have := ih (by omega)
      have h3 := (pk_spec (hS j (by omega))).2.2 _ (Nat.le_refl _)
      show rkN n ns (nthN n ns k) j + sumTo (term n (mayO ns) (rsN (nthN n ns k) j)) ((nthN n ns k).getD j 0) + ((nst n (mayO ns) k j).2.1 - sumTo (term n (mayO ns) (nst n (mayO ns) k j).1) (pk n (mayO ns) (nst n (mayO ns) k j).1 (nst n (mayO ns) k j).2.1)) = k
      rw [hrs j (by omega), hg j (by omega)]
      omega
  refine ⟨⟨hlen n (Nat.le_refl n), fun j hj => ?_, fun j hj => ?_⟩, ?_, fun j hj => ⟨(nst n (mayO ns) k j).2.1, hrk j (by omega), ?_, ?_⟩⟩
  · rw [hg j hj]; exact (pk_spec (hS j hj)).1
  · rw [hg j hj, hrs j (by omega)]; exact (pk_may (hS j hj)).1
  · have h1 := hN n (Nat.le_refl n)
    have h2 := hrk n (Nat.le_refl n)
    have h3 := h1.hk
    have h4 : mis n (nst n (mayO ns) k n).1 = 0 := by have := h1.mis; omega
    unfold rest at h3
    rw [h4] at h3
    have : cnt n (mayO ns) 0 (nst n (mayO ns) k n).1 = 1 := rfl
    omega
  · rw [hrs j (by omega)]; exact hS j hj
  · rw [hrs j (by omega)]; exact hg j hj
def befN (a b : List Nat) (j : Nat) : Prop := a.getD j 0 < b.getD j 0 ∧ ∀ i, i < j → a.getD i 0 = b.getD i 0
theorem row_is {n : Nat} {ns r : List Nat} (h : RowN n ns r) : isRow n ns (nl r) = true := by
  have hm : (nl r).map Int.toNat = r := by
    unfold nl
    rw [List.map_map]
    apply List.ext_getElem
    · simp
    · intro i h1 h2
      simp
  have hgI : ∀ j, (nl r).getD j 0 = ((r.getD j 0 : Nat) : Int) := fun j => by
    unfold nl
    simp only [List.getD_eq_getElem?_getD, List.getElem?_map]
    cases r[j]? <;> rfl
  rw [isRow_all fun j hj => ?_]
  · rw [decide_eq_true_eq, nl_len, h.len]
  · rw [nl_len, h.len] at hj
    unfold okAt
    rw [hm, hgI, Int.toNat_natCast, h.may j hj, decide_eq_true (by omega), decide_eq_true (by have := h.lt j hj; omega)]
    rfl
/-- Of n things the one that a number speaks of. -/
def chooseT (c : Int) (n : Nat) : Nat := (if c < 0 then -(c + 1) else c).toNat % n
end Go.Proofs.Ytdbngpkbamhbeaa
