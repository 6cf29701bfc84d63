import Derived.Test.YtajpfjmmhcbjkaaDoorSm
import Derived.Test.YtajpfjmmhcbjkaaDoorSc
set_option linter.unusedSimpArgs false
set_option linter.unusedVariables false
set_option linter.unusedSectionVars false
set_option maxRecDepth 20000
namespace Go.Proofs.YtajpfjmmhcbjkaaDoor
attribute [local irreducible] QOp aL aC qL
theorem pcsT_mem {n : Nat} {ns : List Nat} {x : Nat} : ∀ {k : Nat}, x ∈ pcsT n ns k → ∃ i, i < k ∧ x = pcS n ns i ∧ 0 < x
  | 0, h => by cases h
  | k + 1, h => by
    rw [pcsT_s] at h
    split at h
    · rename_i hp
      rw [List.mem_append, List.mem_singleton] at h
      rcases h with h | h
      · obtain ⟨i, h1, h2⟩ := pcsT_mem h
        exact ⟨i, by omega, h2⟩
      · exact ⟨k, by omega, h, by rw [h]; exact hp⟩
    · obtain ⟨i, h1, h2⟩ := pcsT_mem h
      exact ⟨i, by omega, h2⟩
theorem bit_some {x : Nat} (h : 0 < x) : ∃ k, x.testBit k = true := by
  cases Classical.em (∃ k, x.testBit k = true) with
  | inl h => exact h
  | inr hn =>
    have := zero_of (x := x) fun k hk => hn ⟨k, hk⟩
    omega
theorem pcS_inj {n : Nat} {ns : List Nat} {i j : Nat} (h : pcS n ns i = pcS n ns j) (hp : 0 < pcS n ns i) : i = j := by
  obtain ⟨k, hk⟩ := bit_some hp
  have h1 := (pcS_bit.1 hk).2
  rw [h] at hk
  have h2 := (pcS_bit.1 hk).2
  omega
theorem pcsT_nd (n : Nat) (ns : List Nat) : ∀ k, (pcsT n ns k).Nodup
  | 0 => List.nodup_nil
  | k + 1 => by
    have ih := pcsT_nd n ns k
    rw [pcsT_s]
    split
    · rename_i hp
      rw [List.nodup_append]
      refine ⟨ih, by simp, fun a ha b hb => ?_⟩
      rw [List.mem_singleton] at hb
      subst hb
      intro e
      obtain ⟨i, h1, h2, h3⟩ := pcsT_mem ha
      have := pcS_inj (h2.symm.trans e) (by rw [← h2]; exact h3)
      omega
    · exact ih
/-- Two points of one piece go to one piece. -/
theorem pc_one {n : Nat} {ns : List Nat} {a b p q : Nat} (ha : a < (pcsT n ns n).length) (hb : b < (pcsT n ns n).length) (hp : ((pcsT n ns n).getD a 0).testBit p = true) (hq : ((pcsT n ns n).getD b 0).testBit q = true) (h : Cnn n ns p q) : a = b := by
  obtain ⟨i, _, h2, h3⟩ := pcsT_mem (mem_get.2 ⟨a, ha, rfl⟩)
  obtain ⟨j, _, h5, h6⟩ := pcsT_mem (mem_get.2 ⟨b, hb, rfl⟩)
  rw [h2] at hp
  rw [h5] at hq
  have e1 := (pcS_bit.1 hp).2
  have e2 := (pcS_bit.1 hq).2
  have e3 := pl_cn h
  have e : i = j := by omega
  subst e
  have hnd := pcsT_nd n ns n
  rw [List.nodup_iff_pairwise_ne, List.pairwise_iff_getElem] at hnd
  rw [List.getD_eq_getElem?_getD, List.getElem?_eq_getElem ha, Option.getD_some] at h2
  rw [List.getD_eq_getElem?_getD, List.getElem?_eq_getElem hb, Option.getD_some] at h5
  rcases Nat.lt_trichotomy a b with h | h | h
  · exact (hnd a b ha hb h (h2.trans h5.symm)).elim
  · exact h
  · exact (hnd b a hb ha h (h5.trans h2.symm)).elim
theorem pc_cnS {n : Nat} {ns : List Nat} {a p q : Nat} (ha : a < (pcsT n ns n).length) (hp : ((pcsT n ns n).getD a 0).testBit p = true) (hq : ((pcsT n ns n).getD a 0).testBit q = true) : p < n ∧ q < n ∧ Cnn n ns p q := by
  obtain ⟨i, _, h2, h3⟩ := pcsT_mem (mem_get.2 ⟨a, ha, rfl⟩)
  rw [h2] at hp hq
  have e1 := pcS_bit.1 hp
  have e2 := pcS_bit.1 hq
  exact ⟨e1.1, e2.1, (pl_iff e1.1 e2.1).1 (e1.2.trans e2.2.symm)⟩
theorem mon_cn {n : Nat} {ns : List Nat} {m : Nat} {ms F : List Nat} (hF : MpS n m F) (hM : monB n ns ms F = true) {a b : Nat} (h : Cnn n ns a b) : Cnn m ms (F.getD a 0) (F.getD b 0) := by
  induction h with
  | self => exact .self
  | step b c _ hb hc hl ih =>
    rcases hl with hl | hl
    · rcases monB_iff.1 hM b c hb hc hl with e | e
      · rw [← e]; exact ih
      · exact ih.trans (.step _ _ .self (hF.ff b hb) (hF.ff c hc) (.inl e))
    · rcases monB_iff.1 hM c b hc hb hl with e | e
      · rw [e]; exact ih
      · exact ih.trans (.step _ _ .self (hF.ff b hb) (hF.ff c hc) (.inr e))
/-- What the walk knows: no piece yet, or that of a point of this piece. -/
def ToI (S : Nat) (T F : List Nat) (to : Int) : Prop := to = -1 ∨ ∃ j q, to = ((j : Nat) : Int) ∧ j < T.length ∧ S.testBit q = true ∧ (T.getD j 0).testBit (F.getD q 0) = true
theorem opN_fml (n : Nat) (ns : List Nat) : Fml n (opN n ns) := ⟨opN_rise n ns, fun x hx => (opN_mem.1 hx).1⟩
end Go.Proofs.YtajpfjmmhcbjkaaDoor
