import Derived.Test.YtbgecpjlopdkfaaDoorSse
import Derived.Test.YtbgecpjlopdkfaaDoorSsh
import Derived.Test.YtbgecpjlopdkfaaDoorSsi
set_option linter.unusedSimpArgs false
set_option linter.unusedVariables false
set_option linter.unusedSectionVars false
set_option maxRecDepth 20000
namespace Go.Proofs.YtbgecpjlopdkfaaDoor
attribute [local irreducible] QOp aL aC qL
/-- The term that Split gives is right, and its order is the order. -/
theorem sp_full {n : Nat} {ns : List Nat} (hok : okB n ns = true) (hn : n ≤ 10) (hv : Vld n ns) {k p : Int} {l : List Tr} (h : spF ns 1025 (2 ^ n - 1) = some (.mk k p l)) :
    (Tr.mk k p l).frm = 0 ∧ (Tr.mk k p l).can = true ∧ (Tr.mk k p l).pts.length = n ∧ 1 + kcnt l ≤ 40 ∧ tck (.mk k p l) = 0 ∧ tOf (.mk k p l) = ns ∧ ∀ x, x ∈ (Tr.mk k p l).pts ↔ ∃ i : Nat, i < n ∧ x = (i : Int) := by
  have hp : 2 ^ n ≤ 1024 := Nat.pow_le_pow_right (n := 2) (by decide) hn
  have hpos := Nat.two_pow_pos n
  have hg := sp_good hok hn 1025 (2 ^ n - 1) _ (by omega) (fun i hi => full_bit.1 hi) h
  have hm : ∀ x, x ∈ (Tr.mk k p l).pts ↔ ∃ i : Nat, i < n ∧ x = (i : Int) := fun x => by
    rw [hg.mem]
    constructor
    · rintro ⟨i, hi, e⟩; exact ⟨i, full_bit.1 hi, e⟩
    · rintro ⟨i, hi, e⟩; exact ⟨i, full_bit.2 hi, e⟩
  have hperm : (Tr.mk k p l).pts.Perm (nl (List.range n)) := (List.perm_ext_iff_of_nodup hg.nd (by
    unfold nl
    exact List.pairwise_map.2 (List.Pairwise.imp (R := fun (a b : Nat) => a ≠ b) (fun {a b : Nat} h (e : (a : Int) = (b : Int)) => absurd (show a = b by omega) h) List.nodup_range))).2 fun x => by
      rw [hm]
      unfold nl
      rw [List.mem_map]
      constructor
      · rintro ⟨i, hi, e⟩; exact ⟨i, List.mem_range.2 hi, e.symm⟩
      · rintro ⟨i, hi, e⟩; exact ⟨i, List.mem_range.1 hi, e.symm⟩
  have hlen : (Tr.mk k p l).pts.length = n := by rw [hperm.length_eq, nl_len, List.length_range]
  have hcnt := hg.cnt
  have ec : (Tr.mk k p l).cnt = 1 + kcnt l := by unfold Tr.cnt; rfl
  rw [ec, hlen] at hcnt
  refine ⟨hg.frm, hg.can, hlen, by omega, ?_, ?_, hm⟩
  · unfold tck
    rw [if_neg (by rw [ec, hlen]; omega), if_neg (by rw [hg.frm]; decide), if_pos (prB_yes fun q hq => (hm q).2 ⟨q, by omega, rfl⟩)]
  · unfold tOf
    rw [hlen]
    exact vld_ext (ofn_vld n _) hv fun a b ha hb => by
      rw [ofn_lt _ ha hb]
      exact hg.less _ (Nat.le_refl _) a b (full_bit.2 ha) (full_bit.2 hb)
end Go.Proofs.YtbgecpjlopdkfaaDoor
