import Derived.Test.YtbgecpjlopdkfaaDoorSrk
set_option linter.unusedSimpArgs false
set_option linter.unusedVariables false
set_option linter.unusedSectionVars false
set_option maxRecDepth 20000
namespace Go.Proofs.YtbgecpjlopdkfaaDoor
attribute [local irreducible] QOp aL aC qL
def t01 : Tr := .mk 3 0 [.mk 1 0 [], .mk 1 1 []]
theorem low3 : lowkS 3 = 0 := by decide
theorem low2 : lowkS 2 = 1 := by decide
theorem bit3 {b : Nat} (h : (3 : Nat).testBit b = true) : b = 0 ∨ b = 1 := by
  have : b < 2 := by
    apply Classical.byContradiction
    intro hn
    rw [Nat.testBit_lt_two_pow (Nat.lt_of_lt_of_le (show 3 < 2 ^ 2 by decide) (Nat.pow_le_pow_right (by decide) (by omega)))] at h
    cases h
  omega
theorem cmp3 : cmpR (abvS [0, 1]) 3 = 3 := by
  refine (cmpR_of (p := 3) (by decide) (by rw [low3]; decide) (fun b hb => ?_) (fun a b _ hb hn => ?_)).symm
  · rcases bit3 hb with rfl | rfl
    · exact cmpR_bit.2 ⟨by decide, by decide, by rw [low3]; exact .refl⟩
    · exact cmpR_bit.2 ⟨by decide, by decide, by rw [low3]; exact .step .refl (by decide) (by decide)⟩
  · rw [hb] at hn; cases hn
theorem cmp3n : cmpR (fun a b => !abvS [0, 1] a b) 3 = 1 := by
  refine (cmpR_of (p := 1) (by decide) (by rw [low3]; decide) (fun b hb => ?_) (fun a b ha hb hn => ?_)).symm
  · have : b = 0 := by
      apply Classical.byContradiction
      intro h0
      rw [Nat.testBit_lt_two_pow (Nat.lt_of_lt_of_le (show 1 < 2 ^ 1 by decide) (Nat.pow_le_pow_right (by decide) (by omega)))] at hb
      cases hb
    subst this
    exact cmpR_bit.2 ⟨by decide, by decide, by rw [low3]; exact .refl⟩
  · have h0 : a = 0 := by
      apply Classical.byContradiction
      intro h0
      rw [Nat.testBit_lt_two_pow (Nat.lt_of_lt_of_le (show 1 < 2 ^ 1 by decide) (Nat.pow_le_pow_right (by decide) (by omega)))] at ha
      cases ha
    subst h0
    rcases bit3 hb with rfl | rfl
    · cases hn
    · decide
theorem cmp2n : cmpR (fun a b => !abvS [0, 1] a b) 2 = 2 := by
  refine (cmpR_of (p := 2) (by decide) (by rw [low2]; decide) (fun b hb => ?_) (fun a b _ hb hn => ?_)).symm
  · have : b = 1 := by
      have h4 : (3 : Nat).testBit b = true := by
        rw [show (3 : Nat) = 2 ||| 1 by decide, Nat.testBit_or, hb]; rfl
      rcases bit3 h4 with rfl | rfl
      · cases hb
      · rfl
    subst this
    exact cmpR_bit.2 ⟨by decide, by decide, by rw [low2]; exact .refl⟩
  · rw [hb] at hn; cases hn
theorem pcs_z (R : Nat → Nat → Bool) (f : Nat) : pcsF R f 0 = [] := by cases f <;> (unfold pcsF; rfl)
theorem pcs_s (R : Nat → Nat → Bool) (f s : Nat) (h : s ≠ 0) : pcsF R (f + 1) s = cmpR R s :: pcsF R f (ndiff s (cmpR R s)) := by
  conv => lhs; unfold pcsF
  rw [if_neg h]
theorem pcs3 : pcsF (abvS [0, 1]) 1024 3 = [3] := by
  rw [pcs_s _ 1023 3 (by decide), cmp3, show ndiff 3 3 = 0 by decide, pcs_z]
theorem pcs3n : pcsF (fun a b => !abvS [0, 1] a b) 1024 3 = [1, 2] := by
  rw [pcs_s _ 1023 3 (by decide), cmp3n, show ndiff 3 1 = 2 by decide, pcs_s _ 1022 2 (by decide), cmp2n, show ndiff 2 2 = 0 by decide, pcs_z]
theorem co3 : coF [0, 1] 3 = [1, 2] := by
  unfold coF
  rw [pcs3n]
  decide
theorem sp_leaf (ns : List Nat) (f s : Nat) (h : (mbs s).length = 1) : spF ns (f + 1) s = some (.mk 1 ((mbs s).getD 0 0 : Nat) []) := by
  unfold spF; rw [if_pos h]
theorem sp01 : spF [0, 1] 1025 3 = some t01 := by
  unfold spF
  rw [if_neg (by decide)]
  have e : ptsF [0, 1] 3 = [1, 2] := by
    unfold ptsF; rw [pcs3, if_pos (show [3].length = 1 by rfl), co3]
  rw [e, if_neg (by decide), pcs3, if_pos (show [3].length = 1 by rfl)]
  have e2 : spL (spF [0, 1] 1024) [1, 2] = some [.mk 1 0 [], .mk 1 1 []] := by
    unfold spL spL spL
    rw [sp_leaf [0, 1] 1023 1 (by decide), sp_leaf [0, 1] 1023 2 (by decide)]
    rfl
  rw [e2]; rfl
end Go.Proofs.YtbgecpjlopdkfaaDoor
