import Derived.Test.YtfjpgficpdbelaaGf
set_option linter.unusedSimpArgs false
set_option linter.unusedVariables false
set_option linter.unusedSectionVars false
set_option maxRecDepth 20000
namespace Go.Proofs.Ytfjpgficpdbelaa
attribute [local irreducible] QOp aL aC qL
theorem dual_lt {n : Nat} {ns : List Nat} {a b : Nat} (ha : a < n) (hb : b < n) : lt (ofn n (dualP ns)) a b = lt ns b a := ofn_lt (dualP ns) ha hb
theorem okB_dual {n : Nat} {ns : List Nat} (hok : okB n ns = true) : okB n (ofn n (dualP ns)) = true := by
  refine okB_all (ofn_vld n _).2 fun i hi => ⟨fun j hj k hk => ?_, ?_⟩
  · cases ht : trip (ofn n (dualP ns)) i j k
    · rfl
    · simp only [trip, Bool.and_eq_true, Bool.not_eq_true'] at ht
      obtain ⟨h1, h2, h3⟩ := ht
      rw [dual_lt (by assumption) (by assumption)] at h1 h2 h3
      have : trip ns j i k = true := by simp only [trip, h1, h2, h3]; rfl
      have := okB_trip hj hk this
      rw [hok] at this; cases this
  · rw [dual_lt hi hi]; exact okB_irr hok hi
end Go.Proofs.Ytfjpgficpdbelaa
