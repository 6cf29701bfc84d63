import Derived.Test.YtkackilhfkicoaaDoorRa
set_option linter.unusedSimpArgs false
set_option linter.unusedVariables false
set_option linter.unusedSectionVars false
set_option maxRecDepth 20000
namespace Go.Proofs.YtkackilhfkicoaaDoor
/-- What is below what of pairs. -/
def prL (m : Nat) (L K : Nat → Nat → Bool) (p q : Nat) : Bool := decide (p ≠ q) && (decide (p / m = q / m) || L (p / m) (q / m)) && (decide (p % m = q % m) || K (p % m) (q % m))
/-- Whatever, summed up, is one point, is MOEBIUS. -/
theorem mu_uniq {n : Nat} {L : Nat → Nat → Bool} (h : StO n L) {a : Nat} (ha : a < n) {F : Nat → Int} (hF : ∀ y, y < n → sumI (fun x => F x * zt L x y) n = if a = y then 1 else 0) {b : Nat} (hb : b < n) : F b = mu n L a b := by
  have e1 : sumI (fun x => sumI (fun c => F x * (zt L x c * nu n L c b)) n) n = F b := by
    rw [sumI_congr (g := fun x => F x * if x = b then 1 else 0) fun x hx => by rw [sumI_mulL, zt_nu h hx hb]]
    rw [sumI_sgl hb fun x _ hne => by rw [if_neg hne, Int.mul_zero], if_pos rfl, Int.mul_one]
  have e2 : sumI (fun x => sumI (fun c => F x * (zt L x c * nu n L c b)) n) n = nu n L a b := by
    rw [sumI_sw]
    rw [sumI_congr (g := fun c => (if a = c then 1 else 0) * nu n L c b) fun c hc => by
      rw [← hF c hc, ← sumI_mulR]
      exact sumI_congr fun x _ => (Int.mul_assoc _ _ _).symm]
    rw [sumI_sgl ha fun x _ hne => by rw [if_neg (Ne.symm hne), Int.zero_mul], if_pos rfl, Int.one_mul]
  rw [← e1, e2, mu_nu h ha hb]
end Go.Proofs.YtkackilhfkicoaaDoor
