import Derived.Test.YtkbcbahpcnemmaaRs
import Derived.Test.YtkbcbahpcnemmaaIp
set_option linter.unusedSimpArgs false
set_option linter.unusedVariables false
set_option linter.unusedSectionVars false
set_option maxRecDepth 20000
namespace Go.Proofs.Ytkbcbahpcnemmaa
theorem topR_lowW {n : Nat} {f g : Nat → Nat → Nat} (L : Lt n f g) (h0 : 0 < n) : ∀ k, k ≤ n → topR f k = lowR g k
  | 0, _ => rfl
  | k + 1, hk => by
    have ih := topR_lowW L h0 k (by omega)
    have ht := topR_lt (f := f) k (by omega) h0
    have e : f (topR f k) k = topR f k ↔ g k (topR f k) = k := by
      rw [L.up ht (by omega), L.dual.comm ht (by omega)]
    show (if f (topR f k) k = topR f k then k else topR f k) = (if g k (lowR g k) = k then k else lowR g k)
    rw [← ih]
    by_cases h : g k (topR f k) = k
    · rw [if_pos (e.2 h), if_pos h]
    · rw [if_neg (fun q => h (e.1 q)), if_neg h]
theorem topR_top {n : Nat} {f g : Nat → Nat → Nat} (L : Lt n f g) (h0 : 0 < n) {x : Nat} (hx : x < n) : f x (topR f n) = x := by
  rw [topR_lowW L h0 n (Nat.le_refl _), lowR_end L.dual h0]
  have he := endE_lt L.gl n (Nat.le_refl _) h0
  have := endE_least L.dual h0 n (Nat.le_refl _) x hx
  rw [L.up hx he, L.dual.comm hx he]
  exact this
theorem lowR_bot {n : Nat} {f g : Nat → Nat → Nat} (L : Lt n f g) (h0 : 0 < n) {x : Nat} (hx : x < n) : f (lowR f n) x = lowR f n := by
  rw [lowR_end L h0]
  exact endE_least L h0 n (Nat.le_refl _) x hx
/-- Those that have with y the Join z. -/
def weS (n : Nat) (M J : List (List Nat)) (lo y z : Nat) (k : Nat) : Int := sumI (fun x => if ta J x y = z then mu n (ltL M) lo x else 0) k
theorem weisner {n : Nat} {M J : List (List Nat)} (A : Lt n (ta M) (ta J)) {lo y : Nat} (hlo : lo < n) (hy : y < n) (hb : ∀ x, x < n → ta M lo x = lo) (hne : y ≠ lo) : ∀ r z, z < n → rkL n (ltL M) z < r → ta M y z = y → weS n M J lo y z n = 0
  | 0, _, _, h, _ => absurd h (Nat.not_lt_zero _)
  | r + 1, z, hz, hr, hyz => by
    have hS := stO_lat A
    have h1 := mu_zt hS hlo hz
    have hzl : lo ≠ z := fun e => by
      subst e
      have := hb y hy
      rw [A.comm hlo hy, hyz] at this
      exact hne this
    rw [if_neg hzl] at h1
    have hzt : ∀ a b, a < n → b < n → zt (ltL M) a b = if ta M a b = a then 1 else 0 := fun a b ha hb2 => by
      unfold zt
      by_cases h : ta M a b = a
      · rw [if_pos h, if_pos]
        by_cases e : a = b
        · exact .inl e
        · exact .inr (ltL_iff.2 ⟨e, h⟩)
      · rw [if_neg h, if_neg]
        rintro (e | e)
        · subst e; exact h (A.idem ha)
        · exact h (ltL_iff.1 e).2
    -- all below z, by what they have with y together
    have h2 : sumI (fun w => if ta M y w = y ∧ ta M w z = w then weS n M J lo y w n else 0) n = sumI (fun x => mu n (ltL M) lo x * zt (ltL M) x z) n := by
      have e1 : ∀ w, (if ta M y w = y ∧ ta M w z = w then weS n M J lo y w n else 0) = sumI (fun x => if ta M y w = y ∧ ta M w z = w then (if ta J x y = w then mu n (ltL M) lo x else 0) else 0) n := fun w => by
        split
        · rfl
        · exact (sumI_zero fun _ _ => rfl).symm
      rw [sumI_congr fun w _ => e1 w, sumI_sw]
      refine sumI_congr fun x hx => ?_
      have hj := A.gl x y hx hy
      rw [sumI_sgl hj fun w _ hw => ?_]
      · rw [if_pos rfl, hzt x z hx hz]
        have hyj : ta M y (ta J x y) = y := A.above' hx hy
        by_cases h : ta M x z = x
        · rw [if_pos h, if_pos ⟨hyj, A.least hx hy hz h hyz⟩, Int.mul_one]
        · rw [if_neg h, if_neg, Int.mul_zero]
          rintro ⟨_, h3⟩
          exact h (A.trans hx hj hz (A.above hx hy) h3)
      · split
        · rw [if_neg (Ne.symm hw)]
        · rfl
    rw [h1] at h2
    rw [← h2]
    rw [sumI_sgl hz fun w hw hne2 => ?_]
    · rw [if_pos ⟨hyz, A.idem hz⟩]
    · split
      · rename_i hc
        have := rkL_lt hS hw hz (ltL_iff.2 ⟨hne2, hc.2⟩)
        exact weisner A hlo hy hb hne r w hw (by omega) hc.1
      · rfl
end Go.Proofs.Ytkbcbahpcnemmaa
