import Derived.Test.YtbgecpjlopdkfaaDoorHfb
set_option linter.unusedSimpArgs false
set_option linter.unusedVariables false
set_option linter.unusedSectionVars false
set_option maxRecDepth 20000
namespace Go.Proofs.YtbgecpjlopdkfaaDoor
attribute [local irreducible] QOp aL aC qL
theorem value_all {n : Nat} {M J : List (List Nat)} (hL : La n M J) {vs : List Nat} (hvs : vs.length = 3 ∧ ∀ i, i < 3 → vs.getD i 0 < n) : ∀ (d : Nat) (k v : Int) (l : List Tr), 1 + kdep l ≤ d → (Tr.mk k v l).ffm = 0 → ValP (n := n) (M := M) (J := J) vs d k v l
  | 0, k, v, l, hd, _ => by omega
  | d + 1, k, v, l, hd, hf => by
    obtain ⟨⟨w, rfl, hw, hw0⟩, hc⟩ := ffm_zero hf
    rcases hc with ⟨hk, rfl⟩ | ⟨hk, k1, v1, l1, k2, v2, l2, rfl, f1, f2⟩
    · rcases hk with rfl | rfl
      · obtain rfl := hw0 (by decide)
        have hv : fvF n M J vs (d + 1) (.mk 1 ((0 : Nat) : Int) []) = endE (ta M) n := by
          show (if (1 : Int) = 2 then _ else if (1 : Int) = 3 then _ else if (1 : Int) = 4 then _ else if (1 : Int) = 5 then _ else endE (ta M) n) = _
          rw [if_neg (by decide), if_neg (by decide), if_neg (by decide), if_neg (by decide)]
        refine ⟨?_, fun _ => ?_, fun h => ?_⟩
        · rw [hv]; exact valF_a hL vs
        · rw [hv]; exact valF_b hL vs
        · cases h
      · have hv : fvF n M J vs (d + 1) (.mk 2 (w : Int) []) = vs.getD w 0 := by
          show (if (2 : Int) = 2 then vs.getD (w : Int).toNat 0 else _) = _
          rw [if_pos rfl, Int.toNat_natCast]
        refine ⟨?_, fun _ => ?_, fun h => ?_⟩
        · rw [hv]; exact valV_a hL vs hvs.1 hw
        · rw [hv]; exact valV_b hL vs hvs.1 hw
        · cases h
    · obtain rfl := hw0 (by omega)
      rw [kdep_two] at hd
      have d1 : (Tr.mk k1 v1 l1).dep = 1 + kdep l1 := by unfold Tr.dep; rfl
      have d2 : (Tr.mk k2 v2 l2).dep = 1 + kdep l2 := by unfold Tr.dep; rfl
      have p1 := value_all hL hvs d k1 v1 l1 (by omega) f1
      have p2 := value_all hL hvs d k2 v2 l2 (by omega) f2
      have g1 := fv_lt hL hvs d (.mk k1 v1 l1) (by omega) f1
      have g2 := fv_lt hL hvs d (.mk k2 v2 l2) (by omega) f2
      have hi : ∀ k : Int, 3 ≤ k → hiF (d + 1) (.mk k ((0 : Nat) : Int) [.mk k1 v1 l1, .mk k2 v2 l2]) = (decide (k = 5) || (hiF d (.mk k1 v1 l1) || hiF d (.mk k2 v2 l2))) := fun k h3 => by
        show (decide (k = 5) || (decide (3 ≤ k) && _)) = _
        rw [decide_eq_true h3, Bool.true_and]; rfl
      rcases hk with rfl | rfl | rfl
      · have hv : fvF n M J vs (d + 1) (.mk 3 ((0 : Nat) : Int) [.mk k1 v1 l1, .mk k2 v2 l2]) = ta M (fvF n M J vs d (.mk k1 v1 l1)) (fvF n M J vs d (.mk k2 v2 l2)) := rfl
        refine ⟨?_, fun h => ?_, fun h => ?_⟩
        · rw [hv]; exact valAnd_a hL g1 g2 p1.a1 p2.a1
        · rw [hi 3 (by decide), Bool.or_eq_false_iff, Bool.or_eq_false_iff] at h
          rw [hv]; exact valAnd_ff hL g1 g2 (p1.a0 h.2.1) (p2.a0 h.2.2)
        · rw [hi 3 (by decide), show decide ((3 : Int) = 5) = false from rfl, Bool.false_or] at h
          rw [hv]
          cases h1 : hiF d (.mk k1 v1 l1)
          · rw [h1, Bool.false_or] at h
            exact valAnd_ft hL g1 g2 (p1.a0 h1) (p2.a01 h)
          · exact valAnd_t hL g1 g2 (p1.a01 h1) p2.a1
      · have hv : fvF n M J vs (d + 1) (.mk 4 ((0 : Nat) : Int) [.mk k1 v1 l1, .mk k2 v2 l2]) = ta J (fvF n M J vs d (.mk k1 v1 l1)) (fvF n M J vs d (.mk k2 v2 l2)) := rfl
        refine ⟨?_, fun h => ?_, fun h => ?_⟩
        · rw [hv]; exact valOr_a hL g1 g2 p1.a1 p2.a1
        · rw [hi 4 (by decide), Bool.or_eq_false_iff, Bool.or_eq_false_iff] at h
          rw [hv]; exact valOr_ff hL g1 g2 (p1.a0 h.2.1) (p2.a0 h.2.2)
        · rw [hi 4 (by decide), show decide ((4 : Int) = 5) = false from rfl, Bool.false_or] at h
          rw [hv]
          cases h1 : hiF d (.mk k1 v1 l1)
          · rw [h1, Bool.false_or] at h
            exact valOr_ft hL g1 g2 (p1.a0 h1) (p2.a01 h)
          · exact valOr_t hL g1 g2 (p1.a01 h1) p2.a1
      · have hv : fvF n M J vs (d + 1) (.mk 5 ((0 : Nat) : Int) [.mk k1 v1 l1, .mk k2 v2 l2]) = impV n M J (fvF n M J vs d (.mk k1 v1 l1)) (fvF n M J vs d (.mk k2 v2 l2)) := rfl
        refine ⟨?_, fun h => ?_, fun h => ?_⟩
        · rw [hv]; exact valImp_a hL g1 g2 p1.a1 p2.a1
        · rw [hi 5 (by decide)] at h; cases h
        · rw [hv]
          cases h1 : hiF d (.mk k1 v1 l1)
          · cases h2 : hiF d (.mk k2 v2 l2)
            · exact valImp_ff hL g1 g2 (p1.a0 h1) (p2.a0 h2)
            · exact valImp_ft hL g1 g2 (p1.a0 h1) (p2.a01 h2)
          · exact valImp_t hL g1 g2 (p1.a01 h1) p2.a1
end Go.Proofs.YtbgecpjlopdkfaaDoor
