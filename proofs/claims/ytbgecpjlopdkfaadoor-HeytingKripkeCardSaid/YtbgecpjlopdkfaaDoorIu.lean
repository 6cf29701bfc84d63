import Derived.Test.YtbgecpjlopdkfaaDoorHfb
import Derived.Test.YtbgecpjlopdkfaaDoorJj
import Derived.Test.YtbgecpjlopdkfaaDoorHed
set_option linter.unusedSimpArgs false
set_option linter.unusedVariables false
set_option linter.unusedSectionVars false
set_option maxRecDepth 20000
namespace Go.Proofs.YtbgecpjlopdkfaaDoor
attribute [local irreducible] QOp aL aC qL
theorem value_all {n : Nat} {M J : List (List Nat)} (hL : La n M J) {vs : List Nat} (hvs : vs.length = 3 ∧ ∀ i, i < 3 → vs.getD i 0 < n) : ∀ (d : Nat) (k v : Int) (l : List Tr), 1 + kdep l ≤ d → (Tr.mk k v l).ffm = 0 → ValP (n := n) (M := M) (J := J) vs d k v l
  | 0, k, v, l, hd, _ => by omega
  | d + 1, k, v, l, hd, hf => by
    obtain ⟨⟨w, rfl, hw, hw0⟩, hc⟩ := ffm_zero hf
    rcases hc with ⟨hk, rfl⟩ | ⟨hk, k1, v1, l1, k2, v2, l2, rfl, f1, f2⟩
    · rcases hk with rfl | rfl
      · obtain rfl := hw0 (by decide)
        have hv : fvF n M J vs (d + 1) (.mk 1 ((0 : Nat) : Int) []) = endE (ta M) n := by
          show (if (1 : Int) = 2 then _ else if (1 : Int) = 3 then _ else if (1 : Int) = 4 then _ else if (1 : Int) = 5 then _ else endE (ta M) n) = _
          rw [if_neg (by decide), if_neg (by decide), if_neg (by decide), if_neg (by decide)]
        refine ⟨?_, fun _ => ?_, fun h => ?_⟩
        · rw [hv]; exact valF_a hL vs
        · rw [hv]; exact valF_b hL vs
        · cases h
      · have hv : fvF n M J vs (d + 1) (.mk 2 (w : Int) []) = vs.getD w 0 := by
          show (if (2 : Int) = 2 then vs.getD (w : Int).toNat 0 else _) = _
          rw [if_pos rfl, Int.toNat_natCast]
        refine ⟨?_, fun _ => ?_, fun h => ?_⟩
        · rw [hv]; exact valV_a hL vs hvs.1 hw
        · rw [hv]; exact valV_b hL vs hvs.1 hw
        · cases h
    · obtain rfl := hw0 (by omega)
      rw [kdep_two] at hd
      have d1 : (Tr.mk k1 v1 l1).dep = 1 + kdep l1 := by unfold Tr.dep; rfl
      have d2 : (Tr.mk k2 v2 l2).dep = 1 + kdep l2 := by unfold Tr.dep; rfl
      have p1 := value_all hL hvs d k1 v1 l1 (by omega) f1
      have p2 := value_all hL hvs d k2 v2 l2 (by omega) f2
      have g1 := fv_lt hL hvs d (.mk k1 v1 l1) (by omega) f1
      have g2 := fv_lt hL hvs d (.mk k2 v2 l2) (by omega) f2
      have hi : ∀ k : Int, 3 ≤ k → hiF (d + 1) (.mk k ((0 : Nat) : Int) [.mk k1 v1 l1, .mk k2 v2 l2]) = (decide (k = 5) || (hiF d (.mk k1 v1 l1) || hiF d (.mk k2 v2 l2))) := fun k h3 => by
        show (decide (k = 5) || (decide (3 ≤ k) && _)) = _
        rw [decide_eq_true h3, Bool.true_and]; rfl
      rcases hk with rfl | rfl | rfl
      · have hv : fvF n M J vs (d + 1) (.mk 3 ((0 : Nat) : Int) [.mk k1 v1 l1, .mk k2 v2 l2]) = ta M (fvF n M J vs d (.mk k1 v1 l1)) (fvF n M J vs d (.mk k2 v2 l2)) := rfl
        refine ⟨?_, fun h => ?_, fun h => ?_⟩
        · rw [hv]; exact valAnd_a hL g1 g2 p1.a1 p2.a1
        · rw [hi 3 (by decide), Bool.or_eq_false_iff, Bool.or_eq_false_iff] at h
          rw [hv]; exact valAnd_ff hL g1 g2 (p1.a0 h.2.1) (p2.a0 h.2.2)
        · rw [hi 3 (by decide), show decide ((3 : Int) = 5) = false from rfl, Bool.false_or] at h
          rw [hv]
          cases h1 : hiF d (.mk k1 v1 l1)
          · rw [h1, Bool.false_or] at h
            exact valAnd_ft hL g1 g2 (p1.a0 h1) (p2.a01 h)
          · exact valAnd_t hL g1 g2 (p1.a01 h1) p2.a1
      · have hv : fvF n M J vs (d + 1) (.mk 4 ((0 : Nat) : Int) [.mk k1 v1 l1, .mk k2 v2 l2]) = ta J (fvF n M J vs d (.mk k1 v1 l1)) (fvF n M J vs d (.mk k2 v2 l2)) := rfl
        refine ⟨?_, fun h => ?_, fun h => ?_⟩
        · rw [hv]; exact valOr_a hL g1 g2 p1.a1 p2.a1
        · rw [hi 4 (by decide), Bool.or_eq_false_iff, Bool.or_eq_false_iff] at h
          rw [hv]; exact valOr_ff hL g1 g2 (p1.a0 h.2.1) (p2.a0 h.2.2)
        · rw [hi 4 (by decide), show decide ((4 : Int) = 5) = false from rfl, Bool.false_or] at h
          rw [hv]
          cases h1 : hiF d (.mk k1 v1 l1)
          · rw [h1, Bool.false_or] at h
            exact valOr_ft hL g1 g2 (p1.a0 h1) (p2.a01 h)
          · exact valOr_t hL g1 g2 (p1.a01 h1) p2.a1
      · have hv : fvF n M J vs (d + 1) (.mk 5 ((0 : Nat) : Int) [.mk k1 v1 l1, .mk k2 v2 l2]) = impV n M J (fvF n M J vs d (.mk k1 v1 l1)) (fvF n M J vs d (.mk k2 v2 l2)) := rfl
        refine ⟨?_, fun h => ?_, fun h => ?_⟩
        · rw [hv]; exact valImp_a hL g1 g2 p1.a1 p2.a1
        · rw [hi 5 (by decide)] at h; cases h
        · rw [hv]
          cases h1 : hiF d (.mk k1 v1 l1)
          · cases h2 : hiF d (.mk k2 v2 l2)
            · exact valImp_ff hL g1 g2 (p1.a0 h1) (p2.a0 h2)
            · exact valImp_ft hL g1 g2 (p1.a0 h1) (p2.a01 h2)
          · exact valImp_t hL g1 g2 (p1.a01 h1) p2.a1
end Go.Proofs.YtbgecpjlopdkfaaDoor
set_option linter.unusedSimpArgs false
set_option linter.unusedVariables false
set_option linter.unusedSectionVars false
set_option maxRecDepth 20000
namespace Go.Proofs.YtbgecpjlopdkfaaDoor
attribute [local irreducible] QOp aL aC qL
def mpd (N to : Int) (f : List Int) : Int := if (f.length : Int) ≠ N then 1 else if f.any (badI to) = true then 3 else 0
def gchk (N : Int) (m w : List (List Int)) (N' : Int) (m' w' : List (List Int)) (f : List Int) : Int :=
  if lck N m w ≠ 0 then lck N m w else if lck N' m' w' ≠ 0 then lck N' m' w' else mpd N N' f
/-- Two lattices and a map from the one to the other. -/
structure Gk (n : Nat) (M J : List (List Nat)) (k : Nat) (M' J' : List (List Nat)) (F : List Nat) : Prop where
  n1 : 1 ≤ n
  n2 : n ≤ 40
  k1 : 1 ≤ k
  k2 : k ≤ 40
  sM : Sq n M
  sJ : Sq n J
  sM' : Sq k M'
  sJ' : Sq k J'
  A : Lt n (ta M) (ta J)
  B : Lt k (ta M') (ta J')
  fl : F.length = n
  ff : ∀ x, x < n → F.getD x 0 < k
theorem mpd_none {N to : Int} {f : List Int} (h1 : (f.length : Int) = N) (h : ∀ x, x < f.length → 0 ≤ f.getD x 0 ∧ f.getD x 0 < to) : mpd N to f = 0 := by
  unfold mpd
  rw [if_neg (by omega), if_neg]
  rw [List.any_eq_true]
  rintro ⟨r, hr, hb⟩
  obtain ⟨i, hi, rfl⟩ := List.getElem_of_mem hr
  have := h i hi
  rw [List.getD_eq_getElem?_getD, List.getElem?_eq_getElem hi] at this
  unfold badI at hb
  rw [decide_eq_true_eq] at hb
  have e : (some f[i]).getD 0 = f[i] := rfl
  omega
theorem lck_of {n : Nat} {M J : List (List Nat)} (h1 : 1 ≤ n) (h2 : n ≤ 40) (hM : Sq n M) (hJ : Sq n J) (L : Lt n (ta M) (ta J)) : lck n (tn M) (tn J) = 0 := by
  rw [lck_tn h1 h2 hM hJ, if_pos]
  unfold lawB
  rw [Bool.and_eq_true, decide_eq_true_eq, decide_eq_true_eq]
  exact ⟨L.lf, L.lg⟩
theorem Gk.mp {n k : Nat} {M J M' J' : List (List Nat)} {F : List Nat} (h : Gk n M J k M' J' F) : mpd n k (nl F) = 0 := mpd_none (by rw [nl_len, h.fl]) fun x hx => by
  rw [nl_len, h.fl] at hx
  rw [nl_get]
  have := h.ff x hx
  omega
theorem Gk.zero {n k : Nat} {M J M' J' : List (List Nat)} {F : List Nat} (h : Gk n M J k M' J' F) : gchk n (tn M) (tn J) k (tn M') (tn J') (nl F) = 0 := by
  unfold gchk
  rw [lck_of h.n1 h.n2 h.sM h.sJ h.A, lck_of h.k1 h.k2 h.sM' h.sJ' h.B, h.mp]
  rfl
structure Fin1 (m : List (List Int)) : Prop where
  len : m.length ≤ 9223372036854775807
  row : ∀ r ∈ m, r.length ≤ 9223372036854775807
def l2 (N : Int) (m w : List (List Int)) (N' : Int) (m' w' : List (List Int)) (i : Nat) : Int × List (List Int) × List (List Int) := [(N, m, w), (N', m', w')].getD i (0, [], [])
end Go.Proofs.YtbgecpjlopdkfaaDoor
