import Derived.Test.YtbgecpjlopdkfaaDoorIt
import Derived.Test.YtbgecpjlopdkfaaDoorIp
import Derived.Test.YtbgecpjlopdkfaaDoorHfc
import Derived.Test.YtbgecpjlopdkfaaDoorHeg
import Derived.Test.YtbgecpjlopdkfaaDoorFm
set_option linter.unusedSimpArgs false
set_option linter.unusedVariables false
set_option linter.unusedSectionVars false
set_option maxRecDepth 20000
namespace Go.Proofs.YtbgecpjlopdkfaaDoor
attribute [local irreducible] QOp aL aC qL
def mpd (N to : Int) (f : List Int) : Int := if (f.length : Int) ≠ N then 1 else if f.any (badI to) = true then 3 else 0
def gchk (N : Int) (m w : List (List Int)) (N' : Int) (m' w' : List (List Int)) (f : List Int) : Int :=
  if lck N m w ≠ 0 then lck N m w else if lck N' m' w' ≠ 0 then lck N' m' w' else mpd N N' f
/-- Two lattices and a map from the one to the other. -/
structure Gk (n : Nat) (M J : List (List Nat)) (k : Nat) (M' J' : List (List Nat)) (F : List Nat) : Prop where
  n1 : 1 ≤ n
  n2 : n ≤ 40
  k1 : 1 ≤ k
  k2 : k ≤ 40
  sM : Sq n M
  sJ : Sq n J
  sM' : Sq k M'
  sJ' : Sq k J'
  A : Lt n (ta M) (ta J)
  B : Lt k (ta M') (ta J')
  fl : F.length = n
  ff : ∀ x, x < n → F.getD x 0 < k
theorem mpd_none {N to : Int} {f : List Int} (h1 : (f.length : Int) = N) (h : ∀ x, x < f.length → 0 ≤ f.getD x 0 ∧ f.getD x 0 < to) : mpd N to f = 0 := by
  unfold mpd
  rw [if_neg (by omega), if_neg]
  rw [List.any_eq_true]
  rintro ⟨r, hr, hb⟩
  obtain ⟨i, hi, rfl⟩ := List.getElem_of_mem hr
  have := h i hi
  rw [List.getD_eq_getElem?_getD, List.getElem?_eq_getElem hi] at this
  unfold badI at hb
  rw [decide_eq_true_eq] at hb
  have e : (some f[i]).getD 0 = f[i] := rfl
  omega
theorem lck_of {n : Nat} {M J : List (List Nat)} (h1 : 1 ≤ n) (h2 : n ≤ 40) (hM : Sq n M) (hJ : Sq n J) (L : Lt n (ta M) (ta J)) : lck n (tn M) (tn J) = 0 := by
  rw [lck_tn h1 h2 hM hJ, if_pos]
  unfold lawB
  rw [Bool.and_eq_true, decide_eq_true_eq, decide_eq_true_eq]
  exact ⟨L.lf, L.lg⟩
theorem Gk.mp {n k : Nat} {M J M' J' : List (List Nat)} {F : List Nat} (h : Gk n M J k M' J' F) : mpd n k (nl F) = 0 := mpd_none (by rw [nl_len, h.fl]) fun x hx => by
  rw [nl_len, h.fl] at hx
  rw [nl_get]
  have := h.ff x hx
  omega
theorem Gk.zero {n k : Nat} {M J M' J' : List (List Nat)} {F : List Nat} (h : Gk n M J k M' J' F) : gchk n (tn M) (tn J) k (tn M') (tn J') (nl F) = 0 := by
  unfold gchk
  rw [lck_of h.n1 h.n2 h.sM h.sJ h.A, lck_of h.k1 h.k2 h.sM' h.sJ' h.B, h.mp]
  rfl
structure Fin1 (m : List (List Int)) : Prop where
  len : m.length ≤ 9223372036854775807
  row : ∀ r ∈ m, r.length ≤ 9223372036854775807
def l2 (N : Int) (m w : List (List Int)) (N' : Int) (m' w' : List (List Int)) (i : Nat) : Int × List (List Int) × List (List Int) := [(N, m, w), (N', m', w')].getD i (0, [], [])
end Go.Proofs.YtbgecpjlopdkfaaDoor
set_option linter.unusedSimpArgs false
set_option linter.unusedVariables false
set_option linter.unusedSectionVars false
set_option maxRecDepth 20000
namespace Go.Proofs.YtbgecpjlopdkfaaDoor
attribute [local irreducible] QOp aL aC qL
/-- What is wrong with what Value is handed. -/
def vck (N : Int) (m w : List (List Int)) (fe : Int) (vars : List Int) : Int := if hck N m w ≠ 0 then hck N m w else if fe ≠ 0 then fe else mpd 3 N vars
section
variable {k v : Int} {l : List Tr} (hs : (Tr.mk k v l).sml)
include hs
section
variable {n : Nat} {M J : List (List Nat)} (hL : La n M J) (hd : triB n (disP M J) = false)
include hL hd
end
end
end Go.Proofs.YtbgecpjlopdkfaaDoor
