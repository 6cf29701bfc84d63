import Derived.Test.YtdbngpkbamhbeaaIs
import Derived.Test.YtdbngpkbamhbeaaIp
import Derived.Test.YtdbngpkbamhbeaaIr
import Derived.Test.YtdbngpkbamhbeaaEngT
set_option linter.unusedSimpArgs false
set_option linter.unusedVariables false
set_option linter.unusedSectionVars false
set_option maxRecDepth 20000
namespace Go.Proofs.Ytdbngpkbamhbeaa
attribute [local irreducible] QOp aL aC qL
def mpd (N to : Int) (f : List Int) : Int := if (f.length : Int) ≠ N then 1 else if f.any (badI to) = true then 3 else 0
def gchk (N : Int) (m w : List (List Int)) (N' : Int) (m' w' : List (List Int)) (f : List Int) : Int :=
  if lck N m w ≠ 0 then lck N m w else if lck N' m' w' ≠ 0 then lck N' m' w' else mpd N N' f
/-- Two lattices and a map from the one to the other. -/
structure Gk (n : Nat) (M J : List (List Nat)) (k : Nat) (M' J' : List (List Nat)) (F : List Nat) : Prop where
  n1 : 1 ≤ n
  n2 : n ≤ 40
  k1 : 1 ≤ k
  k2 : k ≤ 40
  sM : Sq n M
  sJ : Sq n J
  sM' : Sq k M'
  sJ' : Sq k J'
  A : Lt n (ta M) (ta J)
  B : Lt k (ta M') (ta J')
  fl : F.length = n
  ff : ∀ x, x < n → F.getD x 0 < k
theorem mpd_none {N to : Int} {f : List Int} (h1 : (f.length : Int) = N) (h : ∀ x, x < f.length → 0 ≤ f.getD x 0 ∧ f.getD x 0 < to) : mpd N to f = 0 := by
  unfold mpd
  rw [if_neg (by omega), if_neg]
  rw [List.any_eq_true]
  rintro ⟨r, hr, hb⟩
  obtain ⟨i, hi, rfl⟩ := List.getElem_of_mem hr
  have := h i hi
  rw [List.getD_eq_getElem?_getD, List.getElem?_eq_getElem hi] at this
  unfold badI at hb
  rw [decide_eq_true_eq] at hb
  have e : (some f[i]).getD 0 = f[i] := rfl
  omega
theorem lck_of {n : Nat} {M J : List (List Nat)} (h1 : 1 ≤ n) (h2 : n ≤ 40) (hM : Sq n M) (hJ : Sq n J) (L : Lt n (ta M) (ta J)) : lck n (tn M) (tn J) = 0 := by
  rw [lck_tn h1 h2 hM hJ, if_pos]
  unfold lawB
  rw [Bool.and_eq_true, decide_eq_true_eq, decide_eq_true_eq]
  exact ⟨L.lf, L.lg⟩
theorem Gk.mp {n k : Nat} {M J M' J' : List (List Nat)} {F : List Nat} (h : Gk n M J k M' J' F) : mpd n k (nl F) = 0 := mpd_none (by rw [nl_len, h.fl]) fun x hx => by
  rw [nl_len, h.fl] at hx
  rw [nl_get]
  have := h.ff x hx
  omega
theorem Gk.zero {n k : Nat} {M J M' J' : List (List Nat)} {F : List Nat} (h : Gk n M J k M' J' F) : gchk n (tn M) (tn J) k (tn M') (tn J') (nl F) = 0 := by
  unfold gchk
  rw [lck_of h.n1 h.n2 h.sM h.sJ h.A, lck_of h.k1 h.k2 h.sM' h.sJ' h.B, h.mp]
  rfl
structure Fin1 (m : List (List Int)) : Prop where
  len : m.length ≤ 9223372036854775807
  row : ∀ r ∈ m, r.length ≤ 9223372036854775807
def l2 (N : Int) (m w : List (List Int)) (N' : Int) (m' w' : List (List Int)) (i : Nat) : Int × List (List Int) × List (List Int) := [(N, m, w), (N', m', w')].getD i (0, [], [])
end Go.Proofs.Ytdbngpkbamhbeaa
set_option linter.unusedSimpArgs false
set_option linter.unusedVariables false
set_option linter.unusedSectionVars false
set_option maxRecDepth 20000
namespace Go.Proofs.Ytdbngpkbamhbeaa
attribute [local irreducible] QOp aL aC qL
/-- The map of a list. -/
abbrev fa (F : List Nat) (x : Nat) : Nat := F.getD x 0
section
variable {P : Program} {st : St} {d : Option Tmp} {ty : TypeId} {pos : String} {af : Array Edge} {g : Option (Nat × Bool)}
structure Mp (n k : Nat) (F : List Nat) : Prop where
  len : F.length = n
  lt : ∀ x, x < n → fa F x < k
end
abbrev keepsB (n : Nat) (M J : List (List Nat)) (k : Nat) (M' J' : List (List Nat)) (F : List Nat) : Bool := decide (KeepsP n (endE (ta M) n) (endE (ta M') k) (ta J) (ta J') (fa F))
end Go.Proofs.Ytdbngpkbamhbeaa
set_option linter.unusedSimpArgs false
set_option linter.unusedVariables false
set_option linter.unusedSectionVars false
set_option maxRecDepth 20000
namespace Go.Proofs.Ytdbngpkbamhbeaa
attribute [local irreducible] QOp aL aC qL
abbrev Og (n : Nat) (M M' : List (List Nat)) (F : List Nat) (y x : Nat) : Prop := OrgP n (ta M) (ta M') (fa F) y x
/-- The way back, as far as there is one. -/
structure BkTo (n k m : Nat) (M M' : List (List Nat)) (F G : List Nat) : Prop where
  bk : Bk n m (ta M) (ta M') (fa F) G
  le : m ≤ k
  stop : m < k → ∀ x, x < n → ¬ Og n M M' F m x
theorem BkTo.hit {n k m y : Nat} {M M' : List (List Nat)} {F G : List Nat} (h : BkTo n k m M M' F G) (hy : y < m) : fa G y < n ∧ Og n M M' F y (fa G y) := h.bk.ok y hy
abbrev bkRes (k m : Nat) : AV := if m = k then .tup [.own 0, .val (.bool true), .val (.int .i64 0)] else .tup [.val (.slice none 0 0), .val (.bool false), .val (.int .i64 0)]
end Go.Proofs.Ytdbngpkbamhbeaa
