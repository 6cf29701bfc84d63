import Derived.Test.YtbgecpjlopdkfaaDoorSrp
import Derived.Test.YtbgecpjlopdkfaaDoorFe
import Derived.Test.YtbgecpjlopdkfaaDoorFkb
set_option linter.unusedSimpArgs false
set_option linter.unusedVariables false
set_option linter.unusedSectionVars false
set_option maxRecDepth 20000
namespace Go.Proofs.YtbgecpjlopdkfaaDoor
attribute [local irreducible] QOp aL aC qL
def apZ (ns : List Nat) (x y : Nat) : Bool := decide (x ≠ y) && (!lt ns x y && !lt ns y x)
def zqQ (ns : List Nat) (a b c d : Nat) : Bool := lt ns a c && lt ns b c && lt ns b d && apZ ns a b && apZ ns a d && apZ ns c d
end Go.Proofs.YtbgecpjlopdkfaaDoor
set_option linter.unusedSimpArgs false
set_option linter.unusedVariables false
set_option linter.unusedSectionVars false
set_option maxRecDepth 20000
namespace Go.Proofs.YtbgecpjlopdkfaaDoor
attribute [local irreducible] QOp aL aC qL
theorem zg_eq {n : Nat} {ns : List Nat} (hok : okB n ns = true) {a b c d : Nat} (ha : a < n) (hb : b < n) (hc : c < n) (hd : d < n) : zgQ ns a b c d = (qdD a b c d && zqQ ns a b c d) := by
  have asy : ∀ x y, x < n → y < n → lt ns x y = true → lt ns y x = false := fun x y hx hy h => by
    cases h2 : lt ns y x
    · rfl
    · have := okB_tr hok hx hy h2 h
      rw [okB_irr hok hx] at this; cases this
  have s1 := asy a c ha hc
  have s2 := asy b c hb hc
  have s3 := asy b d hb hd
  clear asy
  rw [Bool.eq_iff_iff]
  unfold zgQ zgA zqQ apZ qdD
  rw [show [a, b, c, d].length = 4 from rfl, show List.range 4 = [0, 1, 2, 3] from rfl]
  unfold zgG wnZ
  simp only [List.all_cons, List.all_nil, List.getD_cons_zero, List.getD_cons_succ, Bool.and_true, Bool.and_eq_true, Bool.or_eq_true, decide_eq_true_eq, Bool.not_eq_true', decide_eq_false_iff_not, beq_iff_eq]
  constructor
  · intro h
    simp_all
  · intro h
    have e1 := fun h : a = b => h
    simp_all
    refine ⟨?_, ?_, ?_⟩ <;> (try omega)
theorem qd_eq {n : Nat} {ns : List Nat} (hok : okB n ns = true) {k : Nat} (hk : k < n * n * n * n) : qdB n (zgQ ns) k = qdB n (zqQ ns) k := by
  have h0 : 0 < n := by
    rcases Nat.eq_zero_or_pos n with h | h
    · subst h; simp at hk
    · exact h
  have e := zg_eq hok (a := k / (n * n * n)) (b := k / (n * n) % n) (c := k / n % n) (d := k % n) (Nat.div_lt_of_lt_mul hk) (Nat.mod_lt _ h0) (Nat.mod_lt _ h0) (Nat.mod_lt _ h0)
  show (_ && zgQ ns _ _ _ _) = (_ && zqQ ns _ _ _ _)
  rw [e]
  cases qdD (k / (n * n * n)) (k / (n * n) % n) (k / n % n) (k % n) <;> rfl
theorem qdF_congr {p q : Nat → Bool} : ∀ {m : Nat}, (∀ k, k < m → p k = q k) → qdF p m = qdF q m
  | 0, _ => rfl
  | m + 1, h => by
    unfold qdF
    rw [qdF_congr (m := m) (fun k hk => h k (by omega)), h m (by omega)]
theorem zig_eq {n : Nat} {ns : List Nat} (hok : okB n ns = true) : qdR n (zgQ ns) = qdR n (zqQ ns) ∧ qdY n (zgQ ns) = qdY n (zqQ ns) := by
  have e : qdF (qdB n (zgQ ns)) (n * n * n * n) = qdF (qdB n (zqQ ns)) (n * n * n * n) := qdF_congr fun k hk => qd_eq hok hk
  constructor
  · unfold qdR; rw [e]
  · unfold qdY; rw [e]
end Go.Proofs.YtbgecpjlopdkfaaDoor
