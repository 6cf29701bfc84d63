import Derived.Test.YtfjpgficpdbelaaGm
import Derived.Test.YtfjpgficpdbelaaGd
import Derived.Test.YtfjpgficpdbelaaFi
import Derived.Test.YtfjpgficpdbelaaFkb
set_option linter.unusedSimpArgs false
set_option linter.unusedVariables false
set_option linter.unusedSectionVars false
set_option maxRecDepth 20000
namespace Go.Proofs.Ytfjpgficpdbelaa
attribute [local irreducible] QOp aL aC qL
/-- The covers. -/
def cvs (n : Nat) (ns : List Nat) : List (Nat × Nat) := prsTo n (pf n ns true) n
theorem cvs_mem {n : Nat} {ns : List Nat} {a b : Nat} : (a, b) ∈ cvs n ns ↔ a < n ∧ b < n ∧ lt ns a b = true ∧ ∀ c, c < n → ¬ (lt ns a c = true ∧ lt ns c b = true) := by
  unfold cvs
  rw [prs_mem]
  unfold pf
  rw [Bool.and_eq_true, Bool.not_true, Bool.false_or, Bool.not_eq_true']
  unfold btw
  rw [List.any_eq_false]
  constructor
  · rintro ⟨h1, h2, h3, h4⟩
    exact ⟨h1, h2, h3, fun c hc h => h4 c (List.mem_range.2 hc) (by rw [Bool.and_eq_true]; exact h)⟩
  · rintro ⟨h1, h2, h3, h4⟩
    exact ⟨h1, h2, h3, fun c hc h => h4 c (List.mem_range.1 hc) (by rw [Bool.and_eq_true] at h; exact h)⟩
theorem reach_lt {n : Nat} {ns : List Nat} (hok : okB n ns = true) {l : List (Nat × Nat)} (hl : ∀ p ∈ l, p ∈ cvs n ns) {a b : Nat} (h : Reach l a b) : a < n ∧ b < n ∧ lt ns a b = true := by
  induction h with
  | one h =>
    obtain ⟨h1, h2, h3, _⟩ := cvs_mem.1 (hl _ h)
    exact ⟨h1, h2, h3⟩
  | more _ h ih =>
    obtain ⟨h1, h2, h3, _⟩ := cvs_mem.1 (hl _ h)
    exact ⟨ih.1, h2, okB_tr hok h2 h1 h3 ih.2.2⟩
theorem lt_reach {n : Nat} {ns : List Nat} (hok : okB n ns = true) : ∀ d a b, a < n → b < n → lt ns a b = true → hgt n ns b - hgt n ns a ≤ d → Reach (cvs n ns) a b := by
  intro d
  induction d with
  | zero =>
    intro a b ha hb h hd
    have := hgt_up hok ha hb h
    omega
  | succ d ih =>
    intro a b ha hb h hd
    by_cases hex : ∃ c, c < n ∧ lt ns a c = true ∧ lt ns c b = true
    · obtain ⟨c, hc, h1, h2⟩ := hex
      have g1 := hgt_up hok ha hc h1
      have g2 := hgt_up hok hc hb h2
      exact (ih a c ha hc h1 (by omega)).trans (ih c b hc hb h2 (by omega))
    · exact .one (cvs_mem.2 ⟨ha, hb, h, fun c hc h1 => hex ⟨c, hc, h1⟩⟩)
theorem cvs_lt {n : Nat} {ns : List Nat} : ∀ p ∈ cvs n ns, p.1 < n ∧ p.2 < n := fun p hp => by
  obtain ⟨h1, h2, _⟩ := (cvs_mem (a := p.1) (b := p.2)).1 hp
  exact ⟨h1, h2⟩
/-- The covers make the order. -/
theorem cvs_clos {n : Nat} {ns : List Nat} (hv : Vld n ns) (hok : okB n ns = true) : clos n (cvs n ns) = ns := by
  refine vld_ext (clos_vld cvs_lt) hv fun a b ha hb => ?_
  rw [Bool.eq_iff_iff, clos_iff cvs_lt hb]
  exact ⟨fun h => (reach_lt hok (fun _ h => h) h).2.2, fun h => lt_reach hok _ a b ha hb h (Nat.le_refl _)⟩
/-- Without one of them. -/
def wout (l : List (Nat × Nat)) (k : Nat) : List (Nat × Nat) := l.take k ++ l.drop (k + 1)
end Go.Proofs.Ytfjpgficpdbelaa
