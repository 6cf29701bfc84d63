/- The covers make the order, and none of them can be left out (plain); slices of pairs that are read, cut. -/
import Derived.Test.YteingglnhmfieaaGm
import Derived.Test.YteingglnhmfieaaGd
import Derived.Test.YteingglnhmfieaaFi
import Derived.Test.YteingglnhmfieaaFkb
set_option linter.unusedSimpArgs false
set_option linter.unusedVariables false
namespace Go.Proofs.Yteingglnhmfieaa
attribute [local irreducible] QOp aL aC qL
/-- The covers. -/
def cvs (n : Nat) (ns : List Nat) : List (Nat × Nat) := prsTo n (pf n ns true) n
theorem cvs_mem {n : Nat} {ns : List Nat} {a b : Nat} : (a, b) ∈ cvs n ns ↔ a < n ∧ b < n ∧ lt ns a b = true ∧ ∀ c, c < n → ¬ (lt ns a c = true ∧ lt ns c b = true) := by
  unfold cvs
  rw [prs_mem]
  unfold pf
  rw [Bool.and_eq_true, Bool.not_true, Bool.false_or, Bool.not_eq_true']
  unfold btw
  rw [List.any_eq_false]
  constructor
  · rintro ⟨h1, h2, h3, h4⟩
    exact ⟨h1, h2, h3, fun c hc h => h4 c (List.mem_range.2 hc) (by rw [Bool.and_eq_true]; exact h)⟩
  · rintro ⟨h1, h2, h3, h4⟩
    exact ⟨h1, h2, h3, fun c hc h => h4 c (List.mem_range.1 hc) (by rw [Bool.and_eq_true] at h; exact h)⟩
theorem reach_lt {n : Nat} {ns : List Nat} (hok : okB n ns = true) {l : List (Nat × Nat)} (hl : ∀ p ∈ l, p ∈ cvs n ns) {a b : Nat} (h : Reach l a b) : a < n ∧ b < n ∧ lt ns a b = true := by
  induction h with
  | one h =>
    obtain ⟨h1, h2, h3, _⟩ := cvs_mem.1 (hl _ h)
    exact ⟨h1, h2, h3⟩
  | more _ h ih =>
    obtain ⟨h1, h2, h3, _⟩ := cvs_mem.1 (hl _ h)
    exact ⟨ih.1, h2, okB_tr hok h2 h1 h3 ih.2.2⟩
theorem lt_reach {n : Nat} {ns : List Nat} (hok : okB n ns = true) : ∀ d a b, a < n → b < n → lt ns a b = true → hgt n ns b - hgt n ns a ≤ d → Reach (cvs n ns) a b := by
  intro d
  induction d with
  | zero =>
    intro a b ha hb h hd
    have := hgt_up hok ha hb h
    omega
  | succ d ih =>
    intro a b ha hb h hd
    by_cases hex : ∃ c, c < n ∧ lt ns a c = true ∧ lt ns c b = true
    · obtain ⟨c, hc, h1, h2⟩ := hex
      have g1 := hgt_up hok ha hc h1
      have g2 := hgt_up hok hc hb h2
      exact (ih a c ha hc h1 (by omega)).trans (ih c b hc hb h2 (by omega))
    · exact .one (cvs_mem.2 ⟨ha, hb, h, fun c hc h1 => hex ⟨c, hc, h1⟩⟩)
theorem cvs_lt {n : Nat} {ns : List Nat} : ∀ p ∈ cvs n ns, p.1 < n ∧ p.2 < n := fun p hp => by
  obtain ⟨h1, h2, _⟩ := (cvs_mem (a := p.1) (b := p.2)).1 hp
  exact ⟨h1, h2⟩
/-- The covers make the order. -/
theorem cvs_clos {n : Nat} {ns : List Nat} (hv : Vld n ns) (hok : okB n ns = true) : clos n (cvs n ns) = ns := by
  refine vld_ext (clos_vld cvs_lt) hv fun a b ha hb => ?_
  rw [Bool.eq_iff_iff, clos_iff cvs_lt hb]
  exact ⟨fun h => (reach_lt hok (fun _ h => h) h).2.2, fun h => lt_reach hok _ a b ha hb h (Nat.le_refl _)⟩
theorem cvs_irr {n : Nat} {ns : List Nat} (hok : okB n ns = true) {l : List (Nat × Nat)} (hl : ∀ p ∈ l, p ∈ cvs n ns) : irr n (clos n l) = true := by
  rw [irr_iff fun p hp => cvs_lt p (hl p hp)]
  intro q hq h
  have := (reach_lt hok hl h).2.2
  rw [okB_irr hok hq] at this; cases this
theorem prs_pair {n : Nat} {f : Nat → Nat → Bool} : ∀ a, (prsTo n f a).Pairwise fun p q => p ≠ q
  | 0 => by simp [prsTo]
  | a + 1 => by
    rw [prsTo_succ, List.pairwise_append]
    refine ⟨prs_pair a, ?_, fun p hp q hq e => ?_⟩
    · unfold rowTo
      rw [List.pairwise_map]
      refine List.Pairwise.imp (fun {x y} h e => ?_) ((List.pairwise_lt_range (n := n)).filter _)
      injection e with _ e
      omega
    · have h1 : p.1 < a := by
        unfold prsTo at hp
        rw [List.mem_flatMap] at hp
        obtain ⟨x, hx, hp⟩ := hp
        unfold rowTo at hp
        obtain ⟨y, _, rfl⟩ := List.mem_map.1 hp
        exact List.mem_range.1 hx
      have h2 : q.1 = a := by
        unfold rowTo at hq
        obtain ⟨y, _, rfl⟩ := List.mem_map.1 hq
        rfl
      rw [e] at h1; omega
/-- Without one of them. -/
def wout (l : List (Nat × Nat)) (k : Nat) : List (Nat × Nat) := l.take k ++ l.drop (k + 1)
theorem wout_sub {l : List (Nat × Nat)} {k : Nat} : ∀ p ∈ wout l k, p ∈ l := fun p hp => by
  unfold wout at hp
  rcases List.mem_append.1 hp with h | h
  · exact List.mem_of_mem_take h
  · exact List.mem_of_mem_drop h
theorem wout_not {n : Nat} {ns : List Nat} {k : Nat} (hk : k < (cvs n ns).length) : (cvs n ns)[k] ∉ wout (cvs n ns) k := by
  intro h
  have hp := prs_pair (n := n) (f := pf n ns true) n
  rw [List.pairwise_iff_getElem] at hp
  unfold wout at h
  rcases List.mem_append.1 h with h | h
  · obtain ⟨i, hi, he⟩ := List.getElem_of_mem h
    rw [List.getElem_take] at he
    rw [List.length_take] at hi
    exact hp i k (by show i < (cvs n ns).length; omega) hk (by omega) he
  · obtain ⟨i, hi, he⟩ := List.getElem_of_mem h
    rw [List.getElem_drop] at he
    rw [List.length_drop] at hi
    exact hp k (k + 1 + i) hk (by show k + 1 + i < (cvs n ns).length; omega) (by omega) he.symm
/-- None of them can be left out. -/
theorem wout_clos {n : Nat} {ns : List Nat} (hok : okB n ns = true) {k : Nat} (hk : k < (cvs n ns).length) : clos n (wout (cvs n ns) k) ≠ ns := by
  intro e
  have hs : ∀ p ∈ wout (cvs n ns) k, p ∈ cvs n ns := wout_sub
  have hnot := wout_not hk
  generalize hab : (cvs n ns)[k] = p at hnot
  obtain ⟨a, b⟩ := p
  obtain ⟨ha, hb, hlt, hno⟩ := cvs_mem.1 (show (a, b) ∈ cvs n ns by rw [← hab]; exact List.getElem_mem hk)
  have h1 : lt (clos n (wout (cvs n ns) k)) a b = true := by rw [e]; exact hlt
  rw [clos_iff (fun p hp => cvs_lt p (hs p hp)) hb] at h1
  cases h1 with
  | one h => exact hnot h
  | more h h2 =>
    obtain ⟨_, hc, g1⟩ := reach_lt hok hs h
    obtain ⟨_, _, g2, _⟩ := cvs_mem.1 (hs _ h2)
    exact hno _ hc ⟨g1, g2⟩
end Go.Proofs.Yteingglnhmfieaa
