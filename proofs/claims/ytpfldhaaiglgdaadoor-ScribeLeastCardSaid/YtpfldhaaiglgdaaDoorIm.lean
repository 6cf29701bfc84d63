import Derived.Test.YtpfldhaaiglgdaaDoorEngZj
import Derived.Test.YtpfldhaaiglgdaaDoorEngR
import Derived.Test.YtpfldhaaiglgdaaDoorCards
import Derived.Test.YtpfldhaaiglgdaaDoorTie
import Derived.Test.YtpfldhaaiglgdaaDoorGm
import Derived.Test.YtpfldhaaiglgdaaDoorGd
import Derived.Test.YtpfldhaaiglgdaaDoorFi
import Derived.Test.YtpfldhaaiglgdaaDoorFkb
import Derived.Lib.LaidTab
import Derived.MakeChecks
import Derived.Stop.LaidErr
import Derived.LaidMore
set_option linter.unusedSimpArgs false
set_option linter.unusedVariables false
set_option linter.unusedSectionVars false
set_option maxRecDepth 20000
namespace Go.Proofs.YtpfldhaaiglgdaaDoor
abbrev tabL3 : List (String × DataW Unit) := [("math/bits.deBruijn32tab", Rows.laid_math_bits_deBruijn32tab), ("math/bits.deBruijn64tab", Rows.laid_math_bits_deBruijn64tab), ("internal/strconv.uint64pow10", Rows.laid_internal_strconv_uint64pow10)]
theorem tab_laid3 (W : World) (h : laidMetH Tryd.prog tabL3 W) : TabG [] W [] := by
  rw [MakeChecks.laidMetH_plain _ _ _ (by kernel_rfl)] at h
  have hT : Lib.TabIs Tryd.prog W "math/bits.deBruijn64tab" .u8 (tz64.map fun (z : Nat) => (z : Int)) :=
    Lib.tabIs_of_head (g := 2) (by kernel_rfl) rfl Tryd.underlying226 Tryd.underlying5 (by kernel_rfl) (by kernel_rfl) h.tail
  have hg : Tryd.prog.globalNamed "math/bits.deBruijn64tab" = some 2 := by kernel_rfl
  have hc : ∀ k, k < 64 → W.cell? ⟨2, k, none⟩ = some (.int .u8 ((tz64.getD k 0 : Nat) : Int)) := fun k hk => by
    have := hT.cell hg k (by rw [List.length_map]; exact hk)
    rw [this, List.getD_eq_getElem?_getD, List.getElem?_map, List.getElem?_eq_getElem (show k < tz64.length from hk), List.getD_eq_getElem?_getD, List.getElem?_eq_getElem (show k < tz64.length from hk)]; rfl
  have one : ∀ p, p ∈ Tab → p = (2, tabN tz64) := fun p hp => List.mem_singleton.1 hp
  refine ⟨fun p _ ho => noM_own ho, fun p hp => ?_, fun p hp k v hv => ?_⟩
  · rw [one p hp]
    exact World.block_lt_of_cell? W _ (hc 0 (by decide))
  · rw [one p hp] at hv ⊢
    have hk : k < 64 := by
      have := (List.getElem?_eq_some_iff.1 hv).1
      unfold tabN at this
      rw [List.length_map] at this
      exact this
    rw [tab_get hk] at hv
    obtain rfl := Option.some.inj hv
    exact hc k hk
end Go.Proofs.YtpfldhaaiglgdaaDoor
set_option linter.unusedSimpArgs false
set_option linter.unusedVariables false
set_option linter.unusedSectionVars false
set_option maxRecDepth 20000
namespace Go.Proofs.YtpfldhaaiglgdaaDoor
attribute [local irreducible] QOp aL aC qL
/-- The covers. -/
def cvs (n : Nat) (ns : List Nat) : List (Nat × Nat) := prsTo n (pf n ns true) n
theorem cvs_mem {n : Nat} {ns : List Nat} {a b : Nat} : (a, b) ∈ cvs n ns ↔ a < n ∧ b < n ∧ lt ns a b = true ∧ ∀ c, c < n → ¬ (lt ns a c = true ∧ lt ns c b = true) := by
  unfold cvs
  rw [prs_mem]
  unfold pf
  rw [Bool.and_eq_true, Bool.not_true, Bool.false_or, Bool.not_eq_true']
  unfold btw
  rw [List.any_eq_false]
  constructor
  · rintro ⟨h1, h2, h3, h4⟩
    exact ⟨h1, h2, h3, fun c hc h => h4 c (List.mem_range.2 hc) (by rw [Bool.and_eq_true]; exact h)⟩
  · rintro ⟨h1, h2, h3, h4⟩
    exact ⟨h1, h2, h3, fun c hc h => h4 c (List.mem_range.1 hc) (by rw [Bool.and_eq_true] at h; exact h)⟩
theorem reach_lt {n : Nat} {ns : List Nat} (hok : okB n ns = true) {l : List (Nat × Nat)} (hl : ∀ p ∈ l, p ∈ cvs n ns) {a b : Nat} (h : Reach l a b) : a < n ∧ b < n ∧ lt ns a b = true := by
  induction h with
  | one h =>
    obtain ⟨h1, h2, h3, _⟩ := cvs_mem.1 (hl _ h)
    exact ⟨h1, h2, h3⟩
  | more _ h ih =>
    obtain ⟨h1, h2, h3, _⟩ := cvs_mem.1 (hl _ h)
    exact ⟨ih.1, h2, okB_tr hok h2 h1 h3 ih.2.2⟩
theorem lt_reach {n : Nat} {ns : List Nat} (hok : okB n ns = true) : ∀ d a b, a < n → b < n → lt ns a b = true → hgt n ns b - hgt n ns a ≤ d → Reach (cvs n ns) a b := by
  intro d
  induction d with
  | zero =>
    intro a b ha hb h hd
    have := hgt_up hok ha hb h
    omega
  | succ d ih =>
    intro a b ha hb h hd
    by_cases hex : ∃ c, c < n ∧ lt ns a c = true ∧ lt ns c b = true
    · obtain ⟨c, hc, h1, h2⟩ := hex
      have g1 := hgt_up hok ha hc h1
      have g2 := hgt_up hok hc hb h2
      exact (ih a c ha hc h1 (by omega)).trans (ih c b hc hb h2 (by omega))
    · exact .one (cvs_mem.2 ⟨ha, hb, h, fun c hc h1 => hex ⟨c, hc, h1⟩⟩)
theorem cvs_lt {n : Nat} {ns : List Nat} : ∀ p ∈ cvs n ns, p.1 < n ∧ p.2 < n := fun p hp => by
  obtain ⟨h1, h2, _⟩ := (cvs_mem (a := p.1) (b := p.2)).1 hp
  exact ⟨h1, h2⟩
/-- The covers make the order. -/
theorem cvs_clos {n : Nat} {ns : List Nat} (hv : Vld n ns) (hok : okB n ns = true) : clos n (cvs n ns) = ns := by
  refine vld_ext (clos_vld cvs_lt) hv fun a b ha hb => ?_
  rw [Bool.eq_iff_iff, clos_iff cvs_lt hb]
  exact ⟨fun h => (reach_lt hok (fun _ h => h) h).2.2, fun h => lt_reach hok _ a b ha hb h (Nat.le_refl _)⟩
theorem cvs_irr {n : Nat} {ns : List Nat} (hok : okB n ns = true) {l : List (Nat × Nat)} (hl : ∀ p ∈ l, p ∈ cvs n ns) : irr n (clos n l) = true := by
  rw [irr_iff fun p hp => cvs_lt p (hl p hp)]
  intro q hq h
  have := (reach_lt hok hl h).2.2
  rw [okB_irr hok hq] at this; cases this
theorem prs_pair {n : Nat} {f : Nat → Nat → Bool} : ∀ a, (prsTo n f a).Pairwise fun p q => p ≠ q
  | 0 => by simp [prsTo]
  | a + 1 => by
    rw [prsTo_succ, List.pairwise_append]
    refine ⟨prs_pair a, ?_, fun p hp q hq e => ?_⟩
    · unfold rowTo
      rw [List.pairwise_map]
      refine List.Pairwise.imp (fun {x y} h e => ?_) ((List.pairwise_lt_range (n := n)).filter _)
      injection e with _ e
      omega
    · have h1 : p.1 < a := by
        unfold prsTo at hp
        rw [List.mem_flatMap] at hp
        obtain ⟨x, hx, hp⟩ := hp
        unfold rowTo at hp
        obtain ⟨y, _, rfl⟩ := List.mem_map.1 hp
        exact List.mem_range.1 hx
      have h2 : q.1 = a := by
        unfold rowTo at hq
        obtain ⟨y, _, rfl⟩ := List.mem_map.1 hq
        rfl
      rw [e] at h1; omega
/-- Without one of them. -/
def wout (l : List (Nat × Nat)) (k : Nat) : List (Nat × Nat) := l.take k ++ l.drop (k + 1)
end Go.Proofs.YtpfldhaaiglgdaaDoor
