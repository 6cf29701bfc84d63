import Derived.Test.YtpfldhaaiglgdaaDoorTi
import Derived.Test.YtpfldhaaiglgdaaDoorGm
import Derived.Test.YtpfldhaaiglgdaaDoorEngZw
set_option linter.unusedSimpArgs false
set_option linter.unusedVariables false
set_option linter.unusedSectionVars false
set_option maxRecDepth 20000
namespace Go.Proofs.YtpfldhaaiglgdaaDoor
attribute [local irreducible] QOp aL aC qL
theorem sqN_le2 {f g : Nat → Nat} : ∀ {k : Nat}, (∀ i, i < k → f i ≤ g i) → sqN f k ≤ sqN g k
  | 0, _ => Nat.le_refl _
  | k + 1, h => by
    have h1 := h k (by omega)
    have h2 := sqN_le2 (f := f) (g := g) (k := k) fun i hi => h i (by omega)
    rw [sqN, sqN]; omega
theorem sqN_lt {f g : Nat → Nat} : ∀ {k x : Nat}, (∀ i, i < k → f i ≤ g i) → x < k → f x < g x → sqN f k < sqN g k
  | 0, x, _, hx, _ => by omega
  | k + 1, x, h, hx, hl => by
    have h1 := h k (by omega)
    rw [sqN, sqN]
    by_cases e : x = k
    · subst e
      have := sqN_le2 (f := f) (g := g) (k := x) fun i hi => h i (by omega)
      omega
    · have := sqN_lt (f := f) (g := g) (k := k) (x := x) (fun i hi => h i (by omega)) (by omega) hl
      omega
/-- How many truths. -/
def cntM (n : Nat) (M : Nat → Nat → Bool) : Nat := sqN (fun a => cqN (M a) n) n
theorem cntM_le (n : Nat) (M : Nat → Nat → Bool) : cntM n M ≤ n * n := sqN_le fun i _ => cqN_le _ _
theorem updM_same (M : Nat → Nat → Bool) (a c : Nat) (v : Bool) : updM M a c v a c = v := by unfold updM; rw [if_pos ⟨rfl, rfl⟩]
theorem updM_true {M : Nat → Nat → Bool} {a c x y : Nat} : updM M a c true x y = true ↔ (x = a ∧ y = c) ∨ M x y = true := by
  unfold updM
  by_cases h : x = a ∧ y = c
  · rw [if_pos h]; simp [h]
  · rw [if_neg h]; simp [h]
theorem cntM_upd {n : Nat} {M : Nat → Nat → Bool} {a c : Nat} (ha : a < n) (hc : c < n) (h : M a c = false) : cntM n M < cntM n (updM M a c true) := by
  refine sqN_lt (x := a) (fun i _ => cqN_mono fun y _ hy => updM_true.2 (.inr hy)) ha ?_
  exact cqN_lt (x := c) (fun y _ hy => updM_true.2 (.inr hy)) hc h (updM_same _ _ _ _)
/-- It has the pairs, and nothing that is not come to by them. -/
structure TG (n : Nat) (l : List (Nat × Nat)) (M : Nat → Nat → Bool) : Prop where
  sup : ∀ p ∈ l, M p.1 p.2 = true
  snd : ∀ a b, a < n → b < n → M a b = true → Reach l a b
theorem TG.upd {n : Nat} {l : List (Nat × Nat)} {M : Nat → Nat → Bool} (h : TG n l M) {a b c : Nat} (ha : a < n) (hb : b < n) (hc : c < n) (h1 : M a b = true) (h2 : M b c = true) : TG n l (updM M a c true) :=
  ⟨fun p hp => updM_true.2 (.inr (h.sup p hp)), fun x y hx hy hxy => by
    rcases updM_true.1 hxy with ⟨rfl, rfl⟩ | hxy
    · exact (h.snd _ _ ha hb h1).trans (h.snd _ _ hb hc h2)
    · exact h.snd x y hx hy hxy⟩
/-- So far a pass has come. -/
def DnV (a b c a' b' c' : Nat) : Prop := a' < a ∨ (a' = a ∧ (b' < b ∨ (b' = b ∧ c' < c)))
structure PI (n : Nat) (l : List (Nat × Nat)) (M0 : Nat → Nat → Bool) (ag : Bool) (M : Nat → Nat → Bool) (a b c : Nat) : Prop where
  tg : TG n l M
  no : ag = false → M = M0 ∧ ∀ a' b' c', a' < n → b' < n → c' < n → DnV a b c a' b' c' → M a' b' = true → M b' c' = true → M a' c' = true
  ys : ag = true → cntM n M0 < cntM n M
theorem PI.start {n : Nat} {l : List (Nat × Nat)} {M : Nat → Nat → Bool} (h : TG n l M) : PI n l M false M 0 0 0 :=
  ⟨h, fun _ => ⟨rfl, fun a' b' c' _ _ _ hd => by unfold DnV at hd; omega⟩, fun h => by cases h⟩
theorem PI.to {n : Nat} {l : List (Nat × Nat)} {M0 M : Nat → Nat → Bool} {ag : Bool} {a b c a2 b2 c2 : Nat} (h : PI n l M0 ag M a b c) (hd : ∀ a' b' c', a' < n → b' < n → c' < n → DnV a2 b2 c2 a' b' c' → DnV a b c a' b' c') : PI n l M0 ag M a2 b2 c2 :=
  ⟨h.tg, fun hf => ⟨(h.no hf).1, fun a' b' c' h1 h2 h3 h4 => (h.no hf).2 a' b' c' h1 h2 h3 (hd a' b' c' h1 h2 h3 h4)⟩, h.ys⟩
theorem PI.keep {n : Nat} {l : List (Nat × Nat)} {M0 M : Nat → Nat → Bool} {ag : Bool} {a b c : Nat} (h : PI n l M0 ag M a b c) (hk : M a b = true → M b c = true → M a c = true) : PI n l M0 ag M a b (c + 1) :=
  ⟨h.tg, fun hf => ⟨(h.no hf).1, fun a' b' c' h1 h2 h3 h4 => by
    by_cases e : a' = a ∧ b' = b ∧ c' = c
    · obtain ⟨rfl, rfl, rfl⟩ := e; exact hk
    · exact (h.no hf).2 a' b' c' h1 h2 h3 (by unfold DnV at *; omega)⟩, h.ys⟩
theorem PI.upd {n : Nat} {l : List (Nat × Nat)} {M0 M : Nat → Nat → Bool} {ag : Bool} {a b c : Nat} (h : PI n l M0 ag M a b c) (ha : a < n) (hb : b < n) (hc : c < n) (h1 : M a b = true) (h2 : M b c = true) (h3 : M a c = false) : PI n l M0 true (updM M a c true) a b (c + 1) :=
  ⟨h.tg.upd ha hb hc h1 h2, fun hf => (by cases hf), fun _ => by
    have hu := cntM_upd ha hc h3
    cases hag : ag with
    | false => rw [(h.no hag).1] at hu ⊢; exact hu
    | true => exact Nat.lt_trans (h.ys hag) hu⟩
/-- Nothing turns any more. -/
def ClM (n : Nat) (M : Nat → Nat → Bool) : Prop := ∀ a b c, a < n → b < n → c < n → M a b = true → M b c = true → M a c = true
theorem PI.fin {n : Nat} {l : List (Nat × Nat)} {M0 M : Nat → Nat → Bool} (h : PI n l M0 false M n 0 0) : ClM n M :=
  fun a b c ha hb hc h1 h2 => (h.no rfl).2 a b c ha hb hc (.inl ha) h1 h2
theorem cl_reach {n : Nat} {l : List (Nat × Nat)} {M : Nat → Nat → Bool} (hl : ∀ p ∈ l, p.1 < n ∧ p.2 < n) (h : TG n l M) (hc : ClM n M) {a b : Nat} (hr : Reach l a b) : M a b = true := by
  induction hr with
  | one h1 => exact h.sup _ h1
  | more h1 h2 ih =>
    have hlt := Reach.lt hl h1
    exact hc _ _ _ hlt.1 hlt.2 (hl _ h2).2 ih (h.sup _ h2)
theorem cl_clos {n : Nat} {l : List (Nat × Nat)} {M : Nat → Nat → Bool} (hl : ∀ p ∈ l, p.1 < n ∧ p.2 < n) (h : TG n l M) (hc : ClM n M) : ofn n M = clos n l := by
  refine vld_ext (ofn_vld n M) (clos_vld hl) fun a b ha hb => ?_
  rw [ofn_lt M ha hb, Bool.eq_iff_iff, clos_iff hl hb]
  exact ⟨h.snd a b ha hb, cl_reach hl h hc⟩
theorem cl_irr {n : Nat} {l : List (Nat × Nat)} {M : Nat → Nat → Bool} (hl : ∀ p ∈ l, p.1 < n ∧ p.2 < n) (h : TG n l M) (hc : ClM n M) : irr n (clos n l) = true ↔ ∀ i, i < n → M i i = false := by
  rw [irr_iff hl]
  constructor
  · intro h1 i hi
    cases hm : M i i
    · rfl
    · exact absurd (h.snd i i hi hi hm) (h1 i hi)
  · intro h1 i hi hr
    have := cl_reach hl h hc hr
    rw [h1 i hi] at this; cases this
/-- The first i pairs. -/
def prM (l : List (Nat × Nat)) (i : Nat) (a b : Nat) : Bool := decide ((a, b) ∈ l.take i)
theorem prM_zero (l : List (Nat × Nat)) : (fun _ _ => false) = prM l 0 := by
  funext a b; simp [prM]
theorem prM_succ {l : List (Nat × Nat)} {i : Nat} (h : i < l.length) : updM (prM l i) (l.getD i (0, 0)).1 (l.getD i (0, 0)).2 true = prM l (i + 1) := by
  funext a b
  rw [Bool.eq_iff_iff, updM_true]
  unfold prM
  rw [decide_eq_true_eq, decide_eq_true_eq, List.take_add_one, List.getElem?_eq_getElem h, List.getD_eq_getElem?_getD, List.getElem?_eq_getElem h, List.mem_append]
  simp only [Option.getD_some, Option.toList_some, List.mem_singleton, Prod.ext_iff]
  exact Or.comm
theorem prM_tg {n : Nat} {l : List (Nat × Nat)} : TG n l (prM l l.length) :=
  ⟨fun p hp => by unfold prM; rw [decide_eq_true_eq, List.take_length]; exact hp, fun a b _ _ h => by
    unfold prM at h
    rw [decide_eq_true_eq, List.take_length] at h
    exact .one h⟩
end Go.Proofs.YtpfldhaaiglgdaaDoor
