import Derived.Test.YtbgecpjlopdkfaaDoorSsb
import Derived.Test.YtbgecpjlopdkfaaDoorSrc
import Derived.Test.YtbgecpjlopdkfaaDoorWna
set_option linter.unusedSimpArgs false
set_option linter.unusedVariables false
set_option linter.unusedSectionVars false
set_option maxRecDepth 20000
namespace Go.Proofs.YtbgecpjlopdkfaaDoor
attribute [local irreducible] QOp aL aC qL
def Tr.kd : Tr → Int
  | .mk k _ _ => k
def t000 : Tr := .mk 0 0 []
/-- The last kid that holds a point; -1: none. -/
def kx (l : List Tr) (a : Int) : Nat → Int
  | 0 => -1
  | i + 1 => if a ∈ (l.getD i t000).pts then (i : Int) else kx l a i
def tls : Nat → Tr → Int → Int → Bool
  | 0, _, _, _ => false
  | f + 1, .mk k _ l, a, b => if kx l a l.length < 0 ∨ kx l a l.length = kx l b l.length then decide (0 ≤ kx l a l.length) && tls f (l.getD (kx l a l.length).toNat t000) a b else decide (k = 3) && decide (kx l a l.length < kx l b l.length)
/-- The least of the first. -/
def lsN (l : List Int) : Nat → Int
  | 0 => l.getD 0 0
  | i + 1 => if l.getD i 0 < lsN l i then l.getD i 0 else lsN l i
mutual
def Tr.can : Tr → Bool
  | .mk k _ l => kcan k (-1) l
def kcan (k last : Int) : List Tr → Bool
  | [] => true
  | t :: r => decide (t.kd ≠ k) && t.can && !(decide (k = 2) && decide (lsN t.pts t.pts.length ≤ last)) && kcan k (lsN t.pts t.pts.length) r
end
theorem lsN_le (l : List Int) : ∀ (i j : Nat), j < i → lsN l i ≤ l.getD j 0
  | 0, j, h => by omega
  | i + 1, j, h => by
    unfold lsN
    by_cases e : j = i
    · subst e; split <;> omega
    · have := lsN_le l i j (by omega)
      split <;> omega
theorem lsN_mem (l : List Int) (h0 : 0 < l.length) : ∀ (i : Nat), i ≤ l.length → lsN l i ∈ l
  | 0, _ => getD_mem' h0
  | i + 1, h => by
    unfold lsN
    split
    · exact getD_mem' (by omega)
    · exact lsN_mem l h0 i (by omega)
theorem lsN_eq {l : List Int} {m : Int} (hm : m ∈ l) (hl : ∀ y ∈ l, m ≤ y) : lsN l l.length = m := by
  obtain ⟨j, hj, e⟩ := List.getElem_of_mem hm
  have h1 := lsN_le l l.length j hj
  rw [List.getD_eq_getElem?_getD, List.getElem?_eq_getElem hj] at h1
  have h1 : lsN l l.length ≤ l[j] := h1
  have h2 := hl _ (lsN_mem l (by omega) l.length (Nat.le_refl _))
  omega
theorem kx_eq {l : List Tr} {a : Int} {i : Nat} (hi : a ∈ (l.getD i t000).pts) : ∀ {m : Nat}, i < m → (∀ j, j < m → j ≠ i → a ∉ (l.getD j t000).pts) → kx l a m = i
  | 0, h, _ => by omega
  | m + 1, h, hu => by
    unfold kx
    by_cases e : m = i
    · subst e; rw [if_pos hi]
    · rw [if_neg (hu m (by omega) e)]
      exact kx_eq hi (by omega) fun j hj => hu j (by omega)
/-- Sets and terms side by side. -/
inductive Two (Q : Nat → Tr → Prop) : List Nat → List Tr → Prop where
  | nil : Two Q [] []
  | cons {p : Nat} {t : Tr} {ps : List Nat} {l : List Tr} : Q p t → Two Q ps l → Two Q (p :: ps) (t :: l)
theorem spL_two {g : Nat → Option Tr} {Q : Nat → Tr → Prop} : ∀ {ps : List Nat} {l : List Tr}, spL g ps = some l → (∀ p ∈ ps, ∀ t, g p = some t → Q p t) → Two Q ps l
  | [], l, h, _ => by
    unfold spL at h
    obtain rfl := Option.some.inj h
    exact .nil
  | p :: ps, l, h, hq => by
    unfold spL at h
    rcases hg : g p with _ | t
    · rw [hg] at h; cases h
    · rw [hg] at h
      rcases hr : spL g ps with _ | r
      · rw [hr] at h; cases h
      · rw [hr] at h
        obtain rfl := Option.some.inj h
        exact .cons (hq p List.mem_cons_self t hg) (spL_two hr fun p hp => hq p (List.mem_cons_of_mem _ hp))
theorem spL_some {g : Nat → Option Tr} : ∀ {ps : List Nat}, (∀ p ∈ ps, ∃ t, g p = some t) → ∃ l, spL g ps = some l
  | [], _ => ⟨[], rfl⟩
  | p :: ps, h => by
    obtain ⟨t, ht⟩ := h p List.mem_cons_self
    obtain ⟨l, hl⟩ := spL_some (ps := ps) fun p hp => h p (List.mem_cons_of_mem _ hp)
    refine ⟨t :: l, ?_⟩
    unfold spL
    rw [ht, hl]; rfl
theorem spL_none {g : Nat → Option Tr} {p : Nat} (hg : g p = none) : ∀ {ps : List Nat}, p ∈ ps → spL g ps = none
  | q :: ps, h => by
    unfold spL
    rcases List.mem_cons.1 h with rfl | h
    · rw [hg]
    · rw [spL_none hg h]
      cases g q <;> rfl
theorem Two.len {Q : Nat → Tr → Prop} {ps : List Nat} {l : List Tr} (h : Two Q ps l) : l.length = ps.length := by
  induction h with
  | nil => rfl
  | cons _ _ ih => rw [List.length_cons, List.length_cons, ih]
theorem Two.get {Q : Nat → Tr → Prop} {ps : List Nat} {l : List Tr} (h : Two Q ps l) : ∀ {i : Nat}, i < ps.length → Q (ps.getD i 0) (l.getD i t000) := by
  induction h with
  | nil => intro i hi; cases hi
  | cons hq _ ih =>
    intro i hi
    cases i with
    | zero => exact hq
    | succ i => exact ih (by simpa using hi)
def InS (s : Nat) (x : Int) : Prop := ∃ i : Nat, s.testBit i = true ∧ x = (i : Int)
/-- What is right of a term of some points. -/
structure SpG (ns : List Nat) (s : Nat) (t : Tr) : Prop where
  kd : t.kd = if (mbs s).length = 1 then 1 else if (pcsF (abvS ns) 1024 s).length = 1 then 3 else 2
  co : t.kd = 3 → 2 ≤ (pcsF (fun a b => !abvS ns a b) 1024 s).length
  nd : t.pts.Nodup
  mem : ∀ x, x ∈ t.pts ↔ InS s x
  frm : t.frm = 0
  can : t.can = true
  cnt : t.cnt + 1 ≤ 2 * t.pts.length
  less : ∀ f, t.dep ≤ f → ∀ a b : Nat, s.testBit a = true → s.testBit b = true → tls f t a b = lt ns a b
theorem InS.low {s : Nat} (hs : s < 1024) (h0 : s ≠ 0) : InS s (lowkS s : Int) ∧ ∀ x, InS s x → (lowkS s : Int) ≤ x := by
  obtain ⟨_, _, h1, h2⟩ := low_atS hs (by omega)
  refine ⟨⟨_, h1, rfl⟩, fun x ⟨i, hi, e⟩ => ?_⟩
  subst e
  rcases Nat.lt_or_ge i (lowkS s) with h | h
  · rw [h2 i h] at hi; cases hi
  · omega
def Dsj (p q : Nat) : Prop := lowkS p < lowkS q ∧ ∀ i, p.testBit i = true → q.testBit i = true → False
def DsO (p q : Nat) : Prop := ∀ i, p.testBit i = true → q.testBit i = true → False
theorem two_mem {ns : List Nat} {ps : List Nat} {l : List Tr} (h : Two (SpG ns) ps l) : ∀ x, x ∈ kpts l ↔ ∃ p ∈ ps, InS p x := by
  induction h with
  | nil => intro x; unfold kpts; simp
  | cons hq _ ih =>
    intro x
    unfold kpts
    rw [List.mem_append, hq.mem, ih]
    simp
theorem two_nd {ns : List Nat} {ps : List Nat} {l : List Tr} (h : Two (SpG ns) ps l) : ps.Pairwise DsO → (kpts l).Nodup := by
  induction h with
  | nil => intro _; unfold kpts; exact List.nodup_nil
  | cons hq hr ih =>
    intro hp
    rw [List.pairwise_cons] at hp
    unfold kpts
    refine List.nodup_append.2 ⟨hq.nd, ih hp.2, fun x hx y hy e => ?_⟩
    subst e
    obtain ⟨i, hi, e⟩ := (hq.mem x).1 hx
    obtain ⟨q, hqm, j, hj, e2⟩ := (two_mem hr x).1 hy
    have : i = j := by omega
    subst this
    exact hp.1 q hqm i hi hj
theorem two_frm {ns : List Nat} {ps : List Nat} {l : List Tr} (h : Two (SpG ns) ps l) : kfrm l = 0 := by
  induction h with
  | nil => exact kfrm_nil
  | cons hq _ ih =>
    unfold kfrm
    rw [hq.frm, ih]; rfl
theorem two_cnt {ns : List Nat} {ps : List Nat} {l : List Tr} (h : Two (SpG ns) ps l) : kcnt l + l.length ≤ 2 * (kpts l).length := by
  induction h with
  | nil => unfold kcnt kpts; simp
  | cons hq _ ih =>
    have := hq.cnt
    unfold kcnt kpts
    rw [List.length_append, List.length_cons]; omega
theorem two_can {ns : List Nat} {ps : List Nat} {l : List Tr} (h : Two (SpG ns) ps l) {K : Int} : ∀ {last : Int}, (∀ p ∈ ps, p < 1024 ∧ p ≠ 0 ∧ ∀ t, SpG ns p t → t ∈ l → t.kd ≠ K) → (K = 2 → ps.Pairwise Dsj ∧ ∀ p ∈ ps, last < (lowkS p : Int)) → kcan K last l = true := by
  induction h with
  | nil => intro last _ _; unfold kcan; rfl
  | cons hq hr ih =>
    rename_i p t ps l
    intro last h1 h2
    obtain ⟨p1, p2, p3⟩ := h1 p List.mem_cons_self
    have hlow := InS.low p1 p2
    have els : lsN t.pts t.pts.length = (lowkS p : Int) := lsN_eq ((hq.mem _).2 hlow.1) fun y hy => hlow.2 y ((hq.mem y).1 hy)
    unfold kcan
    rw [els, hq.can]
    have e1 := p3 t hq List.mem_cons_self
    have e2 : kcan K (lowkS p : Int) l = true := ih (fun q hqm => by
        obtain ⟨q1, q2, q3⟩ := h1 q (List.mem_cons_of_mem _ hqm)
        exact ⟨q1, q2, fun t ht hm => q3 t ht (List.mem_cons_of_mem _ hm)⟩)
      (fun e => by
        obtain ⟨k1, k2⟩ := h2 e
        rw [List.pairwise_cons] at k1
        exact ⟨k1.2, fun q hqm => by have := (k1.1 q hqm).1; omega⟩)
    rw [e2]
    by_cases hK : K = 2
    · have := (h2 hK).2 p List.mem_cons_self
      rw [show decide ((lowkS p : Int) ≤ last) = false from decide_eq_false (by omega), decide_eq_true e1]
      simp
    · rw [show decide (K = 2) = false from decide_eq_false hK, decide_eq_true e1]
      rfl
end Go.Proofs.YtbgecpjlopdkfaaDoor
