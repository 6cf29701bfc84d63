import Derived.Test.YtbgecpjlopdkfaaDoorSsb
import Derived.Test.YtbgecpjlopdkfaaDoorSrc
import Derived.Test.YtbgecpjlopdkfaaDoorSsa
set_option linter.unusedSimpArgs false
set_option linter.unusedVariables false
set_option linter.unusedSectionVars false
set_option maxRecDepth 20000
namespace Go.Proofs.YtbgecpjlopdkfaaDoor
attribute [local irreducible] QOp aL aC qL
def Tr.kd : Tr → Int
  | .mk k _ _ => k
def t000 : Tr := .mk 0 0 []
/-- The last kid that holds a point; -1: none. -/
def kx (l : List Tr) (a : Int) : Nat → Int
  | 0 => -1
  | i + 1 => if a ∈ (l.getD i t000).pts then (i : Int) else kx l a i
def tls : Nat → Tr → Int → Int → Bool
  | 0, _, _, _ => false
  | f + 1, .mk k _ l, a, b => if kx l a l.length < 0 ∨ kx l a l.length = kx l b l.length then decide (0 ≤ kx l a l.length) && tls f (l.getD (kx l a l.length).toNat t000) a b else decide (k = 3) && decide (kx l a l.length < kx l b l.length)
/-- The least of the first. -/
def lsN (l : List Int) : Nat → Int
  | 0 => l.getD 0 0
  | i + 1 => if l.getD i 0 < lsN l i then l.getD i 0 else lsN l i
mutual
def Tr.can : Tr → Bool
  | .mk k _ l => kcan k (-1) l
def kcan (k last : Int) : List Tr → Bool
  | [] => true
  | t :: r => decide (t.kd ≠ k) && t.can && !(decide (k = 2) && decide (lsN t.pts t.pts.length ≤ last)) && kcan k (lsN t.pts t.pts.length) r
end
theorem lsN_le (l : List Int) : ∀ (i j : Nat), j < i → lsN l i ≤ l.getD j 0
  | 0, j, h => by omega
  | i + 1, j, h => by
    unfold lsN
    by_cases e : j = i
    · subst e; split <;> omega
    · have := lsN_le l i j (by omega)
      split <;> omega
theorem lsN_mem (l : List Int) (h0 : 0 < l.length) : ∀ (i : Nat), i ≤ l.length → lsN l i ∈ l
  | 0, _ => getD_mem' h0
  | i + 1, h => by
    unfold lsN
    split
    · exact getD_mem' (by omega)
    · exact lsN_mem l h0 i (by omega)
theorem lsN_eq {l : List Int} {m : Int} (hm : m ∈ l) (hl : ∀ y ∈ l, m ≤ y) : lsN l l.length = m := by
  obtain ⟨j, hj, e⟩ := List.getElem_of_mem hm
  have h1 := lsN_le l l.length j hj
  rw [List.getD_eq_getElem?_getD, List.getElem?_eq_getElem hj] at h1
  have h1 : lsN l l.length ≤ l[j] := h1
  have h2 := hl _ (lsN_mem l (by omega) l.length (Nat.le_refl _))
  omega
theorem kx_eq {l : List Tr} {a : Int} {i : Nat} (hi : a ∈ (l.getD i t000).pts) : ∀ {m : Nat}, i < m → (∀ j, j < m → j ≠ i → a ∉ (l.getD j t000).pts) → kx l a m = i
  | 0, h, _ => by omega
  | m + 1, h, hu => by
    unfold kx
    by_cases e : m = i
    · subst e; rw [if_pos hi]
    · rw [if_neg (hu m (by omega) e)]
      exact kx_eq hi (by omega) fun j hj => hu j (by omega)
/-- Sets and terms side by side. -/
inductive Two (Q : Nat → Tr → Prop) : List Nat → List Tr → Prop where
  | nil : Two Q [] []
  | cons {p : Nat} {t : Tr} {ps : List Nat} {l : List Tr} : Q p t → Two Q ps l → Two Q (p :: ps) (t :: l)
theorem spL_two {g : Nat → Option Tr} {Q : Nat → Tr → Prop} : ∀ {ps : List Nat} {l : List Tr}, spL g ps = some l → (∀ p ∈ ps, ∀ t, g p = some t → Q p t) → Two Q ps l
  | [], l, h, _ => by
    unfold spL at h
    obtain rfl := Option.some.inj h
    exact .nil
  | p :: ps, l, h, hq => by
    unfold spL at h
    rcases hg : g p with _ | t
    · rw [hg] at h; cases h
    · rw [hg] at h
      rcases hr : spL g ps with _ | r
      · rw [hr] at h; cases h
      · rw [hr] at h
        obtain rfl := Option.some.inj h
        exact .cons (hq p List.mem_cons_self t hg) (spL_two hr fun p hp => hq p (List.mem_cons_of_mem _ hp))
theorem spL_some {g : Nat → Option Tr} : ∀ {ps : List Nat}, (∀ p ∈ ps, ∃ t, g p = some t) → ∃ l, spL g ps = some l
  | [], _ => ⟨[], rfl⟩
  | p :: ps, h => by
    obtain ⟨t, ht⟩ := h p List.mem_cons_self
    obtain ⟨l, hl⟩ := spL_some (ps := ps) fun p hp => h p (List.mem_cons_of_mem _ hp)
    refine ⟨t :: l, ?_⟩
    unfold spL
    rw [ht, hl]; rfl
theorem spL_none {g : Nat → Option Tr} {p : Nat} (hg : g p = none) : ∀ {ps : List Nat}, p ∈ ps → spL g ps = none
  | q :: ps, h => by
    unfold spL
    rcases List.mem_cons.1 h with rfl | h
    · rw [hg]
    · rw [spL_none hg h]
      cases g q <;> rfl
theorem Two.len {Q : Nat → Tr → Prop} {ps : List Nat} {l : List Tr} (h : Two Q ps l) : l.length = ps.length := by
  induction h with
  | nil => rfl
  | cons _ _ ih => rw [List.length_cons, List.length_cons, ih]
theorem Two.get {Q : Nat → Tr → Prop} {ps : List Nat} {l : List Tr} (h : Two Q ps l) : ∀ {i : Nat}, i < ps.length → Q (ps.getD i 0) (l.getD i t000) := by
  induction h with
  | nil => intro i hi; cases hi
  | cons hq _ ih =>
    intro i hi
    cases i with
    | zero => exact hq
    | succ i => exact ih (by simpa using hi)
def InS (s : Nat) (x : Int) : Prop := ∃ i : Nat, s.testBit i = true ∧ x = (i : Int)
/-- What is right of a term of some points. -/
structure SpG (ns : List Nat) (s : Nat) (t : Tr) : Prop where
  kd : t.kd = if (mbs s).length = 1 then 1 else if (pcsF (abvS ns) 1024 s).length = 1 then 3 else 2
  co : t.kd = 3 → 2 ≤ (pcsF (fun a b => !abvS ns a b) 1024 s).length
  nd : t.pts.Nodup
  mem : ∀ x, x ∈ t.pts ↔ InS s x
  frm : t.frm = 0
  can : t.can = true
  cnt : t.cnt + 1 ≤ 2 * t.pts.length
  less : ∀ f, t.dep ≤ f → ∀ a b : Nat, s.testBit a = true → s.testBit b = true → tls f t a b = lt ns a b
theorem InS.low {s : Nat} (hs : s < 1024) (h0 : s ≠ 0) : InS s (lowkS s : Int) ∧ ∀ x, InS s x → (lowkS s : Int) ≤ x := by
  obtain ⟨_, _, h1, h2⟩ := low_atS hs (by omega)
  refine ⟨⟨_, h1, rfl⟩, fun x ⟨i, hi, e⟩ => ?_⟩
  subst e
  rcases Nat.lt_or_ge i (lowkS s) with h | h
  · rw [h2 i h] at hi; cases hi
  · omega
def Dsj (p q : Nat) : Prop := lowkS p < lowkS q ∧ ∀ i, p.testBit i = true → q.testBit i = true → False
def DsO (p q : Nat) : Prop := ∀ i, p.testBit i = true → q.testBit i = true → False
theorem two_mem {ns : List Nat} {ps : List Nat} {l : List Tr} (h : Two (SpG ns) ps l) : ∀ x, x ∈ kpts l ↔ ∃ p ∈ ps, InS p x := by
  induction h with
  | nil => intro x; unfold kpts; simp
  | cons hq _ ih =>
    intro x
    unfold kpts
    rw [List.mem_append, hq.mem, ih]
    simp
theorem two_nd {ns : List Nat} {ps : List Nat} {l : List Tr} (h : Two (SpG ns) ps l) : ps.Pairwise DsO → (kpts l).Nodup := by
  induction h with
  | nil => intro _; unfold kpts; exact List.nodup_nil
  | cons hq hr ih =>
    intro hp
    rw [List.pairwise_cons] at hp
    unfold kpts
    refine List.nodup_append.2 ⟨hq.nd, ih hp.2, fun x hx y hy e => ?_⟩
    subst e
    obtain ⟨i, hi, e⟩ := (hq.mem x).1 hx
    obtain ⟨q, hqm, j, hj, e2⟩ := (two_mem hr x).1 hy
    have : i = j := by omega
    subst this
    exact hp.1 q hqm i hi hj
theorem two_frm {ns : List Nat} {ps : List Nat} {l : List Tr} (h : Two (SpG ns) ps l) : kfrm l = 0 := by
  induction h with
  | nil => exact kfrm_nil
  | cons hq _ ih =>
    unfold kfrm
    rw [hq.frm, ih]; rfl
theorem two_cnt {ns : List Nat} {ps : List Nat} {l : List Tr} (h : Two (SpG ns) ps l) : kcnt l + l.length ≤ 2 * (kpts l).length := by
  induction h with
  | nil => unfold kcnt kpts; simp
  | cons hq _ ih =>
    have := hq.cnt
    unfold kcnt kpts
    rw [List.length_append, List.length_cons]; omega
theorem two_can {ns : List Nat} {ps : List Nat} {l : List Tr} (h : Two (SpG ns) ps l) {K : Int} : ∀ {last : Int}, (∀ p ∈ ps, p < 1024 ∧ p ≠ 0 ∧ ∀ t, SpG ns p t → t ∈ l → t.kd ≠ K) → (K = 2 → ps.Pairwise Dsj ∧ ∀ p ∈ ps, last < (lowkS p : Int)) → kcan K last l = true := by
  induction h with
  | nil => intro last _ _; unfold kcan; rfl
  | cons hq hr ih =>
    rename_i p t ps l
    intro last h1 h2
    obtain ⟨p1, p2, p3⟩ := h1 p List.mem_cons_self
    have hlow := InS.low p1 p2
    have els : lsN t.pts t.pts.length = (lowkS p : Int) := lsN_eq ((hq.mem _).2 hlow.1) fun y hy => hlow.2 y ((hq.mem y).1 hy)
    unfold kcan
    rw [els, hq.can]
    have e1 := p3 t hq List.mem_cons_self
    have e2 : kcan K (lowkS p : Int) l = true := ih (fun q hqm => by
        obtain ⟨q1, q2, q3⟩ := h1 q (List.mem_cons_of_mem _ hqm)
        exact ⟨q1, q2, fun t ht hm => q3 t ht (List.mem_cons_of_mem _ hm)⟩)
      (fun e => by
        obtain ⟨k1, k2⟩ := h2 e
        rw [List.pairwise_cons] at k1
        exact ⟨k1.2, fun q hqm => by have := (k1.1 q hqm).1; omega⟩)
    rw [e2]
    by_cases hK : K = 2
    · have := (h2 hK).2 p List.mem_cons_self
      rw [show decide ((lowkS p : Int) ≤ last) = false from decide_eq_false (by omega), decide_eq_true e1]
      simp
    · rw [show decide (K = 2) = false from decide_eq_false hK, decide_eq_true e1]
      rfl
end Go.Proofs.YtbgecpjlopdkfaaDoor
set_option linter.unusedSimpArgs false
set_option linter.unusedVariables false
set_option linter.unusedSectionVars false
set_option maxRecDepth 20000
namespace Go.Proofs.YtbgecpjlopdkfaaDoor
attribute [local irreducible] QOp aL aC qL
def coR (ns : List Nat) (a b : Nat) : Bool := !abvS ns a b
theorem coR_symm (ns : List Nat) (a b : Nat) : coR ns a b = coR ns b a := by unfold coR; rw [abv_symm]
section
variable {n : Nat} {ns : List Nat}
theorem lt_asy (hok : okB n ns = true) {a b : Nat} (ha : a < n) (hb : b < n) (h : lt ns a b = true) : lt ns b a = false := by
  cases h2 : lt ns b a
  · rfl
  · have := okB_tr hok ha hb h2 h
    rw [okB_irr hok ha] at this; cases this
theorem lt_tr (hok : okB n ns = true) {a b c : Nat} (hb : b < n) (hc : c < n) (h1 : lt ns a b = true) (h2 : lt ns b c = true) : lt ns a c = true := okB_tr hok hc hb h2 h1
/-- Who hang together, apart from all of y, are on one side of y. -/
theorem side_eq (hok : okB n ns = true) {p y : Nat} (hp : ∀ i, p.testBit i = true → i < n) (hp0 : p < 1024) (h0 : p ≠ 0) (hy : y < n) (hc : cmpR (coR ns) p = p) (hall : ∀ a, p.testBit a = true → abvS ns a y = true) {a : Nat} (ha : p.testBit a = true) : lt ns a y = lt ns (lowkS p) y := by
  have low := (low_atS hp0 (by omega)).2.2.1
  have h1 : RCh (coR ns) p (lowkS p) a := (cmpR_bit.1 (by rw [hc]; exact ha)).2.2
  clear ha
  have : p.testBit a = true ∧ lt ns a y = lt ns (lowkS p) y := by
    induction h1 with
    | refl => exact ⟨low, rfl⟩
    | step h hcb hr ih =>
      rename_i b c
      refine ⟨hcb, ?_⟩
      rw [← ih.2]
      have bn := hp b ih.1
      have cn := hp c hcb
      have hb := hall b ih.1
      have hcy := hall c hcb
      unfold coR abvS at hr
      rw [Bool.not_eq_true', Bool.or_eq_false_iff] at hr
      unfold abvS at hb hcy
      rw [Bool.or_eq_true] at hb hcy
      rcases hb with hb | hb <;> rcases hcy with hcy | hcy
      · rw [hb, hcy]
      · rw [lt_tr hok hy cn hb hcy] at hr; cases hr.1
      · rw [lt_tr hok hy bn hcy hb] at hr; cases hr.2
      · rw [lt_asy hok hy bn hb, lt_asy hok hy cn hcy]
  exact this.2
theorem side_two (hok : okB n ns = true) {p q : Nat} (hp : ∀ i, p.testBit i = true → i < n) (hq : ∀ i, q.testBit i = true → i < n) (hp0 : p < 1024) (hq0 : q < 1024) (p0 : p ≠ 0) (q0 : q ≠ 0) (hcp : cmpR (coR ns) p = p) (hcq : cmpR (coR ns) q = q)
    (hall : ∀ a b, p.testBit a = true → q.testBit b = true → abvS ns a b = true) {a b : Nat} (ha : p.testBit a = true) (hb : q.testBit b = true) : lt ns a b = lt ns (lowkS p) (lowkS q) := by
  have lowp := (low_atS hp0 (by omega)).2.2.1
  rw [side_eq hok hp hp0 p0 (hq b hb) hcp (fun a ha => hall a b ha hb) ha]
  have lowq := (low_atS hq0 (by omega)).2.2.1
  have e := side_eq hok hq hq0 q0 (hp _ lowp) hcq (fun b hb => by rw [abv_symm]; exact hall _ b lowp hb) hb
  have c1 := hall _ b lowp hb
  have c2 := hall _ _ lowp lowq
  unfold abvS at c1 c2
  have bn := hq b hb
  have ln := hq _ lowq
  have pn := hp _ lowp
  cases e1 : lt ns b (lowkS p)
  · rw [e1] at e c1
    rw [Bool.or_false] at c1
    rw [← e, Bool.or_false] at c2
    rw [c1, c2]
  · rw [e1] at e
    rw [lt_asy hok bn pn e1, lt_asy hok ln pn e.symm]
theorem firstM {p : Nat} (hp : p < 1024) (h0 : p ≠ 0) : p.testBit ((mbs p).getD 0 0) = true := by
  have low := (low_atS hp (by omega)).2.2.1
  have := (mbs_mem hp).2 low
  exact (mbsS_mem hp (List.length_pos_of_mem this)).1
/-- The pieces of those that are neither above nor below, lower ones first. -/
theorem coF_ord (hok : okB n ns = true) {s : Nat} (hs : s < 1024) (hsn : ∀ i, s.testBit i = true → i < n) : (coF ns s).Perm (pcsF (coR ns) 1024 s) ∧ (coF ns s).Pairwise fun p q => ∀ a b, p.testBit a = true → q.testBit b = true → lt ns a b = true := by
  have sub := fun {p} (hp : p ∈ pcsF (coR ns) 1024 s) => pcs_in (coR ns) 1024 s hs p hp
  have disj : ∀ {p q}, p ∈ pcsF (coR ns) 1024 s → q ∈ pcsF (coR ns) 1024 s → p ≠ q → ∀ a b, p.testBit a = true → q.testBit b = true → abvS ns a b = true := by
    intro p q hp hq hne a b ha hb
    cases h : abvS ns a b
    · exfalso
      have hb2 := pcs_rel (R := coR ns) 1024 s hs (fun x y _ _ => coR_symm ns x y) p hp a b ((sub hq).2.2 b hb) (by unfold coR; rw [h]; rfl) ha
      have hord := pcs_ord (R := coR ns) 1024 s hs
      rcases List.pairwise_iff_getElem.1 hord with hord
      obtain ⟨i, hi, e1⟩ := List.getElem_of_mem hp
      obtain ⟨j, hj, e2⟩ := List.getElem_of_mem hq
      rcases Nat.lt_trichotomy i j with h | h | h
      · have := (hord i j hi hj h).2 b
        rw [e1, e2] at this
        exact this hb2 hb
      · subst h; exact hne (e1.symm.trans e2)
      · have := (hord j i hj hi h).2 b
        rw [e1, e2] at this
        exact this hb hb2
    · rfl
  have two : ∀ {p q}, p ∈ pcsF (coR ns) 1024 s → q ∈ pcsF (coR ns) 1024 s → p ≠ q → ∀ a b, p.testBit a = true → q.testBit b = true → lt ns a b = lt ns ((mbs p).getD 0 0) ((mbs q).getD 0 0) := by
    intro p q hp hq hne a b ha hb
    have sp := sub hp
    have sq := sub hq
    have gen := fun {a b} (ha : p.testBit a = true) (hb : q.testBit b = true) => side_two hok (p := p) (q := q) (fun i hi => hsn i (sp.2.2 i hi)) (fun i hi => hsn i (sq.2.2 i hi)) (by omega) (by omega) sp.2.1 sq.2.1 (pcs_conn 1024 s hs p hp) (pcs_conn 1024 s hs q hq) (disj hp hq hne) ha hb
    rw [gen ha hb, gen (firstM (by omega) sp.2.1) (firstM (by omega) sq.2.1)]
  have hc : OrdP (c3 ns) (fun x => ∃ p ∈ pcsF (coR ns) 1024 s, x = (p : Int)) := by
    constructor
    · rintro x y ⟨p, hp, rfl⟩ ⟨q, hq, rfl⟩ hne
      have hne : p ≠ q := fun e => hne (by rw [e])
      have := disj hp hq hne _ _ (firstM (by have := sub hp; omega) (sub hp).2.1) (firstM (by have := sub hq; omega) (sub hq).2.1)
      unfold abvS at this
      rw [Bool.or_eq_true] at this
      unfold c3
      rw [Int.toNat_natCast, Int.toNat_natCast]
      rcases this with h | h
      · left; rw [if_pos h]; decide
      · right; rw [if_pos h]; decide
    · rintro x y z ⟨p, hp, rfl⟩ ⟨q, hq, rfl⟩ ⟨r, hr, rfl⟩ h1 h2
      unfold c3 at h1 h2 ⊢
      rw [Int.toNat_natCast, Int.toNat_natCast] at h1 h2 ⊢
      have e1 : lt ns ((mbs p).getD 0 0) ((mbs q).getD 0 0) = true := by
        apply Classical.byContradiction
        intro h; rw [if_neg h] at h1; omega
      have e2 : lt ns ((mbs q).getD 0 0) ((mbs r).getD 0 0) = true := by
        apply Classical.byContradiction
        intro h; rw [if_neg h] at h2; omega
      have fq := hsn _ ((sub hq).2.2 _ (firstM (by have := sub hq; omega) (sub hq).2.1))
      have fr := hsn _ ((sub hr).2.2 _ (firstM (by have := sub hr; omega) (sub hr).2.1))
      rw [if_pos (lt_tr hok fq fr e1 e2)]; decide
  have hnd := pcs_nd (R := coR ns) 1024 s hs
  have hndI : (nl (pcsF (coR ns) 1024 s)).Nodup := by
    unfold nl
    have hnd' : (pcsF (coR ns) 1024 s).Pairwise (fun a b => a ≠ b) := hnd
    have hI : (pcsF (coR ns) 1024 s).Pairwise (fun (a b : Nat) => (a : Int) ≠ (b : Int)) := List.Pairwise.imp (R := fun (a b : Nat) => a ≠ b) (fun {a b : Nat} h (e : (a : Int) = (b : Int)) => absurd (show a = b by omega) h) hnd'
    exact List.pairwise_map.2 hI
  obtain ⟨r1, r2⟩ := isF_srt hc hndI (fun y hy => by
    unfold nl at hy
    obtain ⟨p, hp, e⟩ := List.mem_map.1 hy
    exact ⟨p, hp, e.symm⟩)
  have hcoF : coF ns s = (isF (c3 ns) (nl (pcsF (coR ns) 1024 s))).map Int.toNat := rfl
  have hperm : (coF ns s).Perm (pcsF (coR ns) 1024 s) := by
    rw [hcoF]
    have := r1.map Int.toNat
    unfold nl at this
    rw [List.map_map] at this
    have e : (Int.toNat ∘ fun (n : Nat) => (n : Int)) = id := by funext x; rfl
    rw [e, List.map_id] at this
    exact this
  refine ⟨hperm, ?_⟩
  have hnd2 : (coF ns s).Nodup := hperm.nodup_iff.2 hnd
  have h3 : (coF ns s).Pairwise fun p q => lt ns ((mbs p).getD 0 0) ((mbs q).getD 0 0) = true := by
    rw [hcoF]
    refine List.pairwise_map.2 (r2.imp fun {a b} h => ?_)
    unfold c3 at h
    apply Classical.byContradiction
    intro h'; rw [if_neg h'] at h; omega
  refine List.pairwise_iff_getElem.2 fun i j hi hj hij a b ha hb => ?_
  have m1 := hperm.mem_iff.1 (List.getElem_mem hi)
  have m2 := hperm.mem_iff.1 (List.getElem_mem hj)
  have hne : (coF ns s)[i] ≠ (coF ns s)[j] := List.pairwise_iff_getElem.1 hnd2 i j hi hj hij
  rw [two m1 m2 hne a b ha hb]
  exact List.pairwise_iff_getElem.1 h3 i j hi hj hij
end
end Go.Proofs.YtbgecpjlopdkfaaDoor
