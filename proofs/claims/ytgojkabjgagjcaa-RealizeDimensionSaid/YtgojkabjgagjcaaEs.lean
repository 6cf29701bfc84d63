import Derived.Test.YtgojkabjgagjcaaXc
import Derived.Test.YtgojkabjgagjcaaEq
set_option linter.unusedSimpArgs false
set_option linter.unusedVariables false
set_option linter.unusedSectionVars false
set_option maxRecDepth 20000
namespace Go.Proofs.Ytgojkabjgagjcaa
attribute [local irreducible] QOp aL aC qL
/-- What follows from one pair that is laid one way: pairs that must be laid so, too. -/
inductive Frc (E : Nat → Nat → Prop) (s : Nat × Nat) : Nat → Nat → Prop
  | base : Frc E s s.1 s.2
  | right {x y z : Nat} : Frc E s x y → E x z → ¬ E y z → Frc E s x z
  | left {x y z : Nat} : Frc E s x y → E z y → ¬ E x z → Frc E s z y
structure Gr (E : Nat → Nat → Prop) : Prop where
  sym : ∀ {a b}, E a b → E b a
  irr : ∀ {a}, ¬ E a a
section
variable {E : Nat → Nat → Prop}
theorem Frc.edge {s : Nat × Nat} (hs : E s.1 s.2) {x y : Nat} (h : Frc E s x y) : E x y := by
  cases h with
  | base => exact hs
  | right _ h _ => exact h
  | left _ h _ => exact h
theorem Frc.trans {s : Nat × Nat} {x y u v : Nat} (h : Frc E s x y) (h2 : Frc E (x, y) u v) : Frc E s u v := by
  induction h2 with
  | base => exact h
  | right _ a b ih => exact .right ih a b
  | left _ a b ih => exact .left ih a b
theorem Frc.symm (hE : Gr E) {s : Nat × Nat} (hs : E s.1 s.2) {x y : Nat} (h : Frc E s x y) : Frc E (x, y) s.1 s.2 := by
  induction h with
  | base => exact .base
  | right h1 a b ih => exact (Frc.right (s := (_, _)) .base (h1.edge hs) fun q => b (hE.sym q)).trans ih
  | left h1 a b ih => exact (Frc.left (s := (_, _)) .base (h1.edge hs) fun q => b (hE.sym q)).trans ih
theorem Frc.rev (hE : Gr E) {s : Nat × Nat} {x y : Nat} (h : Frc E s x y) : Frc E (s.2, s.1) y x := by
  induction h with
  | base => exact .base
  | right h1 a b ih => exact .left ih (hE.sym a) b
  | left h1 a b ih => exact .right ih (hE.sym a) b
/-- What is laid after so many pairs, taken one after the other. -/
def Ly (E : Nat → Nat → Prop) (n : Nat) : Nat → Nat → Nat → Prop
  | 0, _, _ => False
  | k + 1, x, y => Ly E n k x y ∨ ((E (k / n) (k % n) ∧ ¬ Ly E n k (k / n) (k % n) ∧ ¬ Ly E n k (k % n) (k / n)) ∧ Frc E (k / n, k % n) x y)
/-- Is a pair laid in this step, and not before? -/
structure Sd (E : Nat → Nat → Prop) (n k : Nat) : Prop where
  e : E (k / n) (k % n)
  no : ¬ Ly E n k (k / n) (k % n)
  no2 : ¬ Ly E n k (k % n) (k / n)
variable {n : Nat}
theorem ly_iff {k x y : Nat} : Ly E n k x y ↔ ∃ j, j < k ∧ Sd E n j ∧ Frc E (j / n, j % n) x y := by
  induction k with
  | zero => exact ⟨fun h => h.elim, fun ⟨j, h, _⟩ => absurd h (Nat.not_lt_zero _)⟩
  | succ k ih =>
    constructor
    · rintro (h | ⟨⟨h1, h2, h3⟩, h⟩)
      · obtain ⟨j, a, b⟩ := ih.1 h; exact ⟨j, by omega, b⟩
      · exact ⟨k, by omega, ⟨h1, h2, h3⟩, h⟩
    · rintro ⟨j, a, b, c⟩
      by_cases e : j = k
      · subst e; exact .inr ⟨⟨b.e, b.no, b.no2⟩, c⟩
      · exact .inl (ih.2 ⟨j, by omega, b, c⟩)
theorem ly_mono {k m x y : Nat} (hkm : k ≤ m) (h : Ly E n k x y) : Ly E n m x y := by
  obtain ⟨j, a, b⟩ := ly_iff.1 h
  exact ly_iff.2 ⟨j, by omega, b⟩
theorem ly_edge {k x y : Nat} (h : Ly E n k x y) : E x y := by
  obtain ⟨j, a, b, c⟩ := ly_iff.1 h
  exact c.edge b.e
theorem ly_frc {k x y u v : Nat} (h : Ly E n k x y) (h2 : Frc E (x, y) u v) : Ly E n k u v := by
  obtain ⟨j, a, b, c⟩ := ly_iff.1 h
  exact ly_iff.2 ⟨j, a, b, c.trans h2⟩
theorem ly_done {k x y : Nat} (hy : y < n) (h : E x y) (hk : x * n + y < k) : Ly E n k x y ∨ Ly E n k y x := by
  have e1 : (x * n + y) / n = x := by rw [Nat.mul_comm, Nat.mul_add_div (by omega), Nat.div_eq_of_lt hy]; omega
  have e2 : (x * n + y) % n = y := by rw [Nat.mul_comm, Nat.mul_add_mod, Nat.mod_eq_of_lt hy]
  by_cases h1 : Ly E n (x * n + y) x y
  · exact .inl (ly_mono (by omega) h1)
  by_cases h2 : Ly E n (x * n + y) y x
  · exact .inr (ly_mono (by omega) h2)
  refine .inl (ly_iff.2 ⟨x * n + y, hk, ⟨by rw [e1, e2]; exact h, by rw [e1, e2]; exact h1, by rw [e1, e2]; exact h2⟩, ?_⟩)
  rw [e1, e2]
  exact .base (s := (x, y))
/-- No pair is laid both ways. -/
def Tro (E : Nat → Nat → Prop) (n : Nat) : Prop := ∀ x y, Ly E n (n * n) x y → ¬ Ly E n (n * n) y x
theorem tri_lem (hE : Gr E) (hT : Tro E n) {s1 s3 : Nat × Nat} (l1 : ∀ x y, Frc E s1 x y → Ly E n (n * n) x y) (l3 : ∀ x y, Frc E s3 x y → Ly E n (n * n) x y) {a b c : Nat} (hbc : Ly E n (n * n) b c)
    (h1 : Frc E s1 a b) (h3 : Frc E s3 c a) {b' c' : Nat} (h : Frc E (b, c) b' c') : Frc E s1 a b' ∧ Frc E s3 c' a := by
  induction h with
  | base => exact ⟨h1, h3⟩
  | right h a' b' ih =>
    rename_i x y z
    obtain ⟨i1, i3⟩ := ih
    have hxz : Ly E n (n * n) x z := ly_frc hbc (.right h a' b')
    -- z is next to a
    by_cases hza : E z a
    · refine ⟨i1, .left i3 hza b'⟩
    · exfalso
      have := ly_frc hxz (Frc.right (s := (x, z)) .base (z := a) (hE.sym (ly_edge (l1 _ _ i1))) hza)
      exact hT _ _ (l1 _ _ i1) this
  | left h a' b' ih =>
    rename_i x y z
    obtain ⟨i1, i3⟩ := ih
    have hzy : Ly E n (n * n) z y := ly_frc hbc (.left h a' b')
    by_cases hza : E a z
    · refine ⟨.right i1 hza b', i3⟩
    · exfalso
      have := ly_frc hzy (Frc.left (s := (z, y)) .base (z := a) (hE.sym (ly_edge (l3 _ _ i3))) fun q => hza (hE.sym q))
      exact hT _ _ (l3 _ _ i3) this
theorem tri_no (hE : Gr E) (hn : ∀ {a b}, E a b → a < n) (hT : Tro E n) {a b c j1 j2 j3 : Nat} (s1 : Sd E n j1) (s2 : Sd E n j2) (s3 : Sd E n j3) (k1 : j1 < n * n) (k2 : j2 < n * n) (k3 : j3 < n * n) (h12 : j2 ≤ j1)
    (h1 : Frc E (j1 / n, j1 % n) a b) (h2 : Frc E (j2 / n, j2 % n) b c) (h3 : Frc E (j3 / n, j3 % n) c a) : False := by
  have lj : ∀ {j}, j < n * n → Sd E n j → ∀ x y, Frc E (j / n, j % n) x y → Ly E n (n * n) x y := fun {j} h s x y f => ly_iff.2 ⟨j, h, s, f⟩
  have n0 : 0 < n := Nat.lt_of_le_of_lt (Nat.zero_le _) (hn s1.e)
  obtain ⟨p1, p3⟩ := tri_lem hE hT (lj k1 s1) (lj k3 s3) (lj k2 s2 _ _ h2) h1 h3 (h2.symm hE s2.e)
  dsimp only at p1 p3
  have hae : E a (j2 / n) := ly_edge (lj k1 s1 _ _ p1)
  have han : a < n := hn hae
  have hle : j1 ≤ j2 / n * n + a := by
    rcases Nat.lt_or_ge (j2 / n * n + a) j1 with q | q
    · exfalso
      rcases ly_done han (hE.sym hae) q with g | g
      · exact s1.no2 (ly_frc g ((p1.symm hE s1.e).rev hE))
      · exact s1.no (ly_frc g (p1.symm hE s1.e))
    · exact q
  have hdiv : j1 / n = j2 / n := by
    have d1 := Nat.div_le_div_right (c := n) h12
    have d2 := Nat.div_le_div_right (c := n) hle
    rw [Nat.mul_comm, Nat.mul_add_div n0, Nat.div_eq_of_lt han] at d2
    omega
  obtain ⟨q3, q2⟩ := tri_lem hE hT (lj k3 s3) (lj k2 s2) (lj k1 s1 _ _ p1) (a := j2 % n) (b := a) (c := j2 / n) p3 (.base (s := (j2 / n, j2 % n))) (p1.symm hE s1.e)
  dsimp only at q3
  rw [hdiv] at q3
  exact hT _ _ (lj k3 s3 _ _ q3) (lj k2 s2 _ _ (.base (s := (j2 / n, j2 % n))))
/-- What is laid goes on and on. -/
theorem ly_trans (hE : Gr E) (hn : ∀ {a b}, E a b → a < n) (hT : Tro E n) {x y z : Nat} (h1 : Ly E n (n * n) x y) (h2 : Ly E n (n * n) y z) : Ly E n (n * n) x z := by
  have e1 := ly_edge h1
  have e2 := ly_edge h2
  have hxz : E x z := by
    rcases Classical.em (E x z) with h | h
    · exact h
    · exact absurd (ly_frc h1 (Frc.left (s := (x, y)) .base (hE.sym e2) h)) (hT _ _ h2)
  have hx := hn e1
  have hz := hn (hE.sym e2)
  rcases ly_done (k := n * n) hz hxz (by
    have : (x + 1) * n ≤ n * n := Nat.mul_le_mul_right n hx
    rw [Nat.succ_mul] at this
    omega) with h | h
  · exact h
  · exfalso
    obtain ⟨j1, k1, s1, f1⟩ := ly_iff.1 h1
    obtain ⟨j2, k2, s2, f2⟩ := ly_iff.1 h2
    obtain ⟨j3, k3, s3, f3⟩ := ly_iff.1 h
    rcases Nat.lt_or_ge j1 j2 with q | q
    · exact tri_no hE hn hT s3 s1 s2 k3 k1 k2 (by
        rcases Nat.lt_or_ge j3 j1 with r | r
        · exact (tri_no hE hn hT s2 s3 s1 k2 k3 k1 (by omega) f2 f3 f1).elim
        · exact r) f3 f1 f2
    · exact tri_no hE hn hT s1 s2 s3 k1 k2 k3 q f1 f2 f3
/-- An order of the pairs keeps what follows. -/
theorem frc_keep {T : Nat → Nat → Prop} (tE : ∀ {a b}, T a b → E a b) (tot : ∀ {a b}, E a b → T a b ∨ T b a) (tr : ∀ {a b c}, T a b → T b c → T a c) (hE : Gr E) {s : Nat × Nat} (hs : T s.1 s.2) {x y : Nat} (h : Frc E s x y) : T x y := by
  induction h with
  | base => exact hs
  | right _ a b ih =>
    rcases tot a with h | h
    · exact h
    · exact absurd (hE.sym (tE (tr h ih))) b
  | left _ a b ih =>
    rcases tot a with h | h
    · exact h
    · exact absurd (tE (tr ih h)) b
theorem tro_of {T : Nat → Nat → Prop} (hE : Gr E) (tE : ∀ {a b}, T a b → E a b) (tot : ∀ {a b}, E a b → T a b ∨ T b a) (tr : ∀ {a b c}, T a b → T b c → T a c) : Tro E n := by
  intro x y h1 h2
  obtain ⟨i, hi, si, fi⟩ := ly_iff.1 h1
  obtain ⟨j, hj, sj, fj⟩ := ly_iff.1 h2
  have one : ∀ {s : Nat × Nat} {a b}, E s.1 s.2 → Frc E s a b → ¬ Frc E s b a := fun {s a b} hs f g => by
    rcases tot hs with h | h
    · exact hE.irr (tE (tr (frc_keep (E := E) (T := T) tE tot tr hE h f) (frc_keep (E := E) (T := T) tE tot tr hE h g)))
    · have f' := frc_keep (E := E) (T := fun a b => T b a) (fun h => hE.sym (tE h)) (fun h => (tot h).symm) (fun h1 h2 => tr h2 h1) hE (s := s) h f
      have g' := frc_keep (E := E) (T := fun a b => T b a) (fun h => hE.sym (tE h)) (fun h => (tot h).symm) (fun h1 h2 => tr h2 h1) hE (s := s) h g
      exact hE.irr (tE (tr f' g'))
  rcases Nat.lt_trichotomy i j with q | q | q
  · refine sj.no2 (ly_iff.2 ⟨i, q, si, fi.trans ?_⟩)
    exact (fj.symm hE sj.e).rev hE
  · subst q; exact one si.e fi fj
  · refine si.no2 (ly_iff.2 ⟨j, q, sj, fj.trans ?_⟩)
    exact (fi.symm hE si.e).rev hE
end
end Go.Proofs.Ytgojkabjgagjcaa
set_option linter.unusedSimpArgs false
set_option linter.unusedVariables false
set_option linter.unusedSectionVars false
set_option maxRecDepth 20000
namespace Go.Proofs.Ytgojkabjgagjcaa
attribute [local irreducible] QOp aL aC qL
open Classical in
theorem rel_row {n : Nat} {ns : List Nat} (hv : Vld n ns) (R : Nat → Nat → Prop) (tr : ∀ a b c, R a b → R b c → R a c) (ir : ∀ a, ¬ R a a) (hk : ∀ a b, lt ns a b = true → R a b) : ∃ r, RowI n ns r ∧ ∀ a b, ApP n ns (a, b) → R a b → ahd r (a, b) = true := by
  have hin : Inn n ((apL n ns).filter fun p => decide (R p.1 p.2)) := fun p hp => by
    have := apL_mem.1 (List.mem_filter.1 hp).1
    exact ⟨this.l, this.r⟩
  have hr : ∀ a b, Reach (prA n ns ++ (apL n ns).filter fun p => decide (R p.1 p.2)) a b → R a b := fun a b h => by
    have one : ∀ a b, (a, b) ∈ prA n ns ++ (apL n ns).filter (fun p => decide (R p.1 p.2)) → R a b := fun a b h => by
      rcases List.mem_append.1 h with h | h
      · exact hk a b ((prA_mem hv).1 h)
      · exact of_decide_eq_true (List.mem_filter.1 h).2
    induction h with
    | one h => exact one _ _ h
    | more _ h2 ih => exact tr _ _ _ ih (one _ _ h2)
  have hirr : irr n (cls n ns ((apL n ns).filter fun p => decide (R p.1 p.2))) = true := (irr_iff (pr_in hv hin)).2 fun q _ h => ir _ (hr _ _ h)
  obtain ⟨h1, h2⟩ := onE_some hv hin (r := nthN n (cls n ns ((apL n ns).filter fun p => decide (R p.1 p.2))) 0) (by unfold onE; rw [if_pos hirr])
  exact ⟨_, h1, fun a b hab hlt => h2 (a, b) (List.mem_filter.2 ⟨apL_mem.2 hab, decide_eq_true hlt⟩)⟩
theorem key_row {n : Nat} {ns : List Nat} (hv : Vld n ns) (key : Nat → Nat) (hk : ∀ a b, lt ns a b = true → key a < key b) : ∃ r, RowI n ns r ∧ ∀ a b, ApP n ns (a, b) → key a < key b → ahd r (a, b) = true :=
  rel_row hv (fun a b => key a < key b) (fun _ _ _ h1 h2 => Nat.lt_trans h1 h2) (fun _ => Nat.lt_irrefl _) hk
/-- So many rows say all of an order. -/
def Cvb (n : Nat) (ns : List Nat) (m : Nat) : Prop := ∃ rs : List (List Nat), rs.length = m ∧ Cov n ns rs (apL n ns)
theorem Cvb.up {n : Nat} {ns : List Nat} {k m : Nat} (h : Cvb n ns (k + 1)) (hm : k ≤ m) : Cvb n ns (m + 1) := by
  obtain ⟨l, hl, hc⟩ := h
  have h0 : l.getD 0 [] ∈ l := by
    rw [List.getD_eq_getElem?_getD, List.getElem?_eq_getElem (by omega)]
    exact List.getElem_mem _
  refine ⟨l ++ List.replicate (m - k) (l.getD 0 []), by rw [List.length_append, List.length_replicate, hl]; omega, ⟨fun r hr => ?_, fun p hp => ?_⟩⟩
  · rcases List.mem_append.1 hr with h | h
    · exact hc.row r h
    · rw [List.eq_of_mem_replicate h]; exact hc.row _ h0
  · obtain ⟨r, h1, h2⟩ := hc.cov p hp
    exact ⟨r, List.mem_append_left _ h1, h2⟩
theorem DimIs.iff {n : Nat} {ns : List Nat} (hv : Vld n ns) {k : Nat} {l : List (List Nat)} (h : DimIs n ns k l) {m : Nat} : Cvb n ns (m + 1) ↔ k ≤ m := by
  constructor
  · rintro ⟨rs, hl, hc⟩
    exact h.low fun hn => covN_none hv m _ rs (fun p hp => apL_mem.1 hp) hn hl hc
  · intro hm
    obtain ⟨h1, h2⟩ := covN_some hv k _ l (fun p hp => apL_mem.1 hp) h.some
    exact Cvb.up ⟨l, h1, h2⟩ hm
theorem ApP.swap {n : Nat} {ns : List Nat} {a b : Nat} (h : ApP n ns (a, b)) : ApP n ns (b, a) := ⟨h.r, h.l, fun e => h.ne e.symm, h.no2, h.no⟩
/-- Points with one above the other, all of them: one row. -/
theorem cvb_one {n : Nat} {ns : List Nat} (hv : Vld n ns) (hok : okB n ns = true) : Cvb n ns 1 ↔ ∀ a b, ¬ ApP n ns (a, b) := by
  constructor
  · rintro ⟨rs, hl, hc⟩ a b h
    match rs, hl with
    | [r], _ =>
      obtain ⟨r1, h1, h2⟩ := hc.cov (a, b) (apL_mem.2 h)
      obtain ⟨r2, h3, h4⟩ := hc.cov (b, a) (apL_mem.2 h.swap)
      rw [List.mem_singleton] at h1 h3
      subst h1 h3
      exact Nat.lt_asymm (of_decide_eq_true h2) (of_decide_eq_true h4)
  · intro h
    refine ⟨[nthN n ns 0], rfl, ⟨fun r hr => ?_, fun p hp => absurd (apL_mem.1 hp) (h p.1 p.2)⟩⟩
    rw [List.mem_singleton] at hr; subst hr
    exact nth0 hv hok
/-- The pairs that are apart, each laid one way, so that they go on and on. -/
structure TroR (n : Nat) (ns : List Nat) (T : Nat → Nat → Prop) : Prop where
  ap : ∀ {a b}, T a b → ApP n ns (a, b)
  tot : ∀ {a b}, ApP n ns (a, b) → T a b ∨ T b a
  tr : ∀ {a b c}, T a b → T b c → T a c
theorem TroR.rev {n : Nat} {ns : List Nat} {T : Nat → Nat → Prop} (h : TroR n ns T) : TroR n ns fun a b => T b a := ⟨fun q => (h.ap q).swap, fun q => (h.tot q).symm, fun a b => h.tr b a⟩
theorem TroR.irr {n : Nat} {ns : List Nat} {T : Nat → Nat → Prop} (h : TroR n ns T) {a : Nat} : ¬ T a a := fun q => (h.ap q).ne rfl
theorem TroR.uni {n : Nat} {ns : List Nat} (hv : Vld n ns) (hok : okB n ns = true) {T : Nat → Nat → Prop} (h : TroR n ns T) : ∀ a b c, (lt ns a b = true ∨ T a b) → (lt ns b c = true ∨ T b c) → (lt ns a c = true ∨ T a c) := by
  have otr : ∀ {a b c}, lt ns a b = true → lt ns b c = true → lt ns a c = true := fun {a b c} h1 h2 => okB_tr hok (vldR hv h2) (vldR hv h1) h2 h1
  intro a b c h1 h2
  rcases h1 with h1 | h1 <;> rcases h2 with h2 | h2
  · exact .inl (otr h1 h2)
  · have hp := h.ap h2
    cases hac : lt ns a c
    · right
      have hca : lt ns c a = false := by
        cases hq : lt ns c a
        · rfl
        · have := otr hq h1
          rw [hp.no2] at this; cases this
      have hne : a ≠ c := fun e => by
        subst e
        rw [hp.no2] at h1; cases h1
      have hA : ApP n ns (a, c) := ⟨vldA hv h1, hp.r, hne, hac, hca⟩
      rcases h.tot hA with q | q
      · exact q
      · have := (h.ap (h.tr h2 q)).no2
        rw [show lt ns a b = true from h1] at this; cases this
    · exact .inl rfl
  · have hp := h.ap h1
    cases hac : lt ns a c
    · right
      have hca : lt ns c a = false := by
        cases hq : lt ns c a
        · rfl
        · have := otr h2 hq
          rw [hp.no2] at this; cases this
      have hne : a ≠ c := fun e => by
        subst e
        rw [hp.no2] at h2; cases h2
      have hA : ApP n ns (a, c) := ⟨hp.l, vldR hv h2, hne, hac, hca⟩
      rcases h.tot hA with q | q
      · exact q
      · have := (h.ap (h.tr q h1)).no2
        rw [show lt ns b c = true from h2] at this; cases this
    · exact .inl rfl
  · exact .inr (h.tr h1 h2)
theorem TroR.cvb {n : Nat} {ns : List Nat} (hv : Vld n ns) (hok : okB n ns = true) {T : Nat → Nat → Prop} (h : TroR n ns T) : Cvb n ns 2 := by
  have one : ∀ {T : Nat → Nat → Prop}, TroR n ns T → ∃ r, RowI n ns r ∧ ∀ a b, ApP n ns (a, b) → T a b → ahd r (a, b) = true := fun {T} h => by
    obtain ⟨r, h1, h2⟩ := rel_row hv (fun a b => lt ns a b = true ∨ T a b) (h.uni hv hok) (fun a q => by
      rcases q with q | q
      · rw [okB_irr hok (vldA hv q)] at q; cases q
      · exact h.irr q) fun a b q => .inl q
    exact ⟨r, h1, fun a b h3 h4 => h2 a b h3 (.inr h4)⟩
  obtain ⟨r1, a1, a2⟩ := one h
  obtain ⟨r2, b1, b2⟩ := one h.rev
  refine ⟨[r1, r2], rfl, ⟨fun r hr => ?_, fun p hp => ?_⟩⟩
  · rcases List.mem_cons.1 hr with rfl | hr
    · exact a1
    · rw [List.mem_singleton] at hr; subst hr; exact b1
  · have hp := apL_mem.1 hp
    rcases h.tot (a := p.1) (b := p.2) hp with q | q
    · exact ⟨r1, List.mem_cons_self, a2 _ _ hp q⟩
    · exact ⟨r2, List.mem_cons_of_mem _ List.mem_cons_self, b2 _ _ hp q⟩
theorem tro_cvb {n : Nat} {ns : List Nat} (h : Cvb n ns 2) : ∃ T, TroR n ns T := by
  obtain ⟨rs, hl, hc⟩ := h
  match rs, hl with
  | [r1, r2], _ =>
    have i1 := hc.row r1 List.mem_cons_self
    have i2 := hc.row r2 (List.mem_cons_of_mem _ List.mem_cons_self)
    have ahs : ∀ {r : List Nat}, RowI n ns r → ∀ {a b : Nat}, a < n → b < n → r.idxOf a = r.idxOf b → a = b := fun {r} h {a b} ha hb e => by
      rw [← idxOf_get (h.all a ha), ← idxOf_get (h.all b hb), e]
    have key : ∀ {a b : Nat}, ApP n ns (a, b) → r1.idxOf a < r1.idxOf b → r2.idxOf b < r2.idxOf a := fun {a b} hp h1 => by
      obtain ⟨r, h2, h3⟩ := hc.cov (b, a) (apL_mem.2 hp.swap)
      have h3 := of_decide_eq_true h3
      rcases List.mem_cons.1 h2 with rfl | h2
      · exact absurd h3 (Nat.lt_asymm h1)
      · rw [List.mem_singleton] at h2; subst h2; exact h3
    refine ⟨fun a b => ApP n ns (a, b) ∧ r1.idxOf a < r1.idxOf b, fun h => h.1, fun {a b} hp => ?_, fun {a b c} h1 h2 => ?_⟩
    · rcases Nat.lt_trichotomy (r1.idxOf a) (r1.idxOf b) with q | q | q
      · exact .inl ⟨hp, q⟩
      · exact absurd (ahs i1 hp.l hp.r q) hp.ne
      · exact .inr ⟨hp.swap, q⟩
    · have k1 := key h1.1 h1.2
      have k2 := key h2.1 h2.2
      have q1 := Nat.lt_trans h1.2 h2.2
      have q2 := Nat.lt_trans k2 k1
      refine ⟨⟨h1.1.l, h2.1.r, fun e => ?_, ?_, ?_⟩, q1⟩
      · have e : a = c := e
        subst e
        exact Nat.lt_irrefl _ q1
      · cases hq : lt ns a c
        · rfl
        · exact absurd (i2.ord a c h2.1.r hq) (Nat.lt_asymm q2)
      · cases hq : lt ns c a
        · rfl
        · exact absurd (i1.ord c a h1.1.l hq) (Nat.lt_asymm q1)
theorem turnO_tro {n : Nat} {ns Q : List Nat} (h : TurnO n (apL n ns) Q) : TroR n ns fun a b => lt Q a b = true := by
  have inn : ∀ {a b}, lt Q a b = true → a < n ∧ b < n := fun q => ⟨vldA h.vld q, vldR h.vld q⟩
  refine ⟨fun {a b} q => apL_mem.1 ((h.iff a b (inn q).1 (inn q).2).1 (by unfold cmpE; rw [q]; rfl)), fun {a b} hp => ?_, fun {a b c} h1 h2 => okB_tr h.ok (inn h2).2 (inn h1).2 h2 h1⟩
  have := (h.iff a b hp.l hp.r).2 (apL_mem.2 hp)
  unfold cmpE at this
  rw [Bool.or_eq_true] at this
  exact this
open Classical in
theorem tro_turnO {n : Nat} {ns : List Nat} {T : Nat → Nat → Prop} (h : TroR n ns T) : ∃ Q, TurnO n (apL n ns) Q := by
  have hl : ∀ {a b}, a < n → b < n → (lt (ofn n fun a b => decide (T a b)) a b = true ↔ T a b) := fun {a b} ha hb => by
    rw [ofn_lt _ ha hb, decide_eq_true_eq]
  refine ⟨ofn n fun a b => decide (T a b), ofn_vld n _, okB_all (ofn_vld n _).2 fun i hi => ⟨fun j hj k hk => ?_, ?_⟩, fun a b ha hb => ?_⟩
  · cases ht : trip (ofn n fun a b => decide (T a b)) i j k
    · rfl
    · exfalso
      unfold trip at ht
      simp only [Bool.and_eq_true, Bool.not_eq_true'] at ht
      obtain ⟨h1, h2, h3⟩ := ht
      have := (hl hj hi).2 (h.tr ((hl (by assumption) (by assumption)).1 h1) ((hl (by assumption) (by assumption)).1 h2))
      rw [h3] at this; cases this
  · cases hq : lt (ofn n fun a b => decide (T a b)) i i
    · rfl
    · exact absurd ((hl hi hi).1 hq) h.irr
  · unfold cmpE
    dsimp only
    rw [Bool.or_eq_true, hl ha hb, hl hb ha, apL_mem]
    exact ⟨fun q => q.elim h.ap fun q => (h.ap q).swap, h.tot⟩
/-- Dushnik and Miller. -/
theorem dushnik {n : Nat} {ns : List Nat} (hv : Vld n ns) (hok : okB n ns = true) : (∃ Q, TurnO n (apL n ns) Q) ↔ Cvb n ns 2 :=
  ⟨fun ⟨Q, hQ⟩ => (turnO_tro hQ).cvb hv hok, fun h => by obtain ⟨T, hT⟩ := tro_cvb h; exact tro_turnO hT⟩
/-- Golumbic, Gallai. -/
theorem gallai {n : Nat} {ns : List Nat} : (∃ Q, TurnO n (apL n ns) Q) ↔ Tro (fun a b => ApP n ns (a, b)) n := by
  have hE : Gr fun a b => ApP n ns (a, b) := ⟨fun h => h.swap, fun h => h.ne rfl⟩
  constructor
  · rintro ⟨Q, hQ⟩
    have hT := turnO_tro hQ
    exact tro_of hE (T := fun a b => lt Q a b = true) hT.ap hT.tot hT.tr
  · intro h
    refine tro_turnO (T := Ly (fun a b => ApP n ns (a, b)) n (n * n)) ⟨fun q => ly_edge q, fun {a b} hp => ?_, fun h1 h2 => ly_trans hE (fun h => h.l) h h1 h2⟩
    refine ly_done hp.r hp ?_
    have : (a + 1) * n ≤ n * n := Nat.mul_le_mul_right n hp.l
    have hb := hp.r
    rw [Nat.succ_mul] at this
    dsimp only at hb
    omega
end Go.Proofs.Ytgojkabjgagjcaa
