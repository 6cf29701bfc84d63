import Derived.Test.YtbgecpjlopdkfaaDoorHfh
import Derived.Test.YtbgecpjlopdkfaaDoorHed
import Derived.Test.YtbgecpjlopdkfaaDoorHej
set_option linter.unusedSimpArgs false
set_option linter.unusedVariables false
set_option linter.unusedSectionVars false
set_option maxRecDepth 20000
namespace Go.Proofs.YtbgecpjlopdkfaaDoor
attribute [local irreducible] QOp aL aC qL
/-- A map of lattices that keeps what formulas are made of. -/
structure HomP (n : Nat) (M J : List (List Nat)) (n' : Nat) (M' J' : List (List Nat)) (h : Nat → Nat) : Prop where
  meet : ∀ x y, x < n → y < n → h (ta M x y) = ta M' (h x) (h y)
  join : ∀ x y, x < n → y < n → h (ta J x y) = ta J' (h x) (h y)
  imp : ∀ x y, x < n → y < n → h (impV n M J x y) = impV n' M' J' (h x) (h y)
  low : h (endE (ta M) n) = endE (ta M') n'
theorem fv_hom {n n' : Nat} {M J M' J' : List (List Nat)} (hL : La n M J) {h : Nat → Nat} (hh : HomP n M J n' M' J' h) {vs vs' : List Nat} (hvs : vs.length = 3 ∧ ∀ i, i < 3 → vs.getD i 0 < n) (hv : ∀ i, i < 3 → vs'.getD i 0 = h (vs.getD i 0)) :
    ∀ (d : Nat) (t : Tr), t.dep ≤ d → t.ffm = 0 → fvF n' M' J' vs' d t = h (fvF n M J vs d t)
  | 0, .mk k v l, hd, _ => by unfold Tr.dep at hd; omega
  | d + 1, .mk k v l, hd, hf => by
    obtain ⟨⟨w, rfl, hw, _⟩, hc⟩ := ffm_zero hf
    unfold Tr.dep at hd
    rcases hc with ⟨hk, rfl⟩ | ⟨hk, k1, v1, l1, k2, v2, l2, rfl, f1, f2⟩
    · rcases hk with rfl | rfl
      · exact hh.low.symm
      · show (if (2 : Int) = 2 then vs'.getD (w : Int).toNat 0 else _) = h (if (2 : Int) = 2 then vs.getD (w : Int).toNat 0 else _)
        rw [if_pos rfl, if_pos rfl, Int.toNat_natCast]
        exact hv w hw
    · rw [kdep_two] at hd
      have e1 := fv_hom hL hh hvs hv d (.mk k1 v1 l1) (by omega) f1
      have e2 := fv_hom hL hh hvs hv d (.mk k2 v2 l2) (by omega) f2
      have g1 := fv_lt hL hvs d (.mk k1 v1 l1) (by omega) f1
      have g2 := fv_lt hL hvs d (.mk k2 v2 l2) (by omega) f2
      rcases hk with rfl | rfl | rfl
      · show ta M' (fvF n' M' J' vs' d (.mk k1 v1 l1)) (fvF n' M' J' vs' d (.mk k2 v2 l2)) = h (ta M (fvF n M J vs d (.mk k1 v1 l1)) (fvF n M J vs d (.mk k2 v2 l2)))
        rw [e1, e2, hh.meet _ _ g1 g2]
      · show ta J' (fvF n' M' J' vs' d (.mk k1 v1 l1)) (fvF n' M' J' vs' d (.mk k2 v2 l2)) = h (ta J (fvF n M J vs d (.mk k1 v1 l1)) (fvF n M J vs d (.mk k2 v2 l2)))
        rw [e1, e2, hh.join _ _ g1 g2]
      · show impV n' M' J' (fvF n' M' J' vs' d (.mk k1 v1 l1)) (fvF n' M' J' vs' d (.mk k2 v2 l2)) = h (impV n M J (fvF n M J vs d (.mk k1 v1 l1)) (fvF n M J vs d (.mk k2 v2 l2)))
        rw [e1, e2, hh.imp _ _ g1 g2]
/-- Each three values have a number. -/
theorem vsK_of {n a b c : Nat} (ha : a < n) (hb : b < n) (hc : c < n) : (a * n + b) * n + c < n * n * n ∧ vsK n ((a * n + b) * n + c) = [a, b, c] := by
  have h0 : 0 < n := by omega
  have m1 : ∀ x y, y < n → (x * n + y) % n = y := fun x y hy => by rw [Nat.mul_comm, Nat.mul_add_mod, Nat.mod_eq_of_lt hy]
  have m2 : ∀ x y, y < n → (x * n + y) / n = x := fun x y hy => by rw [Nat.mul_comm, Nat.mul_add_div h0, Nat.div_eq_of_lt hy, Nat.add_zero]
  refine ⟨?_, ?_⟩
  · have e1 : a * n + b < n * n := by
      have : (a + 1) * n ≤ n * n := Nat.mul_le_mul_right n ha
      rw [Nat.add_mul] at this; omega
    have : (a * n + b + 1) * n ≤ n * n * n := Nat.mul_le_mul_right n e1
    rw [Nat.add_mul] at this; omega
  · unfold vsK
    rw [m2 (a * n + b) c hc, m2 a b hb, m1 a b hb, m1 _ c hc]
theorem val_all {n : Nat} {M J : List (List Nat)} {d : Nat} {t : Tr} (h : valB n M J d t = true) {a b c : Nat} (ha : a < n) (hb : b < n) (hc : c < n) : fvF n M J [a, b, c] d t = endE (ta J) n := by
  obtain ⟨h1, h2⟩ := vsK_of ha hb hc
  rw [← h2]
  exact of_decide_eq_true (List.all_eq_true.1 h _ (List.mem_range.2 h1))
abbrev M2 : List (List Nat) := [[0, 0], [0, 1]]
abbrev J2 : List (List Nat) := [[0, 1], [1, 1]]
theorem top2 : endE (ta J2) 2 = 1 ∧ endE (ta M2) 2 = 0 := by decide
theorem imp2 : impV 2 M2 J2 0 0 = 1 ∧ impV 2 M2 J2 0 1 = 1 ∧ impV 2 M2 J2 1 0 = 0 ∧ impV 2 M2 J2 1 1 = 1 := by decide
theorem filt_ltG {p q : Nat → Bool} (hq : ∀ x, q x = true → p x = true) : ∀ {l : List Nat} {x : Nat}, x ∈ l → p x = true → q x = false → (l.filter q).length < (l.filter p).length
  | y :: l, x, hx, h1, h2 => by
    have hle : (l.filter q).length ≤ (l.filter p).length := by
      clear hx h1 h2
      induction l with
      | nil => exact Nat.le_refl _
      | cons z l ih =>
        rw [List.filter_cons, List.filter_cons]
        by_cases hz : q z = true
        · rw [if_pos hz, if_pos (hq z hz)]; simpa using ih
        · rw [if_neg hz]
          split
          · rw [List.length_cons]; omega
          · exact ih
    rw [List.filter_cons, List.filter_cons]
    rcases List.mem_cons.1 hx with e | hx
    · subst e
      rw [if_pos h1, if_neg (by rw [h2]; decide), List.length_cons]; omega
    · have ih := filt_ltG hq hx h1 h2
      by_cases hz : q y = true
      · rw [if_pos hz, if_pos (hq y hz)]; simpa using ih
      · rw [if_neg hz]
        split
        · rw [List.length_cons]; omega
        · exact ih
section
variable {n : Nat} {M J : List (List Nat)} (hL : La n M J) (hD : DisP n (ta M) (ta J))
include hL hD
theorem lo_lt : endE (ta M) n < n := endE_lt hL.sM.lt n (Nat.le_refl n) hL.n1
theorem hi_lt : endE (ta J) n < n := endE_lt hL.sJ.lt n (Nat.le_refl n) hL.n1
theorem lo_le {x : Nat} (hx : x < n) : ta M (endE (ta M) n) x = endE (ta M) n := endE_least hL.A hL.n1 n (Nat.le_refl n) x hx
theorem le_hi {x : Nat} (hx : x < n) : ta M x (endE (ta J) n) = x := by
  have := endE_least hL.A.dual hL.n1 n (Nat.le_refl n) x hx
  rw [hL.A.up hx (hi_lt hL hD), hL.A.dual.comm hx (hi_lt hL hD)]; exact this
theorem le_lo {x : Nat} (hx : x < n) (h : ta M x (endE (ta M) n) = x) : x = endE (ta M) n := hL.A.anti hx (lo_lt hL hD) h (lo_le hL hD hx)
theorem imp_iff {w x y : Nat} (hw : w < n) (hx : x < n) (hy : y < n) : ta M (ta M w x) y = ta M w x ↔ ta M w (impV n M J x y) = w := imp_res hL.A hL.n1 hD hw hx hy
theorem impV_lt {x y : Nat} : impV n M J x y < n := impF_lt hL.A hL.n1 n (Nat.le_refl n)
/-- An atom below what is not the least. -/
theorem atom_ex : ∀ (c z : Nat), z < n → z ≠ endE (ta M) n → ((List.range n).filter fun y => decide (ta M y z = y)).length ≤ c → ∃ a, a < n ∧ a ≠ endE (ta M) n ∧ ta M a z = a ∧ ∀ y, y < n → ta M y a = y → y = endE (ta M) n ∨ y = a
  | c, z, hz, h0, hc => by
    by_cases he : ∃ y, y < n ∧ ta M y z = y ∧ y ≠ endE (ta M) n ∧ y ≠ z
    · obtain ⟨y, hy, hyz, hy0, hne⟩ := he
      have hlt := filt_ltG (p := fun u => decide (ta M u z = u)) (q := fun u => decide (ta M u y = u) && decide (u < n)) (fun u hu => by
        rw [Bool.and_eq_true, decide_eq_true_eq, decide_eq_true_eq] at hu
        exact decide_eq_true (hL.A.trans hu.2 hy hz hu.1 hyz)) (l := List.range n) (x := z) (List.mem_range.2 hz) (decide_eq_true (hL.A.idem hz)) (by
        rw [Bool.and_eq_false_iff, decide_eq_false_iff_not]
        left
        intro h
        exact hne (hL.A.anti hy hz hyz h))
      have hfe : ((List.range n).filter fun u => decide (ta M u y = u) && decide (u < n)) = (List.range n).filter fun u => decide (ta M u y = u) := List.filter_congr fun u hu => by
        rw [decide_eq_true (List.mem_range.1 hu), Bool.and_true]
      rw [hfe] at hlt
      cases c with
      | zero => omega
      | succ c =>
        obtain ⟨a, ha, h1, h2, h3⟩ := atom_ex c y hy hy0 (by omega)
        exact ⟨a, ha, h1, hL.A.trans ha hy hz h2 hyz, h3⟩
    · refine ⟨z, hz, h0, hL.A.idem hz, fun y hy hyz => ?_⟩
      apply Classical.byContradiction
      intro hn
      rw [not_or] at hn
      exact he ⟨y, hy, hyz, hn.1, hn.2⟩
/-- What an atom is below of. -/
theorem atom_hom {a : Nat} (ha : a < n) (h0 : a ≠ endE (ta M) n) (hat : ∀ y, y < n → ta M y a = y → y = endE (ta M) n ∨ y = a) : HomP n M J 2 M2 J2 (fun y => if ta M a y = a then 1 else 0) := by
  have A := hL.A
  have hlo := lo_lt hL hD
  have cut : ∀ y, y < n → ta M a y ≠ a → ta M a y = endE (ta M) n := fun y hy h => (hat (ta M a y) (hL.sM.lt _ _ ha hy) (A.below ha hy)).resolve_right h
  have m2 : ta M2 0 0 = 0 ∧ ta M2 0 1 = 0 ∧ ta M2 1 0 = 0 ∧ ta M2 1 1 = 1 := by decide
  have j2 : ta J2 0 0 = 0 ∧ ta J2 0 1 = 1 ∧ ta J2 1 0 = 1 ∧ ta J2 1 1 = 1 := by decide
  obtain ⟨i1, i2, i3, i4⟩ := imp2
  obtain ⟨m21, m22, m23, m24⟩ := m2
  obtain ⟨j21, j22, j23, j24⟩ := j2
  refine ⟨fun x y hx hy => ?_, fun x y hx hy => ?_, fun x y hx hy => ?_, ?_⟩
  · have hxy := hL.sM.lt _ _ hx hy
    by_cases h1 : ta M a x = a <;> by_cases h2 : ta M a y = a
    · rw [if_pos (A.greatest hx hy ha h1 h2), if_pos h1, if_pos h2, m24]
    · rw [if_neg (fun h => h2 (A.trans ha hxy hy h (A.below' hx hy))), if_pos h1, if_neg h2, m23]
    · rw [if_neg (fun h => h1 (A.trans ha hxy hx h (A.below hx hy))), if_neg h1, if_pos h2, m22]
    · rw [if_neg (fun h => h1 (A.trans ha hxy hx h (A.below hx hy))), if_neg h1, if_neg h2, m21]
  · have hxy := hL.sJ.lt _ _ hx hy
    by_cases h1 : ta M a x = a <;> by_cases h2 : ta M a y = a
    · rw [if_pos (A.trans ha hx hxy h1 (A.above hx hy)), if_pos h1, if_pos h2, j24]
    · rw [if_pos (A.trans ha hx hxy h1 (A.above hx hy)), if_pos h1, if_neg h2, j23]
    · rw [if_pos (A.trans ha hy hxy h2 (A.above' hx hy)), if_neg h1, if_pos h2, j22]
    · rw [if_neg (fun h => by
        rw [hD a x y ha hx hy, cut x hx h1, cut y hy h2, A.dual.idem hlo] at h
        exact h0 h.symm), if_neg h1, if_neg h2, j21]
  · have hi := impV_lt hL hD (x := x) (y := y)
    have key := imp_iff hL hD ha hx hy
    by_cases h1 : ta M a x = a
    · rw [h1] at key
      by_cases h2 : ta M a y = a
      · rw [if_pos (key.1 h2), if_pos h1, if_pos h2, i4]
      · rw [if_neg (fun h => h2 (key.2 h)), if_pos h1, if_neg h2, i3]
    · have : ta M (ta M a x) y = ta M a x := by rw [cut x hx h1]; exact lo_le hL hD hy
      rw [if_pos (key.1 this), if_neg h1]
      by_cases h2 : ta M a y = a
      · rw [if_pos h2, i2]
      · rw [if_neg h2, i1]
  · rw [if_neg (fun h => h0 (le_lo hL hD ha h)), top2.2]
/-- The lattice of two elements within one of more. -/
theorem two_hom (h1 : 1 < n) : endE (ta M) n ≠ endE (ta J) n ∧ HomP 2 M2 J2 n M J (fun y => if y = 0 then endE (ta M) n else endE (ta J) n) := by
  have A := hL.A
  have hlo := lo_lt hL hD
  have hhi := hi_lt hL hD
  have hne : endE (ta M) n ≠ endE (ta J) n := fun e => by
    have z0 := le_lo hL hD (x := 0) (by omega) (by rw [e]; exact le_hi hL hD (by omega))
    have z1 := le_lo hL hD (x := 1) h1 (by rw [e]; exact le_hi hL hD h1)
    omega
  have c : ∀ x, x < 2 → x = 0 ∨ x = 1 := fun x hx => by omega
  have jl : ta J (endE (ta M) n) (endE (ta J) n) = endE (ta J) n := (A.up hlo hhi).1 (lo_le hL hD hhi)
  have jr : ta J (endE (ta J) n) (endE (ta M) n) = endE (ta J) n := by rw [A.dual.comm hhi hlo]; exact jl
  have top_of : ∀ {x y : Nat}, x < n → y < n → ta M x y = x → impV n M J x y = endE (ta J) n := fun {x y} hx hy h => by
    have hi := impV_lt hL hD (x := x) (y := y)
    refine A.anti hi hhi (le_hi hL hD hi) ((imp_iff hL hD hhi hx hy).1 ?_)
    rw [A.comm hhi hx, le_hi hL hD hx]; exact h
  have bot : impV n M J (endE (ta J) n) (endE (ta M) n) = endE (ta M) n := by
    have hi := impV_lt hL hD (x := endE (ta J) n) (y := endE (ta M) n)
    refine le_lo hL hD hi ?_
    have := (imp_iff hL hD hi hhi hlo).2 (A.idem hi)
    rw [le_hi hL hD hi] at this; exact this
  refine ⟨hne, fun x y hx hy => ?_, fun x y hx hy => ?_, fun x y hx hy => ?_, rfl⟩
  · rcases c x hx with rfl | rfl <;> rcases c y hy with rfl | rfl
    · exact (A.idem hlo).symm
    · exact (lo_le hL hD hhi).symm
    · show endE (ta M) n = ta M (endE (ta J) n) (endE (ta M) n)
      rw [A.comm hhi hlo]; exact (lo_le hL hD hhi).symm
    · exact (A.idem hhi).symm
  · rcases c x hx with rfl | rfl <;> rcases c y hy with rfl | rfl
    · exact (A.dual.idem hlo).symm
    · exact jl.symm
    · exact jr.symm
    · exact (A.dual.idem hhi).symm
  · obtain ⟨i1, i2, i3, i4⟩ := imp2
    rcases c x hx with rfl | rfl <;> rcases c y hy with rfl | rfl
    · rw [i1]; exact (top_of hlo hlo (A.idem hlo)).symm
    · rw [i2]; exact (top_of hlo hhi (lo_le hL hD hhi)).symm
    · rw [i3]; exact bot.symm
    · rw [i4]; exact (top_of hhi hhi (A.idem hhi)).symm
end
theorem la2 : La 2 M2 J2 := pairL.1
/-- What is so in one of two elements and more is so in that of two. -/
theorem gl_two {n : Nat} {M J : List (List Nat)} (hL : La n M J) (hD : DisP n (ta M) (ta J)) (h1 : 1 < n) {d : Nat} {t : Tr} (hd : t.dep ≤ d) (hf : t.ffm = 0) (h : valB n M J d t = true) : valB 2 M2 J2 d t = true := by
  obtain ⟨hne, hh⟩ := two_hom hL hD h1
  refine List.all_eq_true.2 fun k hk => decide_eq_true ?_
  have hv := vsK_ok (List.mem_range.1 hk)
  have hq : ∀ y, (if y = 0 then endE (ta M) n else endE (ta J) n) < n := fun y => by
    split
    · exact lo_lt hL hD
    · exact hi_lt hL hD
  have e := fv_hom la2 hh hv (vs' := [if k / 2 / 2 = 0 then endE (ta M) n else endE (ta J) n, if k / 2 % 2 = 0 then endE (ta M) n else endE (ta J) n, if k % 2 = 0 then endE (ta M) n else endE (ta J) n]) (fun i hi => by
    rcases (show i = 0 ∨ i = 1 ∨ i = 2 by omega) with rfl | rfl | rfl <;> rfl) d t hd hf
  rw [val_all h (hq _) (hq _) (hq _)] at e
  have hl := fv_lt la2 hv d t hd hf
  rw [top2.1]
  rcases (show fvF 2 M2 J2 (vsK 2 k) d t = 0 ∨ fvF 2 M2 J2 (vsK 2 k) d t = 1 by omega) with e2 | e2
  · rw [e2, if_pos rfl] at e
    exact absurd e.symm hne
  · exact e2
def ntF (t : Tr) : Tr := .mk 5 0 [t, .mk 1 0 []]
theorem nt_ffm {t : Tr} (hf : t.ffm = 0) : (ntF t).ffm = 0 := by
  unfold ntF
  rw [ffm_eq, if_neg (by decide), if_neg (by simp), if_neg (by decide)]
  unfold kffm
  rw [hf, if_neg (by decide)]
  unfold kffm
  have : (Tr.mk 1 0 []).ffm = 0 := by
    rw [ffm_eq, if_neg (by decide), if_neg (by decide), if_neg (by decide)]; exact kffm_nil
  rw [this, if_neg (by decide)]; exact kffm_nil
theorem dep_pos (t : Tr) : 1 ≤ t.dep := by
  cases t; unfold Tr.dep; omega
theorem fv_nt {n : Nat} {M J : List (List Nat)} {vs : List Nat} {d : Nat} {t : Tr} (hd : 1 ≤ d) : fvF n M J vs (d + 1) (ntF t) = impV n M J (fvF n M J vs d t) (endE (ta M) n) := by
  obtain ⟨d, rfl⟩ : ∃ e, d = e + 1 := ⟨d - 1, by omega⟩
  rfl
/-- GLIVENKO: what is so in the lattice of two elements is not not so in each. -/
theorem gl_not {n : Nat} {M J : List (List Nat)} (hL : La n M J) (hD : DisP n (ta M) (ta J)) {d : Nat} {t : Tr} (hd : t.dep ≤ d) (hf : t.ffm = 0) (h : valB 2 M2 J2 d t = true) : valB n M J (d + 2) (ntF (ntF t)) = true := by
  have A := hL.A
  have hlo := lo_lt hL hD
  have hhi := hi_lt hL hD
  have d1 : 1 ≤ d := Nat.le_trans (dep_pos t) hd
  refine List.all_eq_true.2 fun k hk => decide_eq_true ?_
  have hv := vsK_ok (List.mem_range.1 hk)
  rw [fv_nt (by omega), fv_nt d1]
  have hx := fv_lt hL hv d t hd hf
  have hnx := impV_lt hL hD (x := fvF n M J (vsK n k) d t) (y := endE (ta M) n)
  by_cases hz : impV n M J (fvF n M J (vsK n k) d t) (endE (ta M) n) = endE (ta M) n
  · rw [hz]
    have hi := impV_lt hL hD (x := endE (ta M) n) (y := endE (ta M) n)
    refine A.anti hi hhi (le_hi hL hD hi) ((imp_iff hL hD hhi hlo hlo).1 ?_)
    rw [A.comm hhi hlo, lo_le hL hD hhi]; exact A.idem hlo
  · exfalso
    obtain ⟨a, ha, a0, a1, a2⟩ := atom_ex hL hD _ _ hnx hz (Nat.le_refl _)
    have hh := atom_hom hL hD ha a0 a2
    have q : ∀ y, (if ta M a y = a then 1 else 0) < 2 := fun y => by split <;> omega
    have e := fv_hom hL hh hv (vs' := [if ta M a (k / n / n) = a then 1 else 0, if ta M a (k / n % n) = a then 1 else 0, if ta M a (k % n) = a then 1 else 0]) (fun i hi => by
      rcases (show i = 0 ∨ i = 1 ∨ i = 2 by omega) with rfl | rfl | rfl <;> rfl) d t hd hf
    rw [val_all h (q _) (q _) (q _), top2.1] at e
    have hax : ta M a (fvF n M J (vsK n k) d t) = a := by
      apply Classical.byContradiction
      intro hn
      rw [if_neg hn] at e; cases e
    have := (imp_iff hL hD ha hx hlo).2 a1
    rw [hax] at this
    exact a0 (le_lo hL hD ha this)
end Go.Proofs.YtbgecpjlopdkfaaDoor
