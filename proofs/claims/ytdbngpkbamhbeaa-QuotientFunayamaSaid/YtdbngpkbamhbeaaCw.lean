import Derived.Test.YtdbngpkbamhbeaaCv
import Derived.Test.YtdbngpkbamhbeaaCo
import Derived.Test.YtdbngpkbamhbeaaKl
set_option linter.unusedSimpArgs false
set_option linter.unusedVariables false
set_option linter.unusedSectionVars false
set_option maxRecDepth 20000
namespace Go.Proofs.Ytdbngpkbamhbeaa
theorem gl_of {k : Nat} {u : Nat → Nat → Bool} {R : Nat → Nat → Prop} (hu : ∀ a b, a < k → b < k → (u a b = true ↔ R a b)) (rf : ∀ x, x < k → R x x) (an : ∀ x y, x < k → y < k → R x y → R y x → x = y) {m : Nat → Nat → Nat}
    (fl : ∀ x y, x < k → y < k → m x y < k) (hf : ∀ x y z, x < k → y < k → z < k → (R z (m x y) ↔ R z x ∧ R z y)) {x y : Nat} (hx : x < k) (hy : y < k) : m x y < k ∧ ∀ z, z < k → glB k u x y z = decide (z = m x y) := by
  refine ⟨fl x y hx hy, fun z hz => ?_⟩
  have hm := fl x y hx hy
  have h0 := (hf x y _ hx hy hm).1 (rf _ hm)
  rw [Bool.eq_iff_iff]
  unfold glB
  rw [Bool.and_eq_true, Bool.and_eq_true, acc_iff, decide_eq_true_eq, hu z x hz hx, hu z y hz hy]
  constructor
  · rintro ⟨⟨h1, h2⟩, h3⟩
    have h4 := h3 _ hm
    rw [(hu _ x hm hx).2 h0.1, (hu _ y hm hy).2 h0.2] at h4
    exact an z _ hz hm ((hf x y z hx hy hz).2 ⟨h1, h2⟩) ((hu _ z hm hz).1 (by simpa using h4))
  · rintro rfl
    refine ⟨h0, fun w hw => ?_⟩
    by_cases h1 : u w x = true
    · by_cases h2 : u w y = true
      · rw [(hu w _ hw hm).2 ((hf x y w hx hy hw).2 ⟨(hu w x hw hx).1 h1, (hu w y hw hy).1 h2⟩)]; simp
      · rw [Bool.not_eq_true] at h2; rw [h2]; simp
    · rw [Bool.not_eq_true] at h1; rw [h1]; simp
theorem lu_of {k : Nat} {u : Nat → Nat → Bool} {R : Nat → Nat → Prop} (hu : ∀ a b, a < k → b < k → (u a b = true ↔ R a b)) (rf : ∀ x, x < k → R x x) (an : ∀ x y, x < k → y < k → R x y → R y x → x = y) {m : Nat → Nat → Nat}
    (fl : ∀ x y, x < k → y < k → m x y < k) (hf : ∀ x y z, x < k → y < k → z < k → (R (m x y) z ↔ R x z ∧ R y z)) {x y : Nat} (hx : x < k) (hy : y < k) : m x y < k ∧ ∀ z, z < k → luB k u x y z = decide (z = m x y) :=
  gl_of (u := fun a b => u b a) (R := fun a b => R b a) (fun a b ha hb => hu b a hb ha) rf (fun x y hx hy h1 h2 => an x y hx hy h2 h1) fl (fun x y z hx hy hz => hf x y z hx hy hz) hx hy
section
variable {n : Nat} {f g : Nat → Nat → Nat} (L : Lt n f g) (hn : n ≤ 40)
/-- A congruence by its place. -/
def cnA (n : Nat) (f g : Nat → Nat → Nat) (i : Nat) : List Nat := (conL n f g).getD i []
def cnM (n : Nat) (f g : Nat → Nat → Nat) (i j : Nat) : Nat := (conL n f g).idxOf (mtC n (cnA n f g i) (cnA n f g j))
def cnJ (n : Nat) (f g : Nat → Nat → Nat) (i j : Nat) : Nat := (conL n f g).idxOf (jnC n f g (cnA n f g i) (cnA n f g j))
theorem cnA_cg {i : Nat} (h : i < (conL n f g).length) : Cg n f g (cnA n f g i) := by
  unfold cnA
  rw [List.getD_eq_getElem?_getD, List.getElem?_eq_getElem h]
  exact conL_mem.1 (List.getElem_mem h)
theorem cn_at {c : List Nat} (h : Cg n f g c) : (conL n f g).idxOf c < (conL n f g).length ∧ cnA n f g ((conL n f g).idxOf c) = c := by
  have h1 := List.idxOf_lt_length_iff.2 (conL_mem.2 h)
  refine ⟨h1, ?_⟩
  unfold cnA
  rw [List.getD_eq_getElem?_getD, List.getElem?_eq_getElem h1, Option.getD_some]
  exact List.getElem_idxOf h1
theorem cnA_inj {i j : Nat} (hi : i < (conL n f g).length) (hj : j < (conL n f g).length) (h : cnA n f g i = cnA n f g j) : i = j := by
  unfold cnA at h
  rw [List.getD_eq_getElem?_getD, List.getD_eq_getElem?_getD, List.getElem?_eq_getElem hi, List.getElem?_eq_getElem hj, Option.getD_some, Option.getD_some] at h
  have hp := List.pairwise_iff_getElem.1 (conL_nd n f g)
  rcases Nat.lt_trichotomy i j with q | q | q
  · exact absurd h (hp i j hi hj q)
  · exact q
  · exact absurd h.symm (hp j i hj hi q)
theorem con_anti {c d : List Nat} (hc : Cg n f g c) (hd : Cg n f g d) (h1 : SubC n c d) (h2 : SubC n d c) : c = d :=
  can_one hc.len hd.len hc.can hd.can fun x hx y hy => ⟨h1 x hx y hy, h2 x hx y hy⟩
theorem fin_sub {c d : List Nat} (hc : Cg n f g c) : finB c d = true ↔ SubC n c d := by
  unfold finB
  rw [decide_eq_true_eq, hc.len]
  refine ⟨fun h x hx y hy e => ?_, fun h i hi k hk e => h i hi k (by omega) e⟩
  rcases Nat.lt_trichotomy x y with q | q | q
  · exact (h y hy x q e.symm).symm
  · rw [q]
  · exact h x hx y q e
include L in
theorem cnM_at {i j : Nat} (hi : i < (conL n f g).length) (hj : j < (conL n f g).length) : cnM n f g i j < (conL n f g).length ∧ cnA n f g (cnM n f g i j) = mtC n (cnA n f g i) (cnA n f g j) := cn_at (mtC_cg L (cnA_cg hi) (cnA_cg hj))
include L hn in
theorem cnJ_at {i j : Nat} (hi : i < (conL n f g).length) (hj : j < (conL n f g).length) : cnJ n f g i j < (conL n f g).length ∧ cnA n f g (cnJ n f g i j) = jnC n f g (cnA n f g i) (cnA n f g j) := cn_at (jnc_lst L hn (cnA_cg hi).len (cnA_cg hj).len).cg
/-- One has less than another one. -/
def cnR (n : Nat) (f g : Nat → Nat → Nat) (i j : Nat) : Prop := SubC n (cnA n f g i) (cnA n f g j)
theorem cnR_rf (x : Nat) : cnR n f g x x := fun _ _ _ _ h => h
theorem cnR_tr {x y z : Nat} (h1 : cnR n f g x y) (h2 : cnR n f g y z) : cnR n f g x z := fun a ha b hb h => h2 a ha b hb (h1 a ha b hb h)
theorem cnR_an {x y : Nat} (hx : x < (conL n f g).length) (hy : y < (conL n f g).length) (h1 : cnR n f g x y) (h2 : cnR n f g y x) : x = y := cnA_inj hx hy (con_anti (cnA_cg hx) (cnA_cg hy) h1 h2)
include L in
theorem cnM_R {x y z : Nat} (hx : x < (conL n f g).length) (hy : y < (conL n f g).length) : cnR n f g z (cnM n f g x y) ↔ cnR n f g z x ∧ cnR n f g z y := by
  unfold cnR
  rw [(cnM_at L hx hy).2]
  constructor
  · exact fun h => ⟨fun a ha b hb e => ((mtC_eq (cnA_cg hy) ha hb).1 (h a ha b hb e)).1, fun a ha b hb e => ((mtC_eq (cnA_cg hy) ha hb).1 (h a ha b hb e)).2⟩
  · rintro ⟨h1, h2⟩ a ha b hb e
    exact (mtC_eq (cnA_cg hy) ha hb).2 ⟨h1 a ha b hb e, h2 a ha b hb e⟩
include L hn in
theorem cnJ_R {x y z : Nat} (hx : x < (conL n f g).length) (hy : y < (conL n f g).length) (hz : z < (conL n f g).length) : cnR n f g (cnJ n f g x y) z ↔ cnR n f g x z ∧ cnR n f g y z := by
  unfold cnR
  rw [(cnJ_at L hn hx hy).2]
  obtain ⟨u1, u2⟩ := jnc_up L hn (cnA_cg hx).len (cnA_cg hy).len
  constructor
  · exact fun h => ⟨fun a ha b hb e => h a ha b hb (u1 a ha b hb e), fun a ha b hb e => h a ha b hb (u2 a ha b hb e)⟩
  · rintro ⟨h1, h2⟩
    exact jnc_least L hn (cnA_cg hx).len (cnA_cg hy).len (cnA_cg hz).cpt h1 h2
include L hn in
theorem cn_Lt : Lt (conL n f g).length (cnM n f g) (cnJ n f g) :=
  lt_of_order (R := cnR n f g) (fun x _ => cnR_rf x) (fun x y z _ _ _ h1 h2 => cnR_tr h1 h2) (fun x y hx hy h1 h2 => cnR_an hx hy h1 h2) (fun x y hx hy => (cnM_at L hx hy).1) (fun x y hx hy => (cnJ_at L hn hx hy).1)
    (fun x y z hx hy hz => cnM_R L hx hy) (fun x y z hx hy hz => cnJ_R L hn hx hy hz)
include L hn in
theorem cn_dist {x y z : Nat} (hx : x < (conL n f g).length) (hy : y < (conL n f g).length) (hz : z < (conL n f g).length) : cnM n f g x (cnJ n f g y z) = cnJ n f g (cnM n f g x y) (cnM n f g x z) := by
  have j1 := cnJ_at L hn hy hz
  have m1 := cnM_at L hx hy
  have m2 := cnM_at L hx hz
  have a1 := cnM_at L hx j1.1
  have a2 := cnJ_at L hn m1.1 m2.1
  refine cnR_an a1.1 a2.1 ?_ ?_
  · unfold cnR
    rw [a1.2, a2.2, j1.2, m1.2, m2.2]
    exact con_dist L hn (cnA_cg hx) (cnA_cg hy) (cnA_cg hz)
  · rw [cnJ_R L hn m1.1 m2.1 a1.1, cnM_R L hx j1.1, cnM_R L hx j1.1]
    have k0 := (cnJ_R L hn hy hz j1.1).1 (cnR_rf _)
    have k1 := (cnM_R L hx hy).1 (cnR_rf (cnM n f g x y))
    have k2 := (cnM_R L hx hz).1 (cnR_rf (cnM n f g x z))
    exact ⟨⟨k1.1, cnR_tr k1.2 k0.1⟩, k2.1, cnR_tr k2.2 k0.2⟩
end
end Go.Proofs.Ytdbngpkbamhbeaa
