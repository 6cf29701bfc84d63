import Derived.Test.YtdbngpkbamhbeaaJj
import Derived.Test.YtdbngpkbamhbeaaCo
set_option linter.unusedSimpArgs false
set_option linter.unusedVariables false
set_option linter.unusedSectionVars false
set_option maxRecDepth 20000
namespace Go.Proofs.Ytdbngpkbamhbeaa
attribute [local irreducible] QOp aL aC qL
theorem lawT_of {m : Nat} {R : Nat → Nat → Prop} {f g : Nat → Nat → Nat} (rf : ∀ x, x < m → R x x) (tr : ∀ x y z, x < m → y < m → z < m → R x y → R y z → R x z) (an : ∀ x y, x < m → y < m → R x y → R y x → x = y)
    (fl : ∀ x y, x < m → y < m → f x y < m) (gl : ∀ x y, x < m → y < m → g x y < m) (hf : ∀ x y z, x < m → y < m → z < m → (R z (f x y) ↔ R z x ∧ R z y)) (hg : ∀ x y, x < m → y < m → R x (g x y)) : LawT m f g := by
  have ext : ∀ p q, p < m → q < m → (∀ z, z < m → (R z p ↔ R z q)) → p = q := fun p q hp hq h => an p q hp hq ((h p hp).1 (rf p hp)) ((h q hq).2 (rf q hq))
  intro x hx
  refine ⟨ext _ _ (fl x x hx hx) hx fun z hz => by rw [hf x x z hx hx hz]; exact and_self_iff, fun y hy => ⟨?_, ?_, fun z hz => ?_⟩⟩
  · exact ext _ _ (fl x y hx hy) (fl y x hy hx) fun z hz => by rw [hf x y z hx hy hz, hf y x z hy hx hz]; exact and_comm
  · have h1 := gl x y hx hy
    refine ext _ _ (fl x _ hx h1) hx fun z hz => ?_
    rw [hf x _ z hx h1 hz]
    exact ⟨fun h => h.1, fun h => ⟨h, tr z x _ hz hx h1 h (hg x y hx hy)⟩⟩
  · have h1 := fl y z hy hz
    have h2 := fl x y hx hy
    refine ext _ _ (fl x _ hx h1) (fl _ z h2 hz) fun w hw => ?_
    rw [hf x _ w hx h1 hw, hf y z w hy hz hw, hf _ z w h2 hz hw, hf x y w hx hy hw]
    exact and_assoc.symm
theorem lt_of_order {m : Nat} {R : Nat → Nat → Prop} {f g : Nat → Nat → Nat} (rf : ∀ x, x < m → R x x) (tr : ∀ x y z, x < m → y < m → z < m → R x y → R y z → R x z) (an : ∀ x y, x < m → y < m → R x y → R y x → x = y)
    (fl : ∀ x y, x < m → y < m → f x y < m) (gl : ∀ x y, x < m → y < m → g x y < m) (hf : ∀ x y z, x < m → y < m → z < m → (R z (f x y) ↔ R z x ∧ R z y)) (hg : ∀ x y z, x < m → y < m → z < m → (R (g x y) z ↔ R x z ∧ R y z)) : Lt m f g :=
  ⟨fl, gl, lawT_of rf tr an fl gl hf fun x y hx hy => ((hg x y _ hx hy (gl x y hx hy)).1 (rf _ (gl x y hx hy))).1,
    lawT_of (R := fun a b => R b a) rf (fun x y z hx hy hz h1 h2 => tr z y x hz hy hx h2 h1) (fun x y hx hy h1 h2 => an x y hx hy h2 h1) gl fl (fun x y z hx hy hz => hg x y z hx hy hz)
      fun x y hx hy => ((hf x y _ hx hy (fl x y hx hy)).1 (rf _ (fl x y hx hy))).1⟩
theorem tbT_ta {n : Nat} (f : Nat → Nat → Nat) {x y : Nat} (hx : x < n) (hy : y < n) : ta (tbT n f n) x y = f x y := by
  unfold ta tbT rwT
  rw [List.getD_eq_getElem?_getD, List.getD_eq_getElem?_getD, List.getElem?_map, List.getElem?_range hx]
  show (List.map (f x) (List.range n))[y]?.getD 0 = _
  rw [List.getElem?_map, List.getElem?_range hy]; rfl
theorem tbT_sq {n : Nat} {f : Nat → Nat → Nat} (h : ∀ x y, x < n → y < n → f x y < n) : Sq n (tbT n f n) := by
  refine ⟨by simp [tbT], fun x hx => ?_, fun x y hx hy => by rw [tbT_ta f hx hy]; exact h x y hx hy⟩
  unfold tbT
  rw [List.getD_eq_getElem?_getD, List.getElem?_map, List.getElem?_range hx]
  show (rwT f x n).length = n
  exact rwT_len f x n
theorem LawT_congr {n : Nat} {f g f' g' : Nat → Nat → Nat} (h : ∀ x y, x < n → y < n → f x y = f' x y ∧ g x y = g' x y) (hf : ∀ x y, x < n → y < n → f' x y < n) (hg : ∀ x y, x < n → y < n → g' x y < n) (hl : LawT n f' g') : LawT n f g := by
  intro x hx
  obtain ⟨h1, h2⟩ := hl x hx
  refine ⟨(h x x hx hx).1.trans h1, fun y hy => ?_⟩
  obtain ⟨h3, h4, h5⟩ := h2 y hy
  refine ⟨?_, ?_, fun z hz => ?_⟩
  · rw [(h x y hx hy).1, (h y x hy hx).1]; exact h3
  · rw [(h x y hx hy).2, (h x _ hx (hg x y hx hy)).1]; exact h4
  · rw [(h y z hy hz).1, (h x y hx hy).1, (h x _ hx (hf y z hy hz)).1, (h _ z (hf x y hx hy) hz).1]; exact h5 z hz
theorem la_tbT {n : Nat} {f g : Nat → Nat → Nat} (h1 : 1 ≤ n) (h2 : n ≤ 40) (L : Lt n f g) : La n (tbT n f n) (tbT n g n) := by
  have e : ∀ x y, x < n → y < n → ta (tbT n f n) x y = f x y ∧ ta (tbT n g n) x y = g x y := fun x y hx hy => ⟨tbT_ta f hx hy, tbT_ta g hx hy⟩
  have sf := tbT_sq L.fl
  have sg := tbT_sq L.gl
  exact ⟨h1, h2, sf, sg, sf.lt, sg.lt, LawT_congr e L.fl L.gl L.lf, LawT_congr (fun x y hx hy => ⟨(e x y hx hy).2, (e x y hx hy).1⟩) L.gl L.fl L.lg⟩
/-- The lattice of sets: places of what two have in common, of the least one that has two. -/
def mtN (S : List Nat) (x y : Nat) : Nat := plN S (S.getD x 0 &&& S.getD y 0)
def jnN (S : List Nat) (J : Nat → Nat → Nat) (x y : Nat) : Nat := plN S (J (S.getD x 0) (S.getD y 0))
theorem StJ.mt {S : List Nat} {J : Nat → Nat → Nat} (h : StJ S J) {x y : Nat} (hx : x < S.length) (hy : y < S.length) : mtN S x y < S.length ∧ S.getD (mtN S x y) 0 = S.getD x 0 &&& S.getD y 0 := by
  obtain ⟨k, hk, hke⟩ := h.meet x y hx hy
  unfold mtN
  rw [(plN_of h hk hke).2]
  exact ⟨hk, hke⟩
theorem StJ.jn {S : List Nat} {J : Nat → Nat → Nat} (h : StJ S J) {x y : Nat} (hx : x < S.length) (hy : y < S.length) : jnN S J x y < S.length ∧ S.getD (jnN S J x y) 0 = J (S.getD x 0) (S.getD y 0) := by
  obtain ⟨k, hk, hke⟩ := h.join x y hx hy
  unfold jnN
  rw [(plN_of h hk hke).2]
  exact ⟨hk, hke⟩
theorem StJ.lt {S : List Nat} {J : Nat → Nat → Nat} (h : StJ S J) : Lt S.length (mtN S) (jnN S J) :=
  lt_of_order (R := fun a b => sub (S.getD a 0) (S.getD b 0) = true) (fun x _ => sub_rfl _) (fun x y z _ _ _ h1 h2 => sub_iff.2 fun i hi => sub_iff.1 h2 i (sub_iff.1 h1 i hi)) (fun x y hx hy h1 h2 => h.one x y hx hy (sub_eq h1 h2))
    (fun x y hx hy => (h.mt hx hy).1) (fun x y hx hy => (h.jn hx hy).1) (fun x y z hx hy hz => by rw [(h.mt hx hy).2]; exact sub_land) (fun x y z hx hy hz => by rw [(h.jn hx hy).2]; exact h.jub x y z hx hy hz)
theorem StJ.la {S : List Nat} {J : Nat → Nat → Nat} (h : StJ S J) (h1 : 1 ≤ S.length) (h2 : S.length ≤ 40) : La S.length (tbT S.length (mtN S) S.length) (tbT S.length (jnN S J) S.length) := la_tbT h1 h2 h.lt
theorem StJ.tabs {S : List Nat} {J : Nat → Nat → Nat} (h : StJ S J) : mtab S (· &&& ·) S.length = tn (tbT S.length (mtN S) S.length) ∧ mtab S J S.length = tn (tbT S.length (jnN S J) S.length) := by
  constructor
  · exact tab_eq (J := (· &&& ·)) fun i j hi hj => by
      obtain ⟨k, hk, hke⟩ := h.meet i j hi hj
      have := plN_of h hk hke
      rw [this.1, this.2]
  · exact tab_eq fun i j hi hj => by
      obtain ⟨k, hk, hke⟩ := h.join i j hi hj
      have := plN_of h hk hke
      rw [this.1, this.2]
/-- Below one another are two just if one is a part of the other one. -/
theorem StJ.below {S : List Nat} {J : Nat → Nat → Nat} (h : StJ S J) {x y : Nat} (hx : x < S.length) (hy : y < S.length) : mtN S x y = x ↔ sub (S.getD x 0) (S.getD y 0) = true := by
  obtain ⟨h1, h2⟩ := h.mt hx hy
  constructor
  · intro e
    rw [e] at h2
    exact (sub_land.1 (show sub (S.getD x 0) (S.getD x 0 &&& S.getD y 0) = true by rw [← h2]; exact sub_rfl _)).2
  · intro e
    refine h.one _ _ h1 hx ?_
    rw [h2]
    exact sub_eq (sub_land.1 (sub_rfl _)).1 (sub_land.2 ⟨sub_rfl _, e⟩)
end Go.Proofs.Ytdbngpkbamhbeaa
set_option linter.unusedSimpArgs false
set_option linter.unusedVariables false
set_option linter.unusedSectionVars false
set_option maxRecDepth 20000
namespace Go.Proofs.Ytdbngpkbamhbeaa
section
variable {n : Nat} {f g : Nat → Nat → Nat} (L : Lt n f g) (hn : n ≤ 40)
/-- A congruence by its place. -/
def cnA (n : Nat) (f g : Nat → Nat → Nat) (i : Nat) : List Nat := (conL n f g).getD i []
def cnM (n : Nat) (f g : Nat → Nat → Nat) (i j : Nat) : Nat := (conL n f g).idxOf (mtC n (cnA n f g i) (cnA n f g j))
def cnJ (n : Nat) (f g : Nat → Nat → Nat) (i j : Nat) : Nat := (conL n f g).idxOf (jnC n f g (cnA n f g i) (cnA n f g j))
theorem con_anti {c d : List Nat} (hc : Cg n f g c) (hd : Cg n f g d) (h1 : SubC n c d) (h2 : SubC n d c) : c = d :=
  can_one hc.len hd.len hc.can hd.can fun x hx y hy => ⟨h1 x hx y hy, h2 x hx y hy⟩
include L in
include L hn in
/-- One has less than another one. -/
def cnR (n : Nat) (f g : Nat → Nat → Nat) (i j : Nat) : Prop := SubC n (cnA n f g i) (cnA n f g j)
include L in
include L hn in
include L hn in
include L hn in
end
end Go.Proofs.Ytdbngpkbamhbeaa
