/- Lattices: what is below what; maps that keep joins, and the way back (plain). -/
import Derived.Test.YtdkkalplgfhpdaaIo
set_option linter.unusedSimpArgs false
set_option linter.unusedVariables false
set_option linter.unusedSectionVars false
set_option maxRecDepth 20000
namespace Go.Proofs.Ytdkkalplgfhpdaa
attribute [local irreducible] QOp aL aC qL
/-- A lattice: meets f, joins g. -/
structure Lt (n : Nat) (f g : Nat → Nat → Nat) : Prop where
  fl : ∀ x y, x < n → y < n → f x y < n
  gl : ∀ x y, x < n → y < n → g x y < n
  lf : LawT n f g
  lg : LawT n g f
theorem lt_of {n : Nat} {M J : List (List Nat)} (hM : Sq n M) (hJ : Sq n J) (h : lawB n (ta M) (ta J) = true) : Lt n (ta M) (ta J) := by
  unfold lawB at h
  rw [Bool.and_eq_true, decide_eq_true_eq, decide_eq_true_eq] at h
  exact ⟨hM.lt, hJ.lt, h.1, h.2⟩
namespace Lt
variable {n : Nat} {f g : Nat → Nat → Nat} (L : Lt n f g)
include L
theorem dual : Lt n g f := ⟨L.gl, L.fl, L.lg, L.lf⟩
theorem idem {x : Nat} (hx : x < n) : f x x = x := (L.lf x hx).1
theorem comm {x y : Nat} (hx : x < n) (hy : y < n) : f x y = f y x := ((L.lf x hx).2 y hy).1
theorem absorb {x y : Nat} (hx : x < n) (hy : y < n) : f x (g x y) = x := ((L.lf x hx).2 y hy).2.1
theorem assoc {x y z : Nat} (hx : x < n) (hy : y < n) (hz : z < n) : f x (f y z) = f (f x y) z := ((L.lf x hx).2 y hy).2.2 z hz
/-- x is below y in meets just if it is so in joins. -/
theorem up {x y : Nat} (hx : x < n) (hy : y < n) : f x y = x ↔ g x y = y := by
  constructor
  · intro h
    have := L.dual.absorb (x := y) (y := x) hy hx
    rw [L.comm hy hx, h, L.dual.comm hy hx] at this
    exact this
  · intro h
    have := L.absorb (x := x) (y := y) hx hy
    rw [h] at this
    exact this
theorem trans {x y z : Nat} (hx : x < n) (hy : y < n) (hz : z < n) (h1 : f x y = x) (h2 : f y z = y) : f x z = x := by
  rw [← h1, ← L.assoc hx hy hz, h2, h1]
theorem anti {x y : Nat} (hx : x < n) (hy : y < n) (h1 : f x y = x) (h2 : f y x = y) : x = y := by rw [← h1, L.comm hx hy, h2]
theorem below {x y : Nat} (hx : x < n) (hy : y < n) : f (f x y) x = f x y := by
  rw [L.comm (L.fl x y hx hy) hx, L.assoc hx hx hy, L.idem hx]
theorem below' {x y : Nat} (hx : x < n) (hy : y < n) : f (f x y) y = f x y := by
  rw [← L.assoc hx hy hy, L.idem hy]
theorem greatest {x y z : Nat} (hx : x < n) (hy : y < n) (hz : z < n) (h1 : f z x = z) (h2 : f z y = z) : f z (f x y) = z := by
  rw [L.assoc hz hx hy, h1, h2]
theorem above {x y : Nat} (hx : x < n) (hy : y < n) : f x (g x y) = x := L.absorb hx hy
theorem above' {x y : Nat} (hx : x < n) (hy : y < n) : f y (g x y) = y := by rw [L.dual.comm hx hy]; exact L.absorb hy hx
theorem least {x y z : Nat} (hx : x < n) (hy : y < n) (hz : z < n) (h1 : f x z = x) (h2 : f y z = y) : f (g x y) z = g x y := by
  rw [L.up (L.gl x y hx hy) hz, ← L.dual.assoc hx hy hz, (L.up hy hz).1 h2, (L.up hx hz).1 h1]
end Lt
/-! The least element, in two ways. -/
def endE (f : Nat → Nat → Nat) : Nat → Nat
  | 0 => 0
  | k + 1 => f (endE f k) k
def lowR (f : Nat → Nat → Nat) : Nat → Nat
  | 0 => 0
  | k + 1 => if f k (lowR f k) = k then k else lowR f k
def topR (f : Nat → Nat → Nat) : Nat → Nat
  | 0 => 0
  | k + 1 => if f (topR f k) k = topR f k then k else topR f k
theorem endE_lt {n : Nat} {f : Nat → Nat → Nat} (hf : ∀ x y, x < n → y < n → f x y < n) : ∀ k, k ≤ n → 0 < n → endE f k < n
  | 0, _, h => h
  | k + 1, hk, h => hf _ _ (endE_lt hf k (by omega) h) (by omega)
theorem lowR_lt {n : Nat} {f : Nat → Nat → Nat} : ∀ k, k ≤ n → 0 < n → lowR f k < n
  | 0, _, h => h
  | k + 1, hk, h => by
    unfold lowR
    split
    · omega
    · exact lowR_lt k (by omega) h
theorem topR_lt {n : Nat} {f : Nat → Nat → Nat} : ∀ k, k ≤ n → 0 < n → topR f k < n
  | 0, _, h => h
  | k + 1, hk, h => by
    unfold topR
    split
    · omega
    · exact topR_lt k (by omega) h
theorem endE_least {n : Nat} {f g : Nat → Nat → Nat} (L : Lt n f g) (h0 : 0 < n) : ∀ k, k ≤ n → ∀ x, x < k → f (endE f k) x = endE f k
  | 0, _, x, hx => by omega
  | k + 1, hk, x, hx => by
    have he := endE_lt L.fl k (by omega) h0
    show f (f (endE f k) k) x = f (endE f k) k
    by_cases h : x = k
    · subst h
      exact L.below' he (by omega)
    · have ih := endE_least L h0 k (by omega) x (by omega)
      exact L.trans (L.fl _ _ he (by omega)) he (by omega) (L.below he (by omega)) ih
theorem lowR_end {n : Nat} {f g : Nat → Nat → Nat} (L : Lt n f g) (h0 : 0 < n) : lowR f n = endE f n := by
  have hb := endE_lt L.fl n (Nat.le_refl _) h0
  have hl := endE_least L h0 n (Nat.le_refl _)
  have key : ∀ k, k ≤ n → endE f n < k → lowR f k = endE f n := by
    intro k
    induction k with
    | zero => intro _ h; omega
    | succ k ih =>
      intro hk h
      have hlk := lowR_lt (f := f) k (by omega) h0
      unfold lowR
      by_cases hkb : k = endE f n
      · rw [if_pos (by rw [hkb]; rw [← hkb]; rw [hkb]; exact hl _ (by rw [← hkb]; exact hlk))]
        exact hkb
      · have := ih (by omega) (by omega)
        rw [if_neg]
        · exact this
        · intro hc
          rw [this] at hc
          exact hkb (L.anti (by omega) hb hc (hl k (by omega)))
  exact key n (Nat.le_refl _) hb
/-! Maps that keep joins, and the way back. -/
def KeepsP (n ba bb : Nat) (ja jb : Nat → Nat → Nat) (F : Nat → Nat) : Prop := F ba = bb ∧ ∀ x, x < n → ∀ y, y < n → F (ja x y) = jb (F x) (F y)
instance (n ba bb : Nat) (ja jb : Nat → Nat → Nat) (F : Nat → Nat) : Decidable (KeepsP n ba bb ja jb F) := by unfold KeepsP; infer_instance
def OrgP (n : Nat) (fa fb : Nat → Nat → Nat) (F : Nat → Nat) (y x : Nat) : Prop := ∀ u, u < n → decide (fb (F u) y = F u) = decide (fa u x = u)
instance (n : Nat) (fa fb : Nat → Nat → Nat) (F : Nat → Nat) (y x : Nat) : Decidable (OrgP n fa fb F y x) := by unfold OrgP; infer_instance
theorem OrgP.iff {n : Nat} {fa fb : Nat → Nat → Nat} {F : Nat → Nat} {y x : Nat} (h : OrgP n fa fb F y x) {u : Nat} (hu : u < n) : fb (F u) y = F u ↔ fa u x = u := decide_eq_decide.1 (h u hu)
theorem org_one {n : Nat} {fa ga fb : Nat → Nat → Nat} (L : Lt n fa ga) {F : Nat → Nat} {y x x' : Nat} (hx : x < n) (hx' : x' < n) (h : OrgP n fa fb F y x) (h' : OrgP n fa fb F y x') : x = x' :=
  L.anti hx hx' ((h'.iff hx).1 ((h.iff hx).2 (L.idem hx))) ((h.iff hx').1 ((h'.iff hx').2 (L.idem hx')))
structure Bk (n k : Nat) (fa fb : Nat → Nat → Nat) (F : Nat → Nat) (G : List Nat) : Prop where
  len : G.length = k
  ok : ∀ y, y < k → G.getD y 0 < n ∧ OrgP n fa fb F y (G.getD y 0)
theorem bk_ex (n : Nat) (fa fb : Nat → Nat → Nat) (F : Nat → Nat) : ∀ m, (∃ G, Bk n m fa fb F G) ∨ ∃ y, y < m ∧ (∃ G, Bk n y fa fb F G) ∧ ∀ x, x < n → ¬ OrgP n fa fb F y x
  | 0 => .inl ⟨[], rfl, fun y hy => by omega⟩
  | m + 1 => by
    rcases bk_ex n fa fb F m with ⟨G, h⟩ | ⟨y, h1, h2, h3⟩
    · by_cases hx : ∃ x, x < n ∧ OrgP n fa fb F m x
      · obtain ⟨x, hx, ho⟩ := hx
        refine .inl ⟨G ++ [x], by simp [h.len], fun y hy => ?_⟩
        by_cases hym : y = m
        · subst hym
          rw [List.getD_eq_getElem?_getD, List.getElem?_append_right (by rw [h.len]; omega), h.len, Nat.sub_self]
          exact ⟨hx, ho⟩
        · rw [List.getD_eq_getElem?_getD, List.getElem?_append_left (by rw [h.len]; omega), ← List.getD_eq_getElem?_getD]
          exact h.ok y (by omega)
      · exact .inr ⟨m, by omega, ⟨G, h⟩, fun x hxn ho => hx ⟨x, hxn, ho⟩⟩
    · exact .inr ⟨y, by omega, h2, h3⟩
theorem Bk.pre {n k : Nat} {fa fb : Nat → Nat → Nat} {F : Nat → Nat} {G : List Nat} (h : Bk n k fa fb F G) {j : Nat} (hj : j ≤ k) : Bk n j fa fb F (G.take j) :=
  ⟨by rw [List.length_take, h.len]; omega, fun y hy => by
    have : (G.take j).getD y 0 = G.getD y 0 := by
      rw [List.getD_eq_getElem?_getD, List.getElem?_take, if_pos hy, ← List.getD_eq_getElem?_getD]
    rw [this]; exact h.ok y (by omega)⟩
theorem take_snoc {G : List Nat} {j : Nat} (h : j < G.length) : G.take j ++ [G.getD j 0] = G.take (j + 1) := by
  rw [List.take_add_one, List.getElem?_eq_getElem h, List.getD_eq_getElem?_getD, List.getElem?_eq_getElem h]; rfl
theorem Bk.le {n m : Nat} {fa fb : Nat → Nat → Nat} {F : Nat → Nat} {G : List Nat} (h : Bk n m fa fb F G) {x y : Nat} (hx : x < n) (hy : y < m) : fb (F x) y = F x ↔ fa x (G.getD y 0) = x := (h.ok y hy).2.iff hx
section
variable {n m : Nat} {fa ga fb gb : Nat → Nat → Nat} {F : Nat → Nat} {G : List Nat}
/-- What goes back from there where it goes is above it. -/
theorem bk_up (B : Lt m fb gb) (hF : ∀ x, x < n → F x < m) (h : Bk n m fa fb F G) {x : Nat} (hx : x < n) : fa x (G.getD (F x) 0) = x := (h.le hx (hF x hx)).1 (B.idem (hF x hx))
theorem bk_down (A : Lt n fa ga) (h : Bk n m fa fb F G) {y : Nat} (hy : y < m) : fb (F (G.getD y 0)) y = F (G.getD y 0) := (h.le (h.ok y hy).1 hy).2 (A.idem (h.ok y hy).1)
theorem bk_mono (A : Lt n fa ga) (B : Lt m fb gb) (hF : ∀ x, x < n → F x < m) (h : Bk n m fa fb F G) {x x' : Nat} (hx : x < n) (hx' : x' < n) (hle : fa x x' = x) : fb (F x) (F x') = F x :=
  (h.le hx (hF x' hx')).2 (A.trans hx hx' (h.ok _ (hF x' hx')).1 hle (bk_up B hF h hx'))
theorem bk_monoG (A : Lt n fa ga) (B : Lt m fb gb) (hF : ∀ x, x < n → F x < m) (h : Bk n m fa fb F G) {y y' : Nat} (hy : y < m) (hy' : y' < m) (hle : fb y y' = y) : fa (G.getD y 0) (G.getD y' 0) = G.getD y 0 :=
  (h.le (h.ok y hy).1 hy').1 (B.trans (hF _ (h.ok y hy).1) hy hy' (bk_down A h hy) hle)
/-- There, back and there is there. -/
theorem bk_fgf (A : Lt n fa ga) (B : Lt m fb gb) (hF : ∀ x, x < n → F x < m) (h : Bk n m fa fb F G) {x : Nat} (hx : x < n) : F (G.getD (F x) 0) = F x :=
  B.anti (hF _ (h.ok _ (hF x hx)).1) (hF x hx) (bk_down A h (hF x hx)) (bk_mono A B hF h hx (h.ok _ (hF x hx)).1 (bk_up B hF h hx))
theorem bk_gfg (A : Lt n fa ga) (B : Lt m fb gb) (hF : ∀ x, x < n → F x < m) (h : Bk n m fa fb F G) {y : Nat} (hy : y < m) : G.getD (F (G.getD y 0)) 0 = G.getD y 0 :=
  A.anti (h.ok _ (hF _ (h.ok y hy).1)).1 (h.ok y hy).1 (bk_monoG A B hF h (hF _ (h.ok y hy).1) hy (bk_down A h hy)) (bk_up B hF h (h.ok y hy).1)
/-- Back keeps meets. -/
theorem bk_meet (A : Lt n fa ga) (B : Lt m fb gb) (hF : ∀ x, x < n → F x < m) (h : Bk n m fa fb F G) {y z : Nat} (hy : y < m) (hz : z < m) : G.getD (fb y z) 0 = fa (G.getD y 0) (G.getD z 0) := by
  have a1 := (h.ok y hy).1
  have a2 := (h.ok z hz).1
  have a3 := B.fl y z hy hz
  have a4 := (h.ok _ a3).1
  have a5 := A.fl _ _ a1 a2
  refine A.anti a4 a5 (A.greatest a1 a2 a4 (bk_monoG A B hF h a3 hy (B.below hy hz)) (bk_monoG A B hF h a3 hz (B.below' hy hz))) ((h.le a5 a3).1 ?_)
  have b1 := hF _ a5
  exact B.greatest hy hz b1 ((h.le a5 hy).2 (A.below a1 a2)) ((h.le a5 hz).2 (A.below' a1 a2))
/-- A map with a way back keeps joins. -/
theorem bk_keeps (A : Lt n fa ga) (B : Lt m fb gb) (hn : 0 < n) (hm : 0 < m) (hF : ∀ x, x < n → F x < m) (h : Bk n m fa fb F G) : KeepsP n (endE fa n) (endE fb m) ga gb F := by
  have ha := endE_lt A.fl n (Nat.le_refl _) hn
  have hb := endE_lt B.fl m (Nat.le_refl _) hm
  refine ⟨B.anti (hF _ ha) hb ((h.le ha hb).2 (endE_least A hn n (Nat.le_refl _) _ (h.ok _ hb).1)) (endE_least B hm m (Nat.le_refl _) _ (hF _ ha)), fun x hx y hy => ?_⟩
  have a1 := A.gl x y hx hy
  have b1 := hF x hx
  have b2 := hF y hy
  have b3 := B.gl _ _ b1 b2
  refine B.anti (hF _ a1) b3 ((h.le a1 b3).2 (A.least hx hy (h.ok _ b3).1 ((h.le hx b3).1 (B.above b1 b2)) ((h.le hy b3).1 (B.above' b1 b2)))) ?_
  exact B.least b1 b2 (hF _ a1) (bk_mono A B hF h hx a1 (A.above hx hy)) (bk_mono A B hF h hy a1 (A.above' hx hy))
/-- The join of the elements below k that go below y. -/
def sup (fb ga : Nat → Nat → Nat) (F : Nat → Nat) (bot y : Nat) : Nat → Nat
  | 0 => bot
  | k + 1 => if fb (F k) y = F k then ga (sup fb ga F bot y k) k else sup fb ga F bot y k
/-- A map that keeps joins has a way back. -/
theorem keeps_bk (A : Lt n fa ga) (B : Lt m fb gb) (hn : 0 < n) (hm : 0 < m) (hF : ∀ x, x < n → F x < m) (h : KeepsP n (endE fa n) (endE fb m) ga gb F) {y : Nat} (hy : y < m) : ∃ x, x < n ∧ OrgP n fa fb F y x := by
  have ha := endE_lt A.fl n (Nat.le_refl _) hn
  have key : ∀ k, k ≤ n → sup fb ga F (endE fa n) y k < n ∧ fb (F (sup fb ga F (endE fa n) y k)) y = F (sup fb ga F (endE fa n) y k) ∧ ∀ u, u < k → fb (F u) y = F u → fa u (sup fb ga F (endE fa n) y k) = u := by
    intro k
    induction k with
    | zero => exact fun _ => ⟨ha, by show fb (F (endE fa n)) y = F (endE fa n); rw [h.1]; exact endE_least B hm m (Nat.le_refl _) y hy, fun u hu => by omega⟩
    | succ k ih =>
      intro hk
      obtain ⟨i1, i2, i3⟩ := ih (by omega)
      have hkn : k < n := by omega
      by_cases hc : fb (F k) y = F k
      · have e : sup fb ga F (endE fa n) y (k + 1) = ga (sup fb ga F (endE fa n) y k) k := by show (if _ then _ else _) = _; rw [if_pos hc]
        rw [e]
        refine ⟨A.gl _ _ i1 hkn, ?_, fun u hu hul => ?_⟩
        · rw [h.2 _ i1 k hkn]
          exact B.least (hF _ i1) (hF k hkn) hy i2 hc
        · by_cases huk : u = k
          · subst huk; exact A.above' i1 hkn
          · exact A.trans (by omega) i1 (A.gl _ _ i1 hkn) (i3 u (by omega) hul) (A.above i1 hkn)
      · have e : sup fb ga F (endE fa n) y (k + 1) = sup fb ga F (endE fa n) y k := by show (if _ then _ else _) = _; rw [if_neg hc]
        rw [e]
        refine ⟨i1, i2, fun u hu hul => ?_⟩
        by_cases huk : u = k
        · subst huk; exact absurd hul hc
        · exact i3 u (by omega) hul
  obtain ⟨k1, k2, k3⟩ := key n (Nat.le_refl _)
  refine ⟨_, k1, fun u hu => decide_eq_decide.2 ⟨k3 u hu, fun hle => ?_⟩⟩
  have hs := hF _ k1
  have hu' := hF u hu
  refine B.trans hu' hs hy ?_ k2
  rw [B.up hu' hs]
  have := h.2 u hu _ k1
  rw [(A.up hu k1).1 hle] at this
  exact this.symm
end
end Go.Proofs.Ytdkkalplgfhpdaa
