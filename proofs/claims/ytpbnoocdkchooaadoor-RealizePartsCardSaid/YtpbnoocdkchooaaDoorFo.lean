import Derived.Test.YtpbnoocdkchooaaDoorGm
import Derived.Test.YtpbnoocdkchooaaDoorCc
set_option linter.unusedSimpArgs false
set_option linter.unusedVariables false
set_option linter.unusedSectionVars false
set_option maxRecDepth 20000
namespace Go.Proofs.YtpbnoocdkchooaaDoor
attribute [local irreducible] QOp aL aC qL
def swp (L : List Nat) (i j : Nat) : List Nat := (L.set i (L.getD j 0)).set j (L.getD i 0)
theorem swp_len (L : List Nat) (i j : Nat) : (swp L i j).length = L.length := by simp [swp]
theorem swp_get {L : List Nat} {i j : Nat} (hi : i < L.length) (hj : j < L.length) (x : Nat) : (swp L i j).getD x 0 = if x = j then L.getD i 0 else if x = i then L.getD j 0 else L.getD x 0 := by
  unfold swp
  rw [getD_set3 _ _ _ _ (by simpa using hj), getD_set3 _ _ _ _ hi]
theorem swp_perm {L : List Nat} {i j : Nat} (hi : i < L.length) (hj : j < L.length) : (swp L i j).Perm L := by
  have h := Array.swap_perm (xs := L.toArray) (i := i) (j := j) (by simpa using hi) (by simpa using hj)
  have e : (L.toArray.swap i j (by simpa using hi) (by simpa using hj)).toList = swp L i j := by
    unfold swp
    simp [Array.swap, hi, hj]
  have h2 := h.toList
  rw [e] at h2
  simpa using h2
/-- Only what lies between a and b is laid anew. -/
structure Sm (a b : Nat) (L L' : List Nat) : Prop where
  len : L'.length = L.length
  out : ∀ x, x < a ∨ b ≤ x → L'.getD x 0 = L.getD x 0
  im : ∀ x, a ≤ x → x < b → ∃ y, a ≤ y ∧ y < b ∧ L'.getD x 0 = L.getD y 0
  pm : L'.Perm L
theorem Sm.refl (a b : Nat) (L : List Nat) : Sm a b L L := ⟨rfl, fun _ _ => rfl, fun x h1 h2 => ⟨x, h1, h2, rfl⟩, List.Perm.refl L⟩
theorem Sm.trans {a b : Nat} {L L' L'' : List Nat} (h : Sm a b L L') (g : Sm a b L' L'') : Sm a b L L'' := by
  refine ⟨g.len.trans h.len, fun x hx => (g.out x hx).trans (h.out x hx), fun x h1 h2 => ?_, g.pm.trans h.pm⟩
  obtain ⟨y, h3, h4, h5⟩ := g.im x h1 h2
  obtain ⟨z, h6, h7, h8⟩ := h.im y h3 h4
  exact ⟨z, h6, h7, h5.trans h8⟩
theorem Sm.wide {a b a' b' : Nat} {L L' : List Nat} (h : Sm a b L L') (ha : a' ≤ a) (hb : b ≤ b') : Sm a' b' L L' := by
  refine ⟨h.len, fun x hx => h.out x (by omega), fun x h1 h2 => ?_, h.pm⟩
  by_cases hx : a ≤ x ∧ x < b
  · obtain ⟨y, h3, h4, h5⟩ := h.im x hx.1 hx.2
    exact ⟨y, by omega, by omega, h5⟩
  · exact ⟨x, h1, h2, h.out x (by omega)⟩
theorem Sm.swp {a b i j : Nat} {L : List Nat} (h1 : a ≤ i) (h2 : i < b) (h3 : a ≤ j) (h4 : j < b) (hb : b ≤ L.length) : Sm a b L (swp L i j) := by
  have hg := swp_get (L := L) (i := i) (j := j) (by omega) (by omega)
  refine ⟨swp_len L i j, fun x hx => ?_, fun x hx hx2 => ?_, swp_perm (by omega) (by omega)⟩
  · rw [hg, if_neg (by omega), if_neg (by omega)]
  · rw [hg]
    by_cases e : x = j
    · rw [if_pos e]; exact ⟨i, h1, h2, rfl⟩
    · rw [if_neg e]
      by_cases e2 : x = i
      · rw [if_pos e2]; exact ⟨j, h3, h4, rfl⟩
      · rw [if_neg e2]; exact ⟨x, hx, hx2, rfl⟩
variable {kf : Nat → Nat}
/-- Sorted between a and b. -/
def Srt (kf : Nat → Nat) (a b : Nat) (L : List Nat) : Prop := ∀ x y, a ≤ x → x ≤ y → y < b → kf (L.getD x 0) ≤ kf (L.getD y 0)
theorem Srt.sub {a b a' b' : Nat} {L : List Nat} (h : Srt kf a b L) (ha : a ≤ a') (hb : b' ≤ b) : Srt kf a' b' L := fun x y h1 h2 h3 => h x y (by omega) h2 (by omega)
theorem Srt.out {a b c d : Nat} {L L' : List Nat} (h : Srt kf a b L) (g : Sm c d L L') (hd : b ≤ c ∨ d ≤ a) : Srt kf a b L' := fun x y h1 h2 h3 => by
  rw [g.out x (by omega), g.out y (by omega)]; exact h x y h1 h2 h3
/-! Insertion. -/
def insD (kf : Nat → Nat) (a : Nat) : Nat → List Nat → List Nat
  | 0, L => L
  | j + 1, L => if a < j + 1 ∧ kf (L.getD (j + 1) 0) < kf (L.getD j 0) then insD kf a j (swp L (j + 1) j) else L
def isI (kf : Nat → Nat) (a : Nat) (L : List Nat) : Nat → List Nat
  | 0 => L
  | k + 1 => insD kf a (a + 1 + k) (isI kf a L k)
/-- From a on, below b. -/
def insS (kf : Nat → Nat) (a b : Nat) (L : List Nat) : List Nat := isI kf a L (b - (a + 1))
/-! Blocks that change places. -/
def sxR (a b : Nat) (L : List Nat) : Nat → List Nat
  | 0 => L
  | k + 1 => swp (sxR a b L k) (a + k) (b + k)
/-- What comes of two blocks that change places. -/
def rtG (a m b : Nat) (L : List Nat) (x : Nat) : Nat := if a ≤ x ∧ x < b then (if x < a + (b - m) then L.getD (m + (x - a)) 0 else L.getD (a + (x - (a + (b - m)))) 0) else L.getD x 0
def rotF : Nat → Nat → Nat → Nat → List Nat → List Nat
  | 0, _, _, _, L => L
  | f + 1, m, i, j, L => if i = j then sxR (m - i) m L i else if j < i then rotF f m (i - j) j (sxR (m - i) m L j) else rotF f m i (j - i) (sxR (m - i) (m + j - i) L i)
def rotS (a m b : Nat) (L : List Nat) : List Nat := rotF (b - a) m (m - a) (b - m) L
/-! The first that is not such. -/
def fstF (P : Nat → Bool) (lo hi : Nat) : Nat := lo + ((List.range (hi - lo)).takeWhile fun k => P (lo + k)).length
end Go.Proofs.YtpbnoocdkchooaaDoor
set_option linter.unusedSimpArgs false
set_option linter.unusedVariables false
set_option linter.unusedSectionVars false
set_option maxRecDepth 20000
namespace Go.Proofs.YtpbnoocdkchooaaDoor
attribute [local irreducible] QOp aL aC qL
variable {kf : Nat → Nat}
def upS (L : List Nat) (a : Nat) : Nat → List Nat
  | 0 => L
  | k + 1 => swp (upS L a k) (a + k) (a + k + 1)
def dmS (L : List Nat) (m : Nat) : Nat → List Nat
  | 0 => L
  | k + 1 => swp (dmS L m k) (m - k) (m - k - 1)
/-- Where the first half's rest begins. -/
def stM (kf : Nat → Nat) (a m b : Nat) (L : List Nat) : Nat :=
  fstF (fun c => !decide (kf (L.getD ((a + b) / 2 + m - 1 - c) 0) < kf (L.getD c 0))) (if (a + b) / 2 < m then (a + b) / 2 + m - b else a) (if (a + b) / 2 < m then (a + b) / 2 else m)
def i1M (kf : Nat → Nat) (a m b : Nat) (L : List Nat) : Nat := fstF (fun h => decide (kf (L.getD h 0) < kf (L.getD a 0))) m b
def i2M (kf : Nat → Nat) (a m _b : Nat) (L : List Nat) : Nat := fstF (fun h => !decide (kf (L.getD m 0) < kf (L.getD h 0))) a m
def ro1 (a m b : Nat) (L : List Nat) : List Nat := if a < m ∧ m < b then rotS a m b L else L
def symF (kf : Nat → Nat) : Nat → Nat → Nat → Nat → List Nat → List Nat
  | 0, _, _, _, L => L
  | f + 1, a, m, b, L =>
    if m - a = 1 then upS L a (i1M kf a m b L - 1 - a)
    else if b - m = 1 then dmS L m (m - i2M kf a m b L)
    else
      let s := stM kf a m b L
      let mid := (a + b) / 2
      let e := mid + m - s
      let L1 := ro1 s m e L
      let L2 := if a < s ∧ s < mid then symF kf f a s mid L1 else L1
      if mid < e ∧ e < b then symF kf f mid e b L2 else L2
end Go.Proofs.YtpbnoocdkchooaaDoor
set_option linter.unusedSimpArgs false
set_option linter.unusedVariables false
set_option linter.unusedSectionVars false
set_option maxRecDepth 20000
namespace Go.Proofs.YtpbnoocdkchooaaDoor
attribute [local irreducible] QOp aL aC qL
variable {kf : Nat → Nat}
def bkI (kf : Nat → Nat) (L : List Nat) : Nat → List Nat
  | 0 => L
  | k + 1 => insS kf (20 * k) (20 * k + 20) (bkI kf L k)
def stbB (kf : Nat → Nat) (n : Nat) (L : List Nat) : List Nat := insS kf (20 * (n / 20)) n (bkI kf L (n / 20))
def mgK (kf : Nat → Nat) (bs n : Nat) (L : List Nat) : Nat → List Nat
  | 0 => L
  | k + 1 => symF kf n (2 * bs * k) (2 * bs * k + bs) (2 * bs * k + 2 * bs) (mgK kf bs n L k)
def mgP (kf : Nat → Nat) (bs n : Nat) (L : List Nat) : List Nat :=
  if 2 * bs * (n / (2 * bs)) + bs < n then symF kf n (2 * bs * (n / (2 * bs))) (2 * bs * (n / (2 * bs)) + bs) n (mgK kf bs n L (n / (2 * bs))) else mgK kf bs n L (n / (2 * bs))
def mgA (kf : Nat → Nat) (n : Nat) (L : List Nat) : Nat → List Nat
  | 0 => stbB kf n L
  | t + 1 => mgP kf (20 * 2 ^ t) n (mgA kf n L t)
def tT (n : Nat) : Nat := fstF (fun t => decide (20 * 2 ^ t < n)) 0 n
/-- The list sorted. -/
def ssT (kf : Nat → Nat) (L : List Nat) : List Nat := mgA kf L.length L (tT L.length)
/-- In blocks of bs sorted. -/
def Bl (kf : Nat → Nat) (bs n : Nat) (L : List Nat) : Prop := ∀ q, Srt kf (bs * q) (min (bs * q + bs) n) L
end Go.Proofs.YtpbnoocdkchooaaDoor
set_option linter.unusedSimpArgs false
set_option linter.unusedVariables false
set_option linter.unusedSectionVars false
set_option maxRecDepth 20000
namespace Go.Proofs.YtpbnoocdkchooaaDoor
attribute [local irreducible] QOp aL aC qL
def badLen (n : Nat) (f : List Int) : Bool := decide ((f.length : Int) ≠ ((2 ^ n : Nat) : Int))
def badW (w : Int) : Bool := decide (w < 0) || decide (w > 1000)
def wchk (N : Int) (ls : List (List Int)) : Int := if N < 0 ∨ 6 < N then 2 else if ls.any (badLen N.toNat) = true then 1 else if ls.any (fun f => f.any badW) = true then 3 else 0

/-! The reference. -/
/-- Is one of the first k bad. -/
def anyTo {α : Type} (p : α → Bool) (l : List α) (k : Nat) : Bool := (l.take k).any p
end Go.Proofs.YtpbnoocdkchooaaDoor
set_option linter.unusedSimpArgs false
set_option linter.unusedVariables false
set_option linter.unusedSectionVars false
set_option maxRecDepth 20000
namespace Go.Proofs.YtpbnoocdkchooaaDoor
attribute [local irreducible] QOp aL aC qL
def sub (a b : Nat) : Bool := ndiff a b == 0
theorem sub_iff {a b : Nat} : sub a b = true ↔ ∀ i, a.testBit i = true → b.testBit i = true := by
  unfold sub; rw [beq_iff_eq]; exact ndiff_zero
def risesP (n : Nat) (f : List Int) : Bool := (List.range (2 ^ n)).all fun s => (List.range n).all fun p => !decide (f.getD (s ||| 2 ^ p) 0 < f.getD s 0)
def rising (n : Nat) (f : List Int) : Bool := (List.range (2 ^ n)).all fun a => (List.range (2 ^ n)).all fun b => !(sub a b && decide (f.getD a 0 > f.getD b 0))

/-! Walked. -/
end Go.Proofs.YtpbnoocdkchooaaDoor
