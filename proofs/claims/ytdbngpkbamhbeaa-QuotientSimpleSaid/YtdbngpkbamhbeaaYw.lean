import Derived.Test.YtdbngpkbamhbeaaYu
set_option linter.unusedSimpArgs false
set_option linter.unusedVariables false
set_option linter.unusedSectionVars false
set_option maxRecDepth 20000
namespace Go.Proofs.Ytdbngpkbamhbeaa
attribute [local irreducible] QOp aL aC qL
variable {kf : Nat → Nat}
def upS (L : List Nat) (a : Nat) : Nat → List Nat
  | 0 => L
  | k + 1 => swp (upS L a k) (a + k) (a + k + 1)
def dmS (L : List Nat) (m : Nat) : Nat → List Nat
  | 0 => L
  | k + 1 => swp (dmS L m k) (m - k) (m - k - 1)
/-- Where the first half's rest begins. -/
def stM (kf : Nat → Nat) (a m b : Nat) (L : List Nat) : Nat :=
  fstF (fun c => !decide (kf (L.getD ((a + b) / 2 + m - 1 - c) 0) < kf (L.getD c 0))) (if (a + b) / 2 < m then (a + b) / 2 + m - b else a) (if (a + b) / 2 < m then (a + b) / 2 else m)
def i1M (kf : Nat → Nat) (a m b : Nat) (L : List Nat) : Nat := fstF (fun h => decide (kf (L.getD h 0) < kf (L.getD a 0))) m b
def i2M (kf : Nat → Nat) (a m _b : Nat) (L : List Nat) : Nat := fstF (fun h => !decide (kf (L.getD m 0) < kf (L.getD h 0))) a m
def ro1 (a m b : Nat) (L : List Nat) : List Nat := if a < m ∧ m < b then rotS a m b L else L
def symF (kf : Nat → Nat) : Nat → Nat → Nat → Nat → List Nat → List Nat
  | 0, _, _, _, L => L
  | f + 1, a, m, b, L =>
    if m - a = 1 then upS L a (i1M kf a m b L - 1 - a)
    else if b - m = 1 then dmS L m (m - i2M kf a m b L)
    else
      let s := stM kf a m b L
      let mid := (a + b) / 2
      let e := mid + m - s
      let L1 := ro1 s m e L
      let L2 := if a < s ∧ s < mid then symF kf f a s mid L1 else L1
      if mid < e ∧ e < b then symF kf f mid e b L2 else L2
end Go.Proofs.Ytdbngpkbamhbeaa
set_option linter.unusedSimpArgs false
set_option linter.unusedVariables false
set_option linter.unusedSectionVars false
set_option maxRecDepth 20000
namespace Go.Proofs.Ytdbngpkbamhbeaa
attribute [local irreducible] QOp aL aC qL
variable {kf : Nat → Nat}
def bkI (kf : Nat → Nat) (L : List Nat) : Nat → List Nat
  | 0 => L
  | k + 1 => insS kf (20 * k) (20 * k + 20) (bkI kf L k)
def stbB (kf : Nat → Nat) (n : Nat) (L : List Nat) : List Nat := insS kf (20 * (n / 20)) n (bkI kf L (n / 20))
def mgK (kf : Nat → Nat) (bs n : Nat) (L : List Nat) : Nat → List Nat
  | 0 => L
  | k + 1 => symF kf n (2 * bs * k) (2 * bs * k + bs) (2 * bs * k + 2 * bs) (mgK kf bs n L k)
def mgP (kf : Nat → Nat) (bs n : Nat) (L : List Nat) : List Nat :=
  if 2 * bs * (n / (2 * bs)) + bs < n then symF kf n (2 * bs * (n / (2 * bs))) (2 * bs * (n / (2 * bs)) + bs) n (mgK kf bs n L (n / (2 * bs))) else mgK kf bs n L (n / (2 * bs))
def mgA (kf : Nat → Nat) (n : Nat) (L : List Nat) : Nat → List Nat
  | 0 => stbB kf n L
  | t + 1 => mgP kf (20 * 2 ^ t) n (mgA kf n L t)
def tT (n : Nat) : Nat := fstF (fun t => decide (20 * 2 ^ t < n)) 0 n
/-- The list sorted. -/
def ssT (kf : Nat → Nat) (L : List Nat) : List Nat := mgA kf L.length L (tT L.length)
/-- In blocks of bs sorted. -/
def Bl (kf : Nat → Nat) (bs n : Nat) (L : List Nat) : Prop := ∀ q, Srt kf (bs * q) (min (bs * q + bs) n) L
end Go.Proofs.Ytdbngpkbamhbeaa
