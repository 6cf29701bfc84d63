import Derived.Test.YtdbngpkbamhbeaaYu
import Derived.Test.YtdbngpkbamhbeaaCc
import Derived.Test.YtdbngpkbamhbeaaEngT
import Derived.Test.YtdbngpkbamhbeaaEngZd
import Derived.Test.YtdbngpkbamhbeaaEngZo
import Derived.Test.YtdbngpkbamhbeaaEngR
import Derived.Test.YtdbngpkbamhbeaaIp
import Derived.Laws.Slices
set_option linter.unusedSimpArgs false
set_option linter.unusedVariables false
set_option linter.unusedSectionVars false
set_option maxRecDepth 20000
namespace Go.Proofs.Ytdbngpkbamhbeaa
attribute [local irreducible] QOp aL aC qL
variable {kf : Nat → Nat}
def upS (L : List Nat) (a : Nat) : Nat → List Nat
  | 0 => L
  | k + 1 => swp (upS L a k) (a + k) (a + k + 1)
def dmS (L : List Nat) (m : Nat) : Nat → List Nat
  | 0 => L
  | k + 1 => swp (dmS L m k) (m - k) (m - k - 1)
/-- Where the first half's rest begins. -/
def stM (kf : Nat → Nat) (a m b : Nat) (L : List Nat) : Nat :=
  fstF (fun c => !decide (kf (L.getD ((a + b) / 2 + m - 1 - c) 0) < kf (L.getD c 0))) (if (a + b) / 2 < m then (a + b) / 2 + m - b else a) (if (a + b) / 2 < m then (a + b) / 2 else m)
def i1M (kf : Nat → Nat) (a m b : Nat) (L : List Nat) : Nat := fstF (fun h => decide (kf (L.getD h 0) < kf (L.getD a 0))) m b
def i2M (kf : Nat → Nat) (a m _b : Nat) (L : List Nat) : Nat := fstF (fun h => !decide (kf (L.getD m 0) < kf (L.getD h 0))) a m
def ro1 (a m b : Nat) (L : List Nat) : List Nat := if a < m ∧ m < b then rotS a m b L else L
def symF (kf : Nat → Nat) : Nat → Nat → Nat → Nat → List Nat → List Nat
  | 0, _, _, _, L => L
  | f + 1, a, m, b, L =>
    if m - a = 1 then upS L a (i1M kf a m b L - 1 - a)
    else if b - m = 1 then dmS L m (m - i2M kf a m b L)
    else
      let s := stM kf a m b L
      let mid := (a + b) / 2
      let e := mid + m - s
      let L1 := ro1 s m e L
      let L2 := if a < s ∧ s < mid then symF kf f a s mid L1 else L1
      if mid < e ∧ e < b then symF kf f mid e b L2 else L2
end Go.Proofs.Ytdbngpkbamhbeaa
set_option linter.unusedSimpArgs false
set_option linter.unusedVariables false
set_option linter.unusedSectionVars false
set_option maxRecDepth 20000
namespace Go.Proofs.Ytdbngpkbamhbeaa
attribute [local irreducible] QOp aL aC qL
variable {kf : Nat → Nat}
def bkI (kf : Nat → Nat) (L : List Nat) : Nat → List Nat
  | 0 => L
  | k + 1 => insS kf (20 * k) (20 * k + 20) (bkI kf L k)
def stbB (kf : Nat → Nat) (n : Nat) (L : List Nat) : List Nat := insS kf (20 * (n / 20)) n (bkI kf L (n / 20))
def mgK (kf : Nat → Nat) (bs n : Nat) (L : List Nat) : Nat → List Nat
  | 0 => L
  | k + 1 => symF kf n (2 * bs * k) (2 * bs * k + bs) (2 * bs * k + 2 * bs) (mgK kf bs n L k)
def mgP (kf : Nat → Nat) (bs n : Nat) (L : List Nat) : List Nat :=
  if 2 * bs * (n / (2 * bs)) + bs < n then symF kf n (2 * bs * (n / (2 * bs))) (2 * bs * (n / (2 * bs)) + bs) n (mgK kf bs n L (n / (2 * bs))) else mgK kf bs n L (n / (2 * bs))
def mgA (kf : Nat → Nat) (n : Nat) (L : List Nat) : Nat → List Nat
  | 0 => stbB kf n L
  | t + 1 => mgP kf (20 * 2 ^ t) n (mgA kf n L t)
def tT (n : Nat) : Nat := fstF (fun t => decide (20 * 2 ^ t < n)) 0 n
/-- The list sorted. -/
def ssT (kf : Nat → Nat) (L : List Nat) : List Nat := mgA kf L.length L (tT L.length)
/-- In blocks of bs sorted. -/
def Bl (kf : Nat → Nat) (bs n : Nat) (L : List Nat) : Prop := ∀ q, Srt kf (bs * q) (min (bs * q + bs) n) L
end Go.Proofs.Ytdbngpkbamhbeaa
set_option linter.unusedSimpArgs false
set_option linter.unusedVariables false
set_option linter.unusedSectionVars false
set_option maxRecDepth 20000
namespace Go.Proofs.Ytdbngpkbamhbeaa
attribute [local irreducible] QOp aL aC qL
def badLen (n : Nat) (f : List Int) : Bool := decide ((f.length : Int) ≠ ((2 ^ n : Nat) : Int))
def badW (w : Int) : Bool := decide (w < 0) || decide (w > 1000)
def wchk (N : Int) (ls : List (List Int)) : Int := if N < 0 ∨ 6 < N then 2 else if ls.any (badLen N.toNat) = true then 1 else if ls.any (fun f => f.any badW) = true then 3 else 0

/-! The reference. -/
/-- Is one of the first k bad. -/
def anyTo {α : Type} (p : α → Bool) (l : List α) (k : Nat) : Bool := (l.take k).any p
end Go.Proofs.Ytdbngpkbamhbeaa
set_option linter.unusedSimpArgs false
set_option linter.unusedVariables false
set_option linter.unusedSectionVars false
set_option maxRecDepth 20000
namespace Go.Proofs.Ytdbngpkbamhbeaa
attribute [local irreducible] QOp aL aC qL
def sub (a b : Nat) : Bool := ndiff a b == 0
theorem sub_iff {a b : Nat} : sub a b = true ↔ ∀ i, a.testBit i = true → b.testBit i = true := by
  unfold sub; rw [beq_iff_eq]; exact ndiff_zero
def risesP (n : Nat) (f : List Int) : Bool := (List.range (2 ^ n)).all fun s => (List.range n).all fun p => !decide (f.getD (s ||| 2 ^ p) 0 < f.getD s 0)
def rising (n : Nat) (f : List Int) : Bool := (List.range (2 ^ n)).all fun a => (List.range (2 ^ n)).all fun b => !(sub a b && decide (f.getD a 0 > f.getD b 0))

/-! Walked. -/
end Go.Proofs.Ytdbngpkbamhbeaa
set_option linter.unusedSimpArgs false
set_option linter.unusedVariables false
set_option linter.unusedSectionVars false
set_option maxRecDepth 20000
namespace Go.Proofs.Ytdbngpkbamhbeaa
attribute [local irreducible] QOp aL aC qL
def obl (s : Nat) (r : Nat × Nat) : Bool := !sub r.1 s || sub r.2 s
def oba (l : List (Nat × Nat)) (s : Nat) : Bool := l.all (obl s)
/-- Rules of n marks. -/
structure Rls (n : Nat) (l : List (Nat × Nat)) : Prop where
  hn : n ≤ 10
  len : l.length ≤ 60
  lt : ∀ r ∈ l, r.1 < 2 ^ n ∧ r.2 < 2 ^ n
/-- What is the least that obeys. -/
structure IsCl (l : List (Nat × Nat)) (s r : Nat) : Prop where
  sup : sub s r = true
  ob : oba l r = true
  least : ∀ t, sub s t = true → oba l t = true → sub r t = true
def clo (n : Nat) (l : List (Nat × Nat)) (s : Nat) : Nat := ((List.range (2 ^ n)).filter fun t => sub s t && oba l t).foldl (fun x y => x &&& y) (2 ^ n - 1)
/-! What is wrong with rules. -/
def rlw (n : Int) (r : Int × Int) : Bool := decide (r.1 < 0 ∨ ((2 ^ n.toNat : Nat) : Int) ≤ r.1 ∨ r.2 < 0 ∨ ((2 ^ n.toNat : Nat) : Int) ≤ r.2)
def rlck (n : Int) (l : List (Int × Int)) : Int := if n < 0 ∨ 10 < n ∨ 60 < l.length then 2 else if l.any (rlw n) = true then 3 else 0
end Go.Proofs.Ytdbngpkbamhbeaa
set_option linter.unusedSimpArgs false
set_option linter.unusedVariables false
set_option linter.unusedSectionVars false
namespace Go.Proofs.Ytdbngpkbamhbeaa
open Go.ChangeShapes Go.WideShapes Go.RowKit Go.Deep
/-- One of them. -/
abbrev ruA (e : Int × Int) : AV := .agg [.val (.int .i64 e.1), .val (.int .i64 e.2)]
end Go.Proofs.Ytdbngpkbamhbeaa
set_option linter.unusedSimpArgs false
set_option linter.unusedVariables false
set_option linter.unusedSectionVars false
set_option maxRecDepth 20000
namespace Go.Proofs.Ytdbngpkbamhbeaa
attribute [local irreducible] QOp aL aC qL
def clzC (N : Int) (l : List (Int × Int)) (s : Int) : Int := if rlck N l ≠ 0 then rlck N l else if s < 0 ∨ ((2 ^ N.toNat : Nat) : Int) ≤ s then 3 else 0
def folC (N : Int) (l : List (Int × Int)) (r : Int × Int) : Int := if rlck N l ≠ 0 then rlck N l else if rlw N r = true then 3 else 0
/-! The reference. -/
end Go.Proofs.Ytdbngpkbamhbeaa
set_option linter.unusedSimpArgs false
set_option linter.unusedVariables false
set_option linter.unusedSectionVars false
set_option maxRecDepth 20000
namespace Go.Proofs.Ytdbngpkbamhbeaa
attribute [local irreducible] QOp aL aC qL
def iskU (n : Nat) (l : List (Nat × Nat)) (s m : Nat) : Bool := (List.range m).all fun i => !(s.testBit i && decide (clo n l (ndiff s (2 ^ i)) = 2 ^ n - 1))
def isk (n : Nat) (l : List (Nat × Nat)) (s : Nat) : Bool := decide (clo n l s = 2 ^ n - 1) && iskU n l s n
def keyT (n : Nat) (l : List (Nat × Nat)) (k : Nat) : List Nat := (List.range k).filter (isk n l)
end Go.Proofs.Ytdbngpkbamhbeaa
set_option linter.unusedSimpArgs false
set_option linter.unusedVariables false
set_option linter.unusedSectionVars false
set_option maxRecDepth 20000
namespace Go.Proofs.Ytdbngpkbamhbeaa
attribute [local irreducible] QOp aL aC qL
/-- How many of the first k points a set has. -/
def pcTo (x : Nat) : Nat → Nat
  | 0 => 0
  | k + 1 => pcTo x k + x / 2 ^ k % 2
def oc1 (x : Nat) : Nat := ((x / 2 ^ (1 : Int).toNat % 18446744073709551616 &&& (6148914691236517205 : Int).toNat) + (x % 18446744073709551616 &&& (6148914691236517205 : Int).toNat)) % 18446744073709551616
def oc2 (x : Nat) : Nat := ((x / 2 ^ (2 : Int).toNat % 18446744073709551616 &&& (3689348814741910323 : Int).toNat) + (x % 18446744073709551616 &&& (3689348814741910323 : Int).toNat)) % 18446744073709551616
def oc3 (x : Nat) : Nat := (x / 2 ^ (4 : Int).toNat + x) % 18446744073709551616 % 18446744073709551616 &&& (1085102592571150095 : Int).toNat
def oc4 (x : Nat) : Nat := (x + x / 2 ^ (8 : Int).toNat) % 18446744073709551616
def oc5 (x : Nat) : Nat := (x + x / 2 ^ (16 : Int).toNat) % 18446744073709551616
def oc6 (x : Nat) : Nat := (x + x / 2 ^ (32 : Int).toNat) % 18446744073709551616
def ocn (x : Nat) : Nat := oc6 (oc5 (oc4 (oc3 (oc2 (oc1 x)))))
end Go.Proofs.Ytdbngpkbamhbeaa
