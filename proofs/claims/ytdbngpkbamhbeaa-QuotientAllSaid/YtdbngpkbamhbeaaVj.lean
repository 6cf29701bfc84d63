import Derived.Test.YtdbngpkbamhbeaaTi
import Derived.Test.YtdbngpkbamhbeaaFo
import Derived.Test.YtdbngpkbamhbeaaEngZw
import Derived.Test.YtdbngpkbamhbeaaFhb
import Derived.Test.YtdbngpkbamhbeaaEngT
import Derived.Test.YtdbngpkbamhbeaaEngZzc
import Derived.Test.YtdbngpkbamhbeaaEngZf
import Derived.Test.YtdbngpkbamhbeaaEngZo
import Derived.Test.YtdbngpkbamhbeaaIp
set_option linter.unusedSimpArgs false
set_option linter.unusedVariables false
set_option linter.unusedSectionVars false
set_option maxRecDepth 20000
namespace Go.Proofs.Ytdbngpkbamhbeaa
attribute [local irreducible] QOp aL aC qL
theorem sqN_le2 {f g : Nat → Nat} : ∀ {k : Nat}, (∀ i, i < k → f i ≤ g i) → sqN f k ≤ sqN g k
  | 0, _ => Nat.le_refl _
  | k + 1, h => by
    have h1 := h k (by omega)
    have h2 := sqN_le2 (f := f) (g := g) (k := k) fun i hi => h i (by omega)
    rw [sqN, sqN]; omega
theorem sqN_lt {f g : Nat → Nat} : ∀ {k x : Nat}, (∀ i, i < k → f i ≤ g i) → x < k → f x < g x → sqN f k < sqN g k
  | 0, x, _, hx, _ => by omega
  | k + 1, x, h, hx, hl => by
    have h1 := h k (by omega)
    rw [sqN, sqN]
    by_cases e : x = k
    · subst e
      have := sqN_le2 (f := f) (g := g) (k := x) fun i hi => h i (by omega)
      omega
    · have := sqN_lt (f := f) (g := g) (k := k) (x := x) (fun i hi => h i (by omega)) (by omega) hl
      omega
/-- How many truths. -/
def cntM (n : Nat) (M : Nat → Nat → Bool) : Nat := sqN (fun a => cqN (M a) n) n
theorem updM_same (M : Nat → Nat → Bool) (a c : Nat) (v : Bool) : updM M a c v a c = v := by unfold updM; rw [if_pos ⟨rfl, rfl⟩]
theorem updM_true {M : Nat → Nat → Bool} {a c x y : Nat} : updM M a c true x y = true ↔ (x = a ∧ y = c) ∨ M x y = true := by
  unfold updM
  by_cases h : x = a ∧ y = c
  · rw [if_pos h]; simp [h]
  · rw [if_neg h]; simp [h]
theorem cntM_upd {n : Nat} {M : Nat → Nat → Bool} {a c : Nat} (ha : a < n) (hc : c < n) (h : M a c = false) : cntM n M < cntM n (updM M a c true) := by
  refine sqN_lt (x := a) (fun i _ => cqN_mono fun y _ hy => updM_true.2 (.inr hy)) ha ?_
  exact cqN_lt (x := c) (fun y _ hy => updM_true.2 (.inr hy)) hc h (updM_same _ _ _ _)
/-- It has the pairs, and nothing that is not come to by them. -/
structure TG (n : Nat) (l : List (Nat × Nat)) (M : Nat → Nat → Bool) : Prop where
  sup : ∀ p ∈ l, M p.1 p.2 = true
  snd : ∀ a b, a < n → b < n → M a b = true → Reach l a b
theorem TG.upd {n : Nat} {l : List (Nat × Nat)} {M : Nat → Nat → Bool} (h : TG n l M) {a b c : Nat} (ha : a < n) (hb : b < n) (hc : c < n) (h1 : M a b = true) (h2 : M b c = true) : TG n l (updM M a c true) :=
  ⟨fun p hp => updM_true.2 (.inr (h.sup p hp)), fun x y hx hy hxy => by
    rcases updM_true.1 hxy with ⟨rfl, rfl⟩ | hxy
    · exact (h.snd _ _ ha hb h1).trans (h.snd _ _ hb hc h2)
    · exact h.snd x y hx hy hxy⟩
/-- So far a pass has come. -/
def Dn (a b c a' b' c' : Nat) : Prop := a' < a ∨ (a' = a ∧ (b' < b ∨ (b' = b ∧ c' < c)))
structure PI (n : Nat) (l : List (Nat × Nat)) (M0 : Nat → Nat → Bool) (ag : Bool) (M : Nat → Nat → Bool) (a b c : Nat) : Prop where
  tg : TG n l M
  no : ag = false → M = M0 ∧ ∀ a' b' c', a' < n → b' < n → c' < n → Dn a b c a' b' c' → M a' b' = true → M b' c' = true → M a' c' = true
  ys : ag = true → cntM n M0 < cntM n M
theorem PI.start {n : Nat} {l : List (Nat × Nat)} {M : Nat → Nat → Bool} (h : TG n l M) : PI n l M false M 0 0 0 :=
  ⟨h, fun _ => ⟨rfl, fun a' b' c' _ _ _ hd => by unfold Dn at hd; omega⟩, fun h => by cases h⟩
theorem PI.to {n : Nat} {l : List (Nat × Nat)} {M0 M : Nat → Nat → Bool} {ag : Bool} {a b c a2 b2 c2 : Nat} (h : PI n l M0 ag M a b c) (hd : ∀ a' b' c', a' < n → b' < n → c' < n → Dn a2 b2 c2 a' b' c' → Dn a b c a' b' c') : PI n l M0 ag M a2 b2 c2 :=
  ⟨h.tg, fun hf => ⟨(h.no hf).1, fun a' b' c' h1 h2 h3 h4 => (h.no hf).2 a' b' c' h1 h2 h3 (hd a' b' c' h1 h2 h3 h4)⟩, h.ys⟩
theorem PI.keep {n : Nat} {l : List (Nat × Nat)} {M0 M : Nat → Nat → Bool} {ag : Bool} {a b c : Nat} (h : PI n l M0 ag M a b c) (hk : M a b = true → M b c = true → M a c = true) : PI n l M0 ag M a b (c + 1) :=
  ⟨h.tg, fun hf => ⟨(h.no hf).1, fun a' b' c' h1 h2 h3 h4 => by
    by_cases e : a' = a ∧ b' = b ∧ c' = c
    · obtain ⟨rfl, rfl, rfl⟩ := e; exact hk
    · exact (h.no hf).2 a' b' c' h1 h2 h3 (by unfold Dn at *; omega)⟩, h.ys⟩
theorem PI.upd {n : Nat} {l : List (Nat × Nat)} {M0 M : Nat → Nat → Bool} {ag : Bool} {a b c : Nat} (h : PI n l M0 ag M a b c) (ha : a < n) (hb : b < n) (hc : c < n) (h1 : M a b = true) (h2 : M b c = true) (h3 : M a c = false) : PI n l M0 true (updM M a c true) a b (c + 1) :=
  ⟨h.tg.upd ha hb hc h1 h2, fun hf => (by cases hf), fun _ => by
    have hu := cntM_upd ha hc h3
    cases hag : ag with
    | false => rw [(h.no hag).1] at hu ⊢; exact hu
    | true => exact Nat.lt_trans (h.ys hag) hu⟩
/-- Nothing turns any more. -/
def ClM (n : Nat) (M : Nat → Nat → Bool) : Prop := ∀ a b c, a < n → b < n → c < n → M a b = true → M b c = true → M a c = true
theorem PI.fin {n : Nat} {l : List (Nat × Nat)} {M0 M : Nat → Nat → Bool} (h : PI n l M0 false M n 0 0) : ClM n M :=
  fun a b c ha hb hc h1 h2 => (h.no rfl).2 a b c ha hb hc (.inl ha) h1 h2
/-- The first i pairs. -/
def prM (l : List (Nat × Nat)) (i : Nat) (a b : Nat) : Bool := decide ((a, b) ∈ l.take i)
end Go.Proofs.Ytdbngpkbamhbeaa
set_option linter.unusedSimpArgs false
set_option linter.unusedVariables false
set_option linter.unusedSectionVars false
set_option maxRecDepth 20000
namespace Go.Proofs.Ytdbngpkbamhbeaa

/-- How many are below. -/
def rk (n : Nat) (ns : List Nat) (b : Nat) : Nat := (List.range n).countP fun a => lt ns a b
/-- One step of the greatest. -/
def mx (p : Nat → Bool) (g : Nat → Nat) (j h : Nat) : Nat := if p j = true then max h (g j + 1) else h
def hF (n : Nat) (ns : List Nat) : Nat → Nat → Nat
  | 0, _ => 0
  | f + 1, b => iterN n (mx (fun j => lt ns j b) (hF n ns f)) 0
def hgt (n : Nat) (ns : List Nat) (b : Nat) : Nat := hF n ns (n + 1) b

/-! Rounds. -/
def rlx (ns : List Nat) (b a : Nat) (out : List Nat) : List Nat := if lt ns a b = true then out.set b (max (out.getD b 0) (out.getD a 0 + 1)) else out
def rlxB (n : Nat) (ns : List Nat) (b : Nat) (out : List Nat) : List Nat := iterN n (rlx ns b) out
def rlxR (n : Nat) (ns : List Nat) (_ : Nat) (out : List Nat) : List Nat := iterN n (rlxB n ns) out
def htP (n : Nat) (ns : List Nat) : List Nat := iterN n (rlxR n ns) (List.replicate n 0)

structure Hts (n : Nat) (ns : List Nat) (out : List Nat) : Prop where
  len : out.length = n
  le : ∀ b, b < n → out.getD b 0 ≤ hgt n ns b

end Go.Proofs.Ytdbngpkbamhbeaa
set_option linter.unusedSimpArgs false
set_option linter.unusedVariables false
set_option linter.unusedSectionVars false
set_option maxRecDepth 20000
namespace Go.Proofs.Ytdbngpkbamhbeaa
attribute [local irreducible] QOp aL aC qL
abbrev ordv (N : Int) (l : List Int) : AV := .agg [.val (.int .i64 N), ints l]
def uptoB (ns : List Nat) (a b : Nat) : Bool := decide (a = b) || lt ns a b
end Go.Proofs.Ytdbngpkbamhbeaa
set_option linter.unusedSimpArgs false
set_option linter.unusedVariables false
set_option linter.unusedSectionVars false
set_option maxRecDepth 20000
namespace Go.Proofs.Ytdbngpkbamhbeaa
attribute [local irreducible] QOp aL aC qL
def lowP (n : Nat) (ns : List Nat) (i : Nat) : Bool := (List.range n).all fun k => !lt ns k i
def highP (n : Nat) (ns : List Nat) (i : Nat) : Bool := (List.range n).all fun k => !lt ns i k
def zeroP (ns : List Nat) (i : Nat) : Bool := decide (ns.getD i 0 = 0)
def hiTo (n : Nat) (ns : List Nat) : Nat → Nat
  | 0 => 2 ^ n - 1
  | b + 1 => ndiff (hiTo n ns b) (ns.getD b 0)
/-! Ideals. -/
def idl (n : Nat) (ns : List Nat) (s : Nat) : Bool := (List.range n).all fun b => !s.testBit b || sub (ns.getD b 0) s
def idTo (n : Nat) (ns : List Nat) (k : Nat) : List Nat := (List.range k).filter (idl n ns)
end Go.Proofs.Ytdbngpkbamhbeaa
set_option linter.unusedSimpArgs false
set_option linter.unusedVariables false
set_option linter.unusedSectionVars false
set_option maxRecDepth 20000
namespace Go.Proofs.Ytdbngpkbamhbeaa
attribute [local irreducible] QOp aL aC qL
/-- The order of right events. -/
abbrev ahO (l : List Ev) : List Nat := clos l.length (ahTo l l.length)
/-- How many ticks. -/
def tkT (l : List Ev) : List Nat := (List.range l.length).map fun k => hgt l.length (ahO l) k + 1
end Go.Proofs.Ytdbngpkbamhbeaa
set_option linter.unusedSimpArgs false
set_option linter.unusedVariables false
set_option linter.unusedSectionVars false
set_option maxRecDepth 20000
namespace Go.Proofs.Ytdbngpkbamhbeaa
attribute [local irreducible] QOp aL aC qL
def tz64 : List Nat := [0, 1, 56, 2, 57, 49, 28, 3, 61, 58, 42, 50, 38, 29, 17, 4, 62, 47, 59, 36, 45, 43, 51, 22, 53, 39, 33, 30, 24, 18, 12, 5, 63, 55, 48, 27, 60, 41, 37, 16, 46, 35, 44, 21, 52, 32, 23, 11, 54, 26, 40, 15, 34, 20, 31, 10, 25, 14, 19, 9, 13, 8, 7, 6]
def tzi (x : Nat) : Nat := (x &&& (18446744073709551616 - x % 18446744073709551616) % 18446744073709551616) * 285870213051353865 % 18446744073709551616 / 2 ^ (58 : Int).toNat
def tzN (x : Nat) : Nat := tz64.getD (tzi x) 0
/-- The points of a set of ten at most, rising. -/
def mbs (s : Nat) : List Nat := (List.range 10).filter s.testBit
end Go.Proofs.Ytdbngpkbamhbeaa
set_option linter.unusedSimpArgs false
set_option linter.unusedVariables false
set_option linter.unusedSectionVars false
set_option maxRecDepth 20000
namespace Go.Proofs.Ytdbngpkbamhbeaa
attribute [local irreducible] QOp aL aC qL
/-- Of these events, how many are each worker's. -/
def cntA (l : List Ev) (w : Nat) (L : List Nat) : List Nat := (List.range w).map fun (v : Nat) => L.countP fun k => decide ((evA l k).2.1 = (v : Int))
/-- It, and what is below it. -/
def dnS (ns : List Nat) (i : Nat) : Nat := ns.getD i 0 ||| 2 ^ i
def upB (ns : List Nat) (i k : Nat) : Bool := decide (k = i) || lt ns k i
/-- The counts of the i-th event. -/
def ctR (l : List Ev) (w i : Nat) : List Nat := cntA l w ((List.range (i + 1)).filter (upB (ahO l) i))
def ctT (l : List Ev) (w k : Nat) : List (List Int) := (List.range k).map fun i => nl (ctR l w i)
end Go.Proofs.Ytdbngpkbamhbeaa
