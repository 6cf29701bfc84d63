import Derived.Test.YtdbngpkbamhbeaaGr
import Derived.Test.YtdbngpkbamhbeaaEngT
import Derived.Test.YtdbngpkbamhbeaaEngZd
import Derived.Test.YtdbngpkbamhbeaaEngZo
import Derived.Test.YtdbngpkbamhbeaaEngZf
import Derived.Test.YtdbngpkbamhbeaaFhb
import Derived.Laws.Slices
set_option linter.unusedSimpArgs false
set_option linter.unusedVariables false
set_option linter.unusedSectionVars false
set_option maxRecDepth 20000
namespace Go.Proofs.Ytdbngpkbamhbeaa
attribute [local irreducible] QOp aL aC qL
def cmpN (a b : Int) : Int := if a < b then -1 else if b < a then 1 else 0
attribute [local irreducible] FOp POp hL xH
end Go.Proofs.Ytdbngpkbamhbeaa
set_option linter.unusedSimpArgs false
set_option linter.unusedVariables false
set_option linter.unusedSectionVars false
set_option maxRecDepth 20000
namespace Go.Proofs.Ytdbngpkbamhbeaa
attribute [local irreducible] QOp aL aC qL
attribute [local irreducible] FOp POp hL xH
/-- What compares two numbers by their keys. -/
def CmpK (g : FuncId) (kf : Nat → Nat) : Prop := ∀ x y : Nat, x < 1024 → y < 1024 → AC Try.prog g [.val (.int .i64 (x : Nat)), .val (.int .i64 (y : Nat))] [] (.val (.int .i64 (cmpN (kf x : Nat) (kf y : Nat)))) []
def All10 (L : List Nat) : Prop := ∀ x ∈ L, x < 1024
theorem All10.get {L : List Nat} (h : All10 L) (i : Nat) : L.getD i 0 < 1024 := by
  rw [List.getD_eq_getElem?_getD]
  cases hq : L[i]? with
  | none => decide
  | some x => exact h x (List.mem_of_getElem? hq)
end Go.Proofs.Ytdbngpkbamhbeaa
set_option linter.unusedSimpArgs false
set_option linter.unusedVariables false
set_option linter.unusedSectionVars false
set_option maxRecDepth 20000
namespace Go.Proofs.Ytdbngpkbamhbeaa
attribute [local irreducible] QOp aL aC qL
attribute [local irreducible] FOp POp hL xH
variable {kf : Nat → Nat}
/-- What the merging of two stretches is. -/
def SymOk (g : FuncId) (kf : Nat → Nat) (f : Nat) : Prop := ∀ (L : List Nat) (a m b : Nat), a < m → m < b → b ≤ L.length → L.length ≤ 1024 → All10 L → b - a ≤ f → Srt kf a m L → Srt kf m b L →
    AC Try.prog 131 [.own 0, .val (.int .i64 (a : Nat)), .val (.int .i64 (m : Nat)), .val (.int .i64 (b : Nat)), .val (.func (.func g) #[] #[])] [.row 3 1 (intc (nl L))] (.tup []) [.row 3 1 (intc (nl (symF kf f a m b L)))]
end Go.Proofs.Ytdbngpkbamhbeaa
set_option linter.unusedSimpArgs false
set_option linter.unusedVariables false
set_option linter.unusedSectionVars false
set_option maxRecDepth 20000
namespace Go.Proofs.Ytdbngpkbamhbeaa
attribute [local irreducible] QOp aL aC qL
def obT (l : List (Nat × Nat)) (s k : Nat) : List Nat := (List.range k).filter fun t => sub s t && oba l t
def alT (L : List Nat) (i m : Nat) : Bool := (L.take m).all fun t => t.testBit i
end Go.Proofs.Ytdbngpkbamhbeaa
set_option linter.unusedSimpArgs false
set_option linter.unusedVariables false
set_option linter.unusedSectionVars false
set_option maxRecDepth 20000
namespace Go.Proofs.Ytdbngpkbamhbeaa
attribute [local irreducible] QOp aL aC qL
/-- A list of weights of the sets of n points. -/
def Wts (n : Nat) (f : List Int) : Prop := f.length = 2 ^ n ∧ ∀ w ∈ f, 0 ≤ w ∧ w ≤ 1000
theorem Wts.get {n : Nat} {f : List Int} (h : Wts n f) (s : Nat) : 0 ≤ f.getD s 0 ∧ f.getD s 0 ≤ 1000 := by
  rw [List.getD_eq_getElem?_getD]
  cases hk : f[s]? with
  | none => simp
  | some x => exact h.2 x (List.mem_of_getElem? hk)
def four (n : Nat) (a b c d : List Int) : Bool := (List.range (2 ^ n)).all fun s => (List.range (2 ^ n)).all fun t => !decide (a.getD s 0 * b.getD t 0 > c.getD (s ||| t) 0 * d.getD (s &&& t) 0)
end Go.Proofs.Ytdbngpkbamhbeaa
set_option linter.unusedSimpArgs false
set_option linter.unusedVariables false
set_option linter.unusedSectionVars false
set_option maxRecDepth 20000
namespace Go.Proofs.Ytdbngpkbamhbeaa
attribute [local irreducible] QOp aL aC qL
def cloT (n : Nat) (l : List (Nat × Nat)) (k : Nat) : List Nat := (List.range k).map (clo n l)
end Go.Proofs.Ytdbngpkbamhbeaa
set_option linter.unusedSimpArgs false
set_option linter.unusedVariables false
set_option linter.unusedSectionVars false
set_option maxRecDepth 20000
namespace Go.Proofs.Ytdbngpkbamhbeaa
attribute [local irreducible] QOp aL aC qL
/-- A set that is not closed, but is as far as the rules of smaller ones go. -/
def skO (cl : Nat → Nat) (T : List Nat) (s : Nat) : Bool := decide (cl s ≠ s) && T.all fun t => !sub t s || sub (cl t) s
def skT (cl : Nat → Nat) : Nat → List Nat
  | 0 => []
  | k + 1 => if skO cl (skT cl k) k = true then skT cl k ++ [k] else skT cl k
def skw (cl : Nat → Nat) (s : Nat) : Bool := skO cl (skT cl s) s
/-! Fewer marks. -/
/-- What the library has found so far. -/
def bsO (cl : Nat → Nat) (P : List Nat) (k : Nat) : List Nat := (P.take k).filter (skw cl)
end Go.Proofs.Ytdbngpkbamhbeaa
set_option linter.unusedSimpArgs false
set_option linter.unusedVariables false
set_option linter.unusedSectionVars false
set_option maxRecDepth 20000
namespace Go.Proofs.Ytdbngpkbamhbeaa
attribute [local irreducible] QOp aL aC qL
section
variable {P : Program} {st : St} {d : Option Tmp} {ty : TypeId} {pos : String} {af : Array Edge} {g : Option (Nat × Bool)}
/-- Two cells of an own row of pairs. -/
theorem Q_ld_ownP {x : Operand} {T e : TypeId} {l : List (Nat × Nat)} {id o : Nat} (hx : st.ev x = .ept id (o * 2)) (hob : st.objs[id]? = some (.row e 2 (pairc (pn l)))) (h : o < l.length) (ht : AgT P T 2) :
    QOp P ⟨d, .load T x, ty, pos, af, g⟩ st (.agg [.val (.int .i64 ((l.getD o (0, 0)).1 : Int)), .val (.int .i64 ((l.getD o (0, 0)).2 : Int))]) :=
  .run fun ρ w a hr => by
    have h' := hr.ev x
    rw [hx] at h'
    obtain ⟨b, n, cap, l', he, hl⟩ := h'.ept_inv
    obtain ⟨hρ, hrow⟩ := row_cells hr.good hob (.own id _ l' hl rfl)
    rcases hrow with ⟨h1, _⟩ | ⟨b', n', cap', h1, h2, h3, _, h4⟩
    · cases h1
    · cases h1
      have hg := pairc_get (l := pn l) (o := o) (by rw [pn_len]; exact h)
      rw [pn_get] at hg
      obtain ⟨v0, hv0, hr0⟩ := h4 (o * 2) _ hg.1
      obtain ⟨v1, hv1, hr1⟩ := h4 (o * 2 + 1) _ hg.2
      refine ⟨.agg #[v0, v1], .agg _ _ rfl fun i av v h5 h6 => ?_, fun w1 hw => ?_⟩
      · match i, h5, h6 with
        | 0, h5, h6 =>
          obtain rfl := Option.some.inj h5
          obtain rfl := Option.some.inj h6
          exact gm_ofD hr0
        | 1, h5, h6 =>
          obtain rfl := Option.some.inj h5
          obtain rfl := Option.some.inj h6
          exact gm_ofD hr1
      · have c0 : w1.cell? ⟨b, o * 2, none⟩ = some v0 := by rw [hw.cell (p := ⟨b, o * 2, none⟩) h3]; exact hv0
        have c1 : w1.cell? ⟨b, o * 2 + 1, none⟩ = some v1 := by rw [hw.cell (p := ⟨b, o * 2 + 1, none⟩) h3]; exact hv1
        have := run_loadAgg (P := P) (w := w1) ht ⟨b, o * 2, none⟩ [v0, v1] rfl fun j v hv => by
          match j, hv with
          | 0, hv => obtain rfl := Option.some.inj hv; exact c0
          | 1, hv => obtain rfl := Option.some.inj hv; exact c1
        simp [execOp, he, Instr.loadAt, Instr.sureAddr, this]
theorem Q_ix_ownP {x ix : Operand} {T e e' : TypeId} {l : List (Nat × Nat)} {id : Nat} {i : Int} {o : Nat} (hx : st.ev x = .own id) (hob : st.objs[id]? = some (.row e' 2 (pairc (pn l)))) (hi : st.ev ix = .val (.int .i64 i)) (ho : i = (o : Int)) (ht : SlT P T e 2) (h : o < l.length) :
    QOp P ⟨d, .indexAddr T x ix, ty, pos, af, g⟩ st (.ept id (o * 2)) := by
  have := Q_index_own (P := P) (d := d) (ty := ty) (pos := pos) (af := af) (g := g) (x := x) (ix := ix) hx hob hi ht (pairc_len (pn l)) (by decide) ⟨by omega, by rw [pn_len]; omega⟩
  rw [show i.toNat * 2 = o * 2 by omega] at this
  exact this
end
/-- Sets and what follows from them. -/
def rlP (cl : Nat → Nat) (T : List Nat) : List (Nat × Nat) := T.map fun t => (t, cl t)
end Go.Proofs.Ytdbngpkbamhbeaa
