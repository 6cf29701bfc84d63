import Derived.Test.YtpbnoocdkchooaaDoorFo
import Derived.Test.YtpbnoocdkchooaaDoorEngT
import Derived.Test.YtpbnoocdkchooaaDoorEngZd
import Derived.Test.YtpbnoocdkchooaaDoorCd
import Derived.Test.YtpbnoocdkchooaaDoorEngR
import Derived.Test.YtpbnoocdkchooaaDoorIp
import Derived.Test.YtpbnoocdkchooaaDoorEngZf
import Derived.Test.YtpbnoocdkchooaaDoorFe
import Derived.Laws.Slices
set_option linter.unusedSimpArgs false
set_option linter.unusedVariables false
set_option linter.unusedSectionVars false
set_option maxRecDepth 20000
namespace Go.Proofs.YtpbnoocdkchooaaDoor
attribute [local irreducible] QOp aL aC qL
def obl (s : Nat) (r : Nat × Nat) : Bool := !sub r.1 s || sub r.2 s
def oba (l : List (Nat × Nat)) (s : Nat) : Bool := l.all (obl s)
theorem sub_anti {a b : Nat} (h1 : sub a b = true) (h2 : sub b a = true) : a = b := Nat.eq_of_testBit_eq fun i => by
  have := sub_iff.1 h1 i
  have := sub_iff.1 h2 i
  cases h : a.testBit i <;> cases h' : b.testBit i <;> simp_all
/-- Rules of n marks. -/
structure Rls (n : Nat) (l : List (Nat × Nat)) : Prop where
  hn : n ≤ 10
  len : l.length ≤ 60
  lt : ∀ r ∈ l, r.1 < 2 ^ n ∧ r.2 < 2 ^ n
/-- What is the least that obeys. -/
structure IsCl (l : List (Nat × Nat)) (s r : Nat) : Prop where
  sup : sub s r = true
  ob : oba l r = true
  least : ∀ t, sub s t = true → oba l t = true → sub r t = true
theorem IsCl.uniq {l : List (Nat × Nat)} {s r r' : Nat} (h : IsCl l s r) (h' : IsCl l s r') : r = r' := sub_anti (h.least _ h'.sup h'.ob) (h'.least _ h.sup h.ob)
def clo (n : Nat) (l : List (Nat × Nat)) (s : Nat) : Nat := ((List.range (2 ^ n)).filter fun t => sub s t && oba l t).foldl (fun x y => x &&& y) (2 ^ n - 1)
/-! What is wrong with rules. -/
def rlw (n : Int) (r : Int × Int) : Bool := decide (r.1 < 0 ∨ ((2 ^ n.toNat : Nat) : Int) ≤ r.1 ∨ r.2 < 0 ∨ ((2 ^ n.toNat : Nat) : Int) ≤ r.2)
def rlck (n : Int) (l : List (Int × Int)) : Int := if n < 0 ∨ 10 < n ∨ 60 < l.length then 2 else if l.any (rlw n) = true then 3 else 0
end Go.Proofs.YtpbnoocdkchooaaDoor
set_option linter.unusedSimpArgs false
set_option linter.unusedVariables false
set_option linter.unusedSectionVars false
namespace Go.Proofs.YtpbnoocdkchooaaDoor
open Go.ChangeShapes Go.WideShapes Go.RowKit Go.Deep
/-- One of them. -/
abbrev ruA (e : Int × Int) : AV := .agg [.val (.int .i64 e.1), .val (.int .i64 e.2)]
end Go.Proofs.YtpbnoocdkchooaaDoor
set_option linter.unusedSimpArgs false
set_option linter.unusedVariables false
set_option linter.unusedSectionVars false
set_option maxRecDepth 20000
namespace Go.Proofs.YtpbnoocdkchooaaDoor
attribute [local irreducible] QOp aL aC qL
def clzC (N : Int) (l : List (Int × Int)) (s : Int) : Int := if rlck N l ≠ 0 then rlck N l else if s < 0 ∨ ((2 ^ N.toNat : Nat) : Int) ≤ s then 3 else 0
def folC (N : Int) (l : List (Int × Int)) (r : Int × Int) : Int := if rlck N l ≠ 0 then rlck N l else if rlw N r = true then 3 else 0
/-! The reference. -/
end Go.Proofs.YtpbnoocdkchooaaDoor
set_option linter.unusedSimpArgs false
set_option linter.unusedVariables false
set_option linter.unusedSectionVars false
set_option maxRecDepth 20000
namespace Go.Proofs.YtpbnoocdkchooaaDoor
attribute [local irreducible] QOp aL aC qL
def iskU (n : Nat) (l : List (Nat × Nat)) (s m : Nat) : Bool := (List.range m).all fun i => !(s.testBit i && decide (clo n l (ndiff s (2 ^ i)) = 2 ^ n - 1))
def isk (n : Nat) (l : List (Nat × Nat)) (s : Nat) : Bool := decide (clo n l s = 2 ^ n - 1) && iskU n l s n
def keyT (n : Nat) (l : List (Nat × Nat)) (k : Nat) : List Nat := (List.range k).filter (isk n l)
end Go.Proofs.YtpbnoocdkchooaaDoor
set_option linter.unusedSimpArgs false
set_option linter.unusedVariables false
set_option linter.unusedSectionVars false
namespace Go.Proofs.YtpbnoocdkchooaaDoor
section
variable {P : Program} {st : St} {d : Option Tmp} {ty : TypeId} {pos : String} {af : Array Edge} {g : Option (Nat × Bool)} {T T' : TypeId} {x y : Operand} {m : Nat} {n : Int}
theorem Q_ushrC {k' : IntKind} (hx : st.ev x = .val (.int .u64 (m : Int))) (hy : st.ev y = .val (.int k' n)) (h0 : 0 ≤ n ∧ n < 64) :
    QOp P ⟨d, .binOp .shr T x y T', ty, pos, af, g⟩ st (.val (.int .u64 ((m / 2 ^ n.toNat : Nat) : Int))) := Q_bin hx hy fun w => by
  have h1 : ¬ n < 0 := by omega
  have h2 : min n.toNat IntKind.u64.bits = n.toNat := shl_eq _ (by omega)
  have h3 : (m : Int).fdiv (2 ^ n.toNat) = ((m / 2 ^ n.toNat : Nat) : Int) := by
    rw [Int.fdiv_eq_ediv_of_nonneg _ (Int.le_of_lt (Int.pow_pos (by decide)))]
    simp
  simp only [binOp, Op.shift, if_neg h1, h2, h3]
  rfl
theorem Q_uandC (hx : st.ev x = .val (.int .u64 (m : Int))) (hy : st.ev y = .val (.int .u64 n)) (h0 : 0 ≤ n ∧ n < 18446744073709551616) :
    QOp P ⟨d, .binOp .and T x y T', ty, pos, af, g⟩ st (.val (.int .u64 ((m % 18446744073709551616 &&& n.toNat : Nat) : Int))) := Q_bin hx hy fun w => by
  have hn : n.toNat < 2 ^ 64 := by omega
  have e : (BitVec.ofInt 64 (m : Int) &&& BitVec.ofInt 64 n).toNat = m % 18446744073709551616 &&& n.toNat := by
    rw [bv_nat (by omega), bv_nat h0.1, BitVec.toNat_and, BitVec.toNat_ofNat, BitVec.toNat_ofNat, Nat.mod_eq_of_lt hn, Int.toNat_natCast]
  have hlt : m % 18446744073709551616 &&& n.toNat < 2 ^ 64 := Nat.and_lt_two_pow _ hn
  have hw : IntKind.u64.wrap ((m % 18446744073709551616 &&& n.toNat : Nat) : Int) = ((m % 18446744073709551616 &&& n.toNat : Nat) : Int) := IntWalk.u64_in _ (by omega)
  show Result.ok (Value.int .u64 (IntKind.u64.wrap ((BitVec.ofInt 64 (m : Int) &&& BitVec.ofInt 64 n).toNat : Int))) w = _
  rw [e, hw]
end
end Go.Proofs.YtpbnoocdkchooaaDoor
set_option linter.unusedSimpArgs false
set_option linter.unusedVariables false
set_option linter.unusedSectionVars false
namespace Go.Proofs.YtpbnoocdkchooaaDoor
section
variable {P : Program} {st : St} {d : Option Tmp} {ty : TypeId} {pos : String} {af : Array Edge} {g : Option (Nat × Bool)} {T T' e : TypeId} {x y ix : Operand} {m n : Nat}
theorem Q_tabix {b N i : Nat} {k : IntKind} (hx : st.ev x = .val (.pointer (some ⟨b, 0, none⟩))) (hi : st.ev ix = .val (.int k (i : Int))) (ht : ArT P T N e 1) (h : i < N) :
    QOp P ⟨d, .indexAddr T x ix, ty, pos, af, g⟩ st (.val (.pointer (some ⟨b, i, none⟩))) :=
  .run fun ρ w a hr => ⟨_, .val _, fun w1 _ => by
    have h1 : (i : Int) < (N : Int) := by omega
    have h2 : (0 : Int) ≤ (i : Int) := by omega
    simp [execOp, hr.evv hx, hr.evv hi, Instr.indexAt, Instr.sureAddr, asIntOf, run_underlying ht.1, ht.2.run, h1, spot_add]
    intro hh; omega⟩
theorem Q_tabld {b i : Nat} {cs : List Value} {v : Value} (hx : st.ev x = .val (.pointer (some ⟨b, i, none⟩))) (hm : (b, cs) ∈ Tab) (hc : cs[i]? = some v) (ht : ScT P T) :
    QOp P ⟨d, .load T x, ty, pos, af, g⟩ st (.val v) :=
  .run fun ρ w a hr => ⟨v, .val v, fun w1 hw => by
    have h0 := hr.good.tt.tb _ hm i v hc
    have : w1.cell? ⟨b, i, none⟩ = some v := by rw [hw.cell (p := ⟨b, i, none⟩) (World.block_lt_of_cell? w _ h0)]; exact h0
    simp [execOp, hr.evv hx, Instr.loadAt, Instr.sureAddr, run_loadSc ht _ this]⟩
theorem Q_uand (hx : st.ev x = .val (.int .u64 (m : Int))) (hy : st.ev y = .val (.int .u64 (n : Int))) (h1 : m < 18446744073709551616) (h2 : n < 18446744073709551616) :
    QOp P ⟨d, .binOp .and T x y T', ty, pos, af, g⟩ st (.val (.int .u64 ((m &&& n : Nat) : Int))) := by
  have := Q_uandC (P := P) (d := d) (ty := ty) (pos := pos) (af := af) (g := g) (T := T) (T' := T') hx hy ⟨by omega, by omega⟩
  rwa [Nat.mod_eq_of_lt h1, Int.toNat_natCast] at this
theorem Q_uneg (hx : st.ev x = .val (.int .u64 (m : Int))) : QOp P ⟨d, .unOp .neg T x, ty, pos, af, g⟩ st (.val (.int .u64 (((18446744073709551616 - m % 18446744073709551616) % 18446744073709551616 : Nat) : Int))) :=
  .run fun _ _ a hr => ⟨_, .val _, fun w1 _ => by
    have : IntKind.u64.wrap (0 - (m : Int)) = (((18446744073709551616 - m % 18446744073709551616) % 18446744073709551616 : Nat) : Int) := by rw [IntKind.wrap_u64]; omega
    simp only [execOp, hr.evv hx, Op.unary, Op.intArith, this]; rfl⟩
theorem Q_umul (hx : st.ev x = .val (.int .u64 (m : Int))) (hy : st.ev y = .val (.int .u64 (n : Int))) :
    QOp P ⟨d, .binOp .mul T x y T', ty, pos, af, g⟩ st (.val (.int .u64 ((m * n % 18446744073709551616 : Nat) : Int))) := Q_bin hx hy fun w => by
  show Result.ok (Value.int .u64 (IntKind.u64.wrap ((m : Int) * (n : Int)))) w = _
  rw [show IntKind.u64.wrap ((m : Int) * (n : Int)) = ((m * n % 18446744073709551616 : Nat) : Int) by rw [IntKind.wrap_u64, ← Int.natCast_mul]; omega]
theorem Q_usub (hx : st.ev x = .val (.int .u64 (m : Int))) (hy : st.ev y = .val (.int .u64 (n : Int))) (h : n ≤ m) (h2 : m < 18446744073709551616) :
    QOp P ⟨d, .binOp .sub T x y T', ty, pos, af, g⟩ st (.val (.int .u64 ((m - n : Nat) : Int))) := Q_bin hx hy fun w => by
  show Result.ok (Value.int .u64 (IntKind.u64.wrap ((m : Int) - (n : Int)))) w = _
  rw [show IntKind.u64.wrap ((m : Int) - (n : Int)) = ((m - n : Nat) : Int) by rw [IntKind.wrap_u64]; omega]
theorem Q_ueql {m n : Int} (hx : st.ev x = .val (.int .u64 m)) (hy : st.ev y = .val (.int .u64 n)) : QOp P ⟨d, .binOp .eql T x y T', ty, pos, af, g⟩ st (.val (.bool (decide (m = n)))) := Q_bin hx hy fun _ => by rw [← beq_dec]; rfl
theorem Q_ugtr {m n : Int} (hx : st.ev x = .val (.int .u64 m)) (hy : st.ev y = .val (.int .u64 n)) : QOp P ⟨d, .binOp .gtr T x y T', ty, pos, af, g⟩ st (.val (.bool (decide (n < m)))) := Q_bin hx hy fun _ => rfl
end
end Go.Proofs.YtpbnoocdkchooaaDoor
set_option linter.unusedSimpArgs false
set_option linter.unusedVariables false
set_option linter.unusedSectionVars false
set_option maxRecDepth 20000
namespace Go.Proofs.YtpbnoocdkchooaaDoor
attribute [local irreducible] QOp aL aC qL
/-- How many of the first k points a set has. -/
def pcTo (x : Nat) : Nat → Nat
  | 0 => 0
  | k + 1 => pcTo x k + x / 2 ^ k % 2
def oc1 (x : Nat) : Nat := ((x / 2 ^ (1 : Int).toNat % 18446744073709551616 &&& (6148914691236517205 : Int).toNat) + (x % 18446744073709551616 &&& (6148914691236517205 : Int).toNat)) % 18446744073709551616
def oc2 (x : Nat) : Nat := ((x / 2 ^ (2 : Int).toNat % 18446744073709551616 &&& (3689348814741910323 : Int).toNat) + (x % 18446744073709551616 &&& (3689348814741910323 : Int).toNat)) % 18446744073709551616
def oc3 (x : Nat) : Nat := (x / 2 ^ (4 : Int).toNat + x) % 18446744073709551616 % 18446744073709551616 &&& (1085102592571150095 : Int).toNat
def oc4 (x : Nat) : Nat := (x + x / 2 ^ (8 : Int).toNat) % 18446744073709551616
def oc5 (x : Nat) : Nat := (x + x / 2 ^ (16 : Int).toNat) % 18446744073709551616
def oc6 (x : Nat) : Nat := (x + x / 2 ^ (32 : Int).toNat) % 18446744073709551616
def ocn (x : Nat) : Nat := oc6 (oc5 (oc4 (oc3 (oc2 (oc1 x)))))
end Go.Proofs.YtpbnoocdkchooaaDoor
set_option linter.unusedSimpArgs false
set_option linter.unusedVariables false
set_option linter.unusedSectionVars false
set_option maxRecDepth 20000
namespace Go.Proofs.YtpbnoocdkchooaaDoor
attribute [local irreducible] QOp aL aC qL
def cmpN (a b : Int) : Int := if a < b then -1 else if b < a then 1 else 0
attribute [local irreducible] FOp POp hL xH
end Go.Proofs.YtpbnoocdkchooaaDoor
set_option linter.unusedSimpArgs false
set_option linter.unusedVariables false
set_option linter.unusedSectionVars false
set_option maxRecDepth 20000
namespace Go.Proofs.YtpbnoocdkchooaaDoor
attribute [local irreducible] QOp aL aC qL
attribute [local irreducible] FOp POp hL xH
/-- What compares two numbers by their keys. -/
def CmpK (g : FuncId) (kf : Nat → Nat) : Prop := ∀ x y : Nat, x < 1024 → y < 1024 → AC Tryd.prog g [.val (.int .i64 (x : Nat)), .val (.int .i64 (y : Nat))] [] (.val (.int .i64 (cmpN (kf x : Nat) (kf y : Nat)))) []
def All10 (L : List Nat) : Prop := ∀ x ∈ L, x < 1024
theorem All10.get {L : List Nat} (h : All10 L) (i : Nat) : L.getD i 0 < 1024 := by
  rw [List.getD_eq_getElem?_getD]
  cases hq : L[i]? with
  | none => decide
  | some x => exact h x (List.mem_of_getElem? hq)
theorem All10.sm {a b : Nat} {L L' : List Nat} (h : All10 L) (g : Sm a b L L') : All10 L' := fun x hx => h x (g.pm.mem_iff.1 hx)
end Go.Proofs.YtpbnoocdkchooaaDoor
set_option linter.unusedSimpArgs false
set_option linter.unusedVariables false
set_option linter.unusedSectionVars false
set_option maxRecDepth 20000
namespace Go.Proofs.YtpbnoocdkchooaaDoor
attribute [local irreducible] QOp aL aC qL
def obT (l : List (Nat × Nat)) (s k : Nat) : List Nat := (List.range k).filter fun t => sub s t && oba l t
def alT (L : List Nat) (i m : Nat) : Bool := (L.take m).all fun t => t.testBit i
end Go.Proofs.YtpbnoocdkchooaaDoor
set_option linter.unusedSimpArgs false
set_option linter.unusedVariables false
set_option linter.unusedSectionVars false
set_option maxRecDepth 20000
namespace Go.Proofs.YtpbnoocdkchooaaDoor
attribute [local irreducible] QOp aL aC qL
/-- A list of weights of the sets of n points. -/
def Wts (n : Nat) (f : List Int) : Prop := f.length = 2 ^ n ∧ ∀ w ∈ f, 0 ≤ w ∧ w ≤ 1000
theorem Wts.get {n : Nat} {f : List Int} (h : Wts n f) (s : Nat) : 0 ≤ f.getD s 0 ∧ f.getD s 0 ≤ 1000 := by
  rw [List.getD_eq_getElem?_getD]
  cases hk : f[s]? with
  | none => simp
  | some x => exact h.2 x (List.mem_of_getElem? hk)
def four (n : Nat) (a b c d : List Int) : Bool := (List.range (2 ^ n)).all fun s => (List.range (2 ^ n)).all fun t => !decide (a.getD s 0 * b.getD t 0 > c.getD (s ||| t) 0 * d.getD (s &&& t) 0)
end Go.Proofs.YtpbnoocdkchooaaDoor
set_option linter.unusedSimpArgs false
set_option linter.unusedVariables false
set_option linter.unusedSectionVars false
set_option maxRecDepth 20000
namespace Go.Proofs.YtpbnoocdkchooaaDoor
attribute [local irreducible] QOp aL aC qL
def cloT (n : Nat) (l : List (Nat × Nat)) (k : Nat) : List Nat := (List.range k).map (clo n l)
end Go.Proofs.YtpbnoocdkchooaaDoor
set_option linter.unusedSimpArgs false
set_option linter.unusedVariables false
set_option linter.unusedSectionVars false
set_option maxRecDepth 20000
namespace Go.Proofs.YtpbnoocdkchooaaDoor
attribute [local irreducible] QOp aL aC qL
/-- A set that is not closed, but is as far as the rules of smaller ones go. -/
def skO (cl : Nat → Nat) (T : List Nat) (s : Nat) : Bool := decide (cl s ≠ s) && T.all fun t => !sub t s || sub (cl t) s
def skT (cl : Nat → Nat) : Nat → List Nat
  | 0 => []
  | k + 1 => if skO cl (skT cl k) k = true then skT cl k ++ [k] else skT cl k
def skw (cl : Nat → Nat) (s : Nat) : Bool := skO cl (skT cl s) s
/-! Fewer marks. -/
/-- What the library has found so far. -/
def bsO (cl : Nat → Nat) (P : List Nat) (k : Nat) : List Nat := (P.take k).filter (skw cl)
end Go.Proofs.YtpbnoocdkchooaaDoor
