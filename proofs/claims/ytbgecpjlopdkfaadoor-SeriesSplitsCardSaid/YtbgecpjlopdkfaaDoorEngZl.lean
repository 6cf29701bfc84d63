import Derived.Test.YtbgecpjlopdkfaaDoorEngZd
import Derived.Test.YtbgecpjlopdkfaaDoorEngZc
import Derived.Laws.Slices
set_option linter.unusedSimpArgs false
set_option linter.unusedVariables false
set_option linter.unusedSectionVars false
namespace Go.Proofs.YtbgecpjlopdkfaaDoor
open Go.RowKit
/-- A region that draws its order, nothing set aside. -/
theorem a_holdX [Zs] {P : Program} {k : Nat} {cx : Cx k} {K : St → Prop} {st : St} {id : Nat} {l : List Oper} {n : Nat} {Q : Exit → St → Prop} (hm : P.follows .mixedOrders = true) (hn : l.length = n) (h : xH P cx l.toArray K (fun _ => True) n (List.replicate n false) st) : aC P cx (.region id l.toArray true) (thenA K Q) st := by
  subst hn
  refine a_mono (Q := ThenK K) ?_ fun e st h => by cases e <;> first | exact h | exact h.elim
  intro a w hr
  have hr2 := hr.mono (w' := { w with drawn := w.drawn + 1 }) ⟨rfl, rfl, rfl, Nat.le_refl _, fun _ _ => rfl⟩
  refine wp_region_held (S := fun _ => True) hm ?_
  have := h (fun _ _ => trivial) _ _ hr2
  simpa using this
end Go.Proofs.YtbgecpjlopdkfaaDoor
set_option linter.unusedSimpArgs false
set_option linter.unusedVariables false
set_option linter.unusedSectionVars false
namespace Go.Proofs.YtbgecpjlopdkfaaDoor
section
variable {P : Program} {st : St} {d : Option Tmp} {ty : TypeId} {pos : String} {af : Array Edge} {g : Option (Nat × Bool)} {T T' e : TypeId} {x y ix : Operand} {m n : Nat}
theorem Q_tabix {b N i : Nat} {k : IntKind} (hx : st.ev x = .val (.pointer (some ⟨b, 0, none⟩))) (hi : st.ev ix = .val (.int k (i : Int))) (ht : ArT P T N e 1) (h : i < N) :
    QOp P ⟨d, .indexAddr T x ix, ty, pos, af, g⟩ st (.val (.pointer (some ⟨b, i, none⟩))) :=
  .run fun ρ w a hr => ⟨_, .val _, fun w1 _ => by
    have h1 : (i : Int) < (N : Int) := by omega
    have h2 : (0 : Int) ≤ (i : Int) := by omega
    simp [execOp, hr.evv hx, hr.evv hi, Instr.indexAt, Instr.sureAddr, asIntOf, run_underlying ht.1, ht.2.run, h1, spot_add]
    intro hh; omega⟩
theorem Q_tabld {b i : Nat} {cs : List Value} {v : Value} (hx : st.ev x = .val (.pointer (some ⟨b, i, none⟩))) (hm : (b, cs) ∈ Tab) (hc : cs[i]? = some v) (ht : ScT P T) :
    QOp P ⟨d, .load T x, ty, pos, af, g⟩ st (.val v) :=
  .run fun ρ w a hr => ⟨v, .val v, fun w1 hw => by
    have h0 := hr.good.tt.tb _ hm i v hc
    have : w1.cell? ⟨b, i, none⟩ = some v := by rw [hw.cell (p := ⟨b, i, none⟩) (World.block_lt_of_cell? w _ h0)]; exact h0
    simp [execOp, hr.evv hx, Instr.loadAt, Instr.sureAddr, run_loadSc ht _ this]⟩
theorem Q_uand (hx : st.ev x = .val (.int .u64 (m : Int))) (hy : st.ev y = .val (.int .u64 (n : Int))) (h1 : m < 18446744073709551616) (h2 : n < 18446744073709551616) :
    QOp P ⟨d, .binOp .and T x y T', ty, pos, af, g⟩ st (.val (.int .u64 ((m &&& n : Nat) : Int))) := by
  have := Q_uandC (P := P) (d := d) (ty := ty) (pos := pos) (af := af) (g := g) (T := T) (T' := T') hx hy ⟨by omega, by omega⟩
  rwa [Nat.mod_eq_of_lt h1, Int.toNat_natCast] at this
theorem Q_uneg (hx : st.ev x = .val (.int .u64 (m : Int))) : QOp P ⟨d, .unOp .neg T x, ty, pos, af, g⟩ st (.val (.int .u64 (((18446744073709551616 - m % 18446744073709551616) % 18446744073709551616 : Nat) : Int))) :=
  .run fun _ _ a hr => ⟨_, .val _, fun w1 _ => by
    have : IntKind.u64.wrap (0 - (m : Int)) = (((18446744073709551616 - m % 18446744073709551616) % 18446744073709551616 : Nat) : Int) := by rw [IntKind.wrap_u64]; omega
    simp only [execOp, hr.evv hx, Op.unary, Op.intArith, this]; rfl⟩
theorem Q_umul (hx : st.ev x = .val (.int .u64 (m : Int))) (hy : st.ev y = .val (.int .u64 (n : Int))) :
    QOp P ⟨d, .binOp .mul T x y T', ty, pos, af, g⟩ st (.val (.int .u64 ((m * n % 18446744073709551616 : Nat) : Int))) := Q_bin hx hy fun w => by
  show Result.ok (Value.int .u64 (IntKind.u64.wrap ((m : Int) * (n : Int)))) w = _
  rw [show IntKind.u64.wrap ((m : Int) * (n : Int)) = ((m * n % 18446744073709551616 : Nat) : Int) by rw [IntKind.wrap_u64, ← Int.natCast_mul]; omega]
theorem Q_usub (hx : st.ev x = .val (.int .u64 (m : Int))) (hy : st.ev y = .val (.int .u64 (n : Int))) (h : n ≤ m) (h2 : m < 18446744073709551616) :
    QOp P ⟨d, .binOp .sub T x y T', ty, pos, af, g⟩ st (.val (.int .u64 ((m - n : Nat) : Int))) := Q_bin hx hy fun w => by
  show Result.ok (Value.int .u64 (IntKind.u64.wrap ((m : Int) - (n : Int)))) w = _
  rw [show IntKind.u64.wrap ((m : Int) - (n : Int)) = ((m - n : Nat) : Int) by rw [IntKind.wrap_u64]; omega]
theorem Q_ueql {m n : Int} (hx : st.ev x = .val (.int .u64 m)) (hy : st.ev y = .val (.int .u64 n)) : QOp P ⟨d, .binOp .eql T x y T', ty, pos, af, g⟩ st (.val (.bool (decide (m = n)))) := Q_bin hx hy fun _ => by rw [← beq_dec]; rfl
theorem Q_ugtr {m n : Int} (hx : st.ev x = .val (.int .u64 m)) (hy : st.ev y = .val (.int .u64 n)) : QOp P ⟨d, .binOp .gtr T x y T', ty, pos, af, g⟩ st (.val (.bool (decide (n < m)))) := Q_bin hx hy fun _ => rfl
end
end Go.Proofs.YtbgecpjlopdkfaaDoor
