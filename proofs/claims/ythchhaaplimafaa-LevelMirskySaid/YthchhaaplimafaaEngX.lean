/- A body with labels; structs laid out of three parts and more; pairs of numbers compared. -/
import Derived.Test.YthchhaaplimafaaEngW
import Derived.ChangeKeysEq
import Derived.Scope
set_option linter.unusedSimpArgs false
set_option linter.unusedVariables false
namespace Go.Proofs.Ythchhaaplimafaa
open Go.RowKit
/-- In a scope that nobody leaves by a jump. -/
def scopeA (Q : Exit → St → Prop) : Exit → St → Prop
  | .goto _, _ => False
  | e, st => Q e st
theorem a_scope [Zs] {P : Program} {k : Nat} {cx : Cx k} {c : Code} {Q : Exit → St → Prop} {st : St} (h : aC P cx c (scopeA Q) st) : aC P cx (.scope c) Q st := by
  intro a w hr
  refine wp_scope_straight (wp_mono (h a w hr) ?_)
  rintro e a' w' ⟨st', hq, hr'⟩
  cases e <;> first | exact hq.elim | exact ⟨st', hq, hr'⟩
section
variable {P : Program} {st : St} {d : Option Tmp} {ty : TypeId} {pos : String} {af : Array Edge} {g : Option (Nat × Bool)}
theorem Q_build3 {T : TypeId} {zs : List Value} {place : Nat → Option (Nat × Nat)} {i off j off' m off2 : Nat} {x y z : Operand} {av av' av2 : AV} {l l' l2 c c2 out : List AV} (hb : BdT P T zs place) (hx0 : st.ev x = av) (hx : av.cells = l) (hp : place i = some (off, l.length)) (h1 : l.all AV.one = true)
    (hl : Nat.ble (off + l.length) (zs.map AV.val).length = true) (hc : (zs.map AV.val).take off ++ l ++ (zs.map AV.val).drop (off + l.length) = c)
    (hx0' : st.ev y = av') (hx' : av'.cells = l') (hp' : place j = some (off', l'.length)) (h1' : l'.all AV.one = true) (hl' : Nat.ble (off' + l'.length) c.length = true) (hc2 : c.take off' ++ l' ++ c.drop (off' + l'.length) = c2)
    (hx02 : st.ev z = av2) (hx2 : av2.cells = l2) (hp2 : place m = some (off2, l2.length)) (h12 : l2.all AV.one = true) (hl2 : Nat.ble (off2 + l2.length) c2.length = true) (ho : c2.take off2 ++ l2 ++ c2.drop (off2 + l2.length) = out) :
    QOp P ⟨d, .build T #[(i, x), (j, y), (m, z)], ty, pos, af, g⟩ st (.agg out) := by
  subst hc; subst hc2
  exact Q_build (ps := [(i, x), (j, y), (m, z)]) hb rfl ⟨off, l, hp, hx0 ▸ hx, h1, hl, off', l', hp', hx0' ▸ hx', h1', hl', off2, l2, hp2, hx02 ▸ hx2, h12, hl2, ho.symm⟩
end
/-- Pairs of numbers: what is asked of their type. -/
class KEqP (P : Program) (T : TypeId) : Prop where h : ∃ e, ArT P T 2 e 1 ∧ P.underlying e = some (.int .i64) ∧ P.eqGuardType P.depth T = false
theorem run_equal_int (P : Program) (w : World) (d : Nat) (e : TypeId) (he : P.underlying e = some (.int .i64)) (a b : Int) : (Op.equalIn (d + 1) e (.int .i64 a) (.int .i64 b)).run P w = .ok (decide (a = b)) w := by
  simp only [Op.equalIn, Sem.run_bind, run_underlying he, Result.andThen_ok]
  rw [← beq_dec]
  rfl
theorem run_part_sc {P : Program} {w : World} {e : TypeId} (he : P.underlying e = some (.int .i64)) {xs : Array Value} {i : Nat} {v : Value} (h : xs[i]? = some v) : (part e xs i).run P w = .ok v w := by
  have hs : ScT P e := ⟨_, he, rfl⟩
  simp only [part, Sem.run_bind, hs.run, Result.andThen_ok, Bool.false_eq_true, if_false, h, Sem.run_pure]
theorem run_equal_pair (P : Program) (w : World) (T : TypeId) (hT : KEqP P T) (a b a' b' : Int) :
    (Op.equal T (.agg #[.int .i64 a, .int .i64 b]) (.agg #[.int .i64 a', .int .i64 b'])).run P w = .ok (decide (a = a' ∧ b = b')) w := by
  obtain ⟨e, ⟨h1, h2⟩, h3, _⟩ := hT.h
  obtain ⟨i, hi, hi2⟩ : ∃ i, P.info? e = some i ∧ i.size = 1 := by
    unfold SzOf at h2
    cases hq : P.info? e with
    | none => rw [hq] at h2; cases h2
    | some i => rw [hq] at h2; exact ⟨i, rfl, by simpa using h2⟩
  have hc : P.cellsOf e = 1 := by simp [Program.cellsOf, hi, hi2]
  show (Op.equalIn (9999 + 1) T _ _).run P w = _
  rw [run_equalIn_array _ _ _ _ h1 hi, hc]
  have e0 : ∀ (x y : Int), (#[Value.int .i64 x, .int .i64 y] : Array Value)[0]? = some (.int .i64 x) := fun _ _ => rfl
  have e1 : ∀ (x y : Int), (#[Value.int .i64 x, .int .i64 y] : Array Value)[1]? = some (.int .i64 y) := fun _ _ => rfl
  have p0 : ∀ (x y : Int) (w : World), (part e #[.int .i64 x, .int .i64 y] 0).run P w = .ok (.int .i64 x) w := fun x y w => run_part_sc h3 (e0 x y)
  have p1 : ∀ (x y : Int) (w : World), (part e #[.int .i64 x, .int .i64 y] 1).run P w = .ok (.int .i64 y) w := fun x y w => run_part_sc h3 (e1 x y)
  have q : ∀ (x y : Int) (w : World), (Op.equalIn 9999 e (.int .i64 x) (.int .i64 y)).run P w = .ok (decide (x = y)) w := fun x y w => run_equal_int P w 9998 e h3 x y
  simp only [show List.range 2 = [0, 1] from rfl, Op.eqItems, Sem.run_bind, Nat.zero_mul, Nat.one_mul, p0, q, Result.andThen_ok]
  by_cases ha : a = a'
  · subst ha
    by_cases hb : b = b'
    · subst hb
      simp only [decide_true, Bool.not_true, Bool.false_eq_true, if_false, Sem.run_bind, p1, q, Result.andThen_ok, Sem.run_pure, and_self]
    · simp only [decide_true, Bool.not_true, Bool.false_eq_true, if_false, Sem.run_bind, p1, q, Result.andThen_ok, Sem.run_pure, hb, decide_false, Bool.not_false, if_true, and_false]
  · simp only [ha, decide_false, Bool.not_false, if_true, Sem.run_pure, false_and]
theorem run_eqGuard_agg {P : Program} {w : World} (op : BinOp) (T : TypeId) (x y : Operand) (u v : Array Value) (hT : P.eqGuardType P.depth T = false) : (eqGuard op T x y (.agg u) (.agg v)).run P w = .ok () w := by
  cases op <;> simp [eqGuard, hT]
section
variable {P : Program} {st : St} {d : Option Tmp} {ty : TypeId} {pos : String} {af : Array Edge} {g : Option (Nat × Bool)} {T T' : TypeId} {x y : Operand}
theorem pair_val {ρ : Ids} {w : World} {M : Nat → Prop} {a b : Int} {v : Value} (h : Gm ρ w M (.agg [.val (.int .i64 a), .val (.int .i64 b)]) v) : v = .agg #[.int .i64 a, .int .i64 b] := by
  obtain ⟨vs, rfl, h1, h2⟩ := h.agg_inv
  have hs : vs.size = 2 := by simpa using h1.symm
  have h0 := h2 0 _ (vs[0]'(by omega)) rfl (Array.getElem?_eq_getElem _)
  have h3 := h2 1 _ (vs[1]'(by omega)) rfl (Array.getElem?_eq_getElem _)
  congr 1
  apply Array.ext
  · exact hs
  · intro i hi hj
    simp at hj
    rcases (show i = 0 ∨ i = 1 by omega) with rfl | rfl
    · exact h0.val_inv
    · exact h3.val_inv
theorem Q_eqlP {a b a' b' : Int} (hx : st.ev x = .agg [.val (.int .i64 a), .val (.int .i64 b)]) (hy : st.ev y = .agg [.val (.int .i64 a'), .val (.int .i64 b')]) (hT : KEqP P T) :
    QOp P ⟨d, .binOp .eql T x y T', ty, pos, af, g⟩ st (.val (.bool (decide (a = a' ∧ b = b')))) := by
  refine .run fun ρ w a hr => ⟨_, .val _, fun w1 _ => ?_⟩
  have gx := hr.ev x
  have gy := hr.ev y
  rw [hx] at gx
  rw [hy] at gy
  obtain ⟨e, _, _, hg⟩ := hT.h
  simp only [execOp, pair_val gx, pair_val gy, Sem.run_bind, run_eqGuard_agg _ _ _ _ _ _ hg, Result.andThen_ok, binOp, run_equal_pair P w1 T hT, Sem.run_pure]
theorem Q_neqP {a b a' b' : Int} (hx : st.ev x = .agg [.val (.int .i64 a), .val (.int .i64 b)]) (hy : st.ev y = .agg [.val (.int .i64 a'), .val (.int .i64 b')]) (hT : KEqP P T) :
    QOp P ⟨d, .binOp .neq T x y T', ty, pos, af, g⟩ st (.val (.bool (decide (¬ (a = a' ∧ b = b'))))) := by
  refine .run fun ρ w a hr => ⟨_, .val _, fun w1 _ => ?_⟩
  have gx := hr.ev x
  have gy := hr.ev y
  rw [hx] at gx
  rw [hy] at gy
  obtain ⟨e, _, _, hg⟩ := hT.h
  simp only [execOp, pair_val gx, pair_val gy, Sem.run_bind, run_eqGuard_agg _ _ _ _ _ _ hg, Result.andThen_ok, binOp, run_equal_pair P w1 T hT, Sem.run_pure, decide_not]
end
end Go.Proofs.Ythchhaaplimafaa
