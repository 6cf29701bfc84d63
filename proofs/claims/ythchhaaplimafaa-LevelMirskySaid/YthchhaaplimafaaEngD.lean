/- The quiet operations, one law each. -/
import Derived.Test.YthchhaaplimafaaEngC
set_option linter.unusedSimpArgs false
set_option linter.unusedVariables false
namespace Go.Proofs.Ythchhaaplimafaa
open Go.RowKit
section
variable {P : Program} {st : St} {d : Option Tmp} {ty : TypeId} {pos : String} {af : Array Edge} {g : Option (Nat × Bool)}

theorem QOp.run {o : Oper} {av : AV} (h : ∀ [Zs] (ρ : Ids) (w : World) (a : Act), RelB ρ w st a → ∃ v, Gm ρ w (Ban ρ st.objs) av v ∧ ∀ w1, Below w.heap.size w w1 → (execOp a.eval o).run P w1 = .ok (.value v) w1) :
    QOp P o st av := by
  intro _ ρ w a hb
  obtain ⟨v, h1, h2⟩ := h ρ w a hb
  refine ⟨v, h1, fun w1 hw => ?_⟩
  unfold Oper.quietAt
  rw [h2 w1 hw]
  exact ⟨rfl, rfl⟩

theorem Q_move {x : Operand} {av : AV} (hx : st.ev x = av) : QOp P ⟨d, .move x, ty, pos, af, g⟩ st av :=
  .run fun _ _ a hb => ⟨a.eval x, hx ▸ hb.ev x, fun _ _ => rfl⟩
theorem Q_assign {x : Operand} {av : AV} (hx : st.ev x = av) : QOp P ⟨d, .assign x, ty, pos, af, g⟩ st av :=
  .run fun _ _ a hb => ⟨a.eval x, hx ▸ hb.ev x, fun _ _ => rfl⟩

theorem Q_pick_t {c x y : Operand} {b : Bool} {av : AV} (hc : st.ev c = .val (.bool b)) (hb : b = true) (hx : st.ev x = av) : QOp P ⟨d, .pick c x y, ty, pos, af, g⟩ st av :=
  .run fun _ _ a hr => ⟨a.eval x, hx ▸ hr.ev x, fun w1 _ => by
    have := hr.evv hc
    subst hb
    simp [execOp, this, asBool]⟩
theorem Q_pick_f {c x y : Operand} {b : Bool} {av : AV} (hc : st.ev c = .val (.bool b)) (hb : b = false) (hx : st.ev y = av) : QOp P ⟨d, .pick c x y, ty, pos, af, g⟩ st av :=
  .run fun _ _ a hr => ⟨a.eval y, hx ▸ hr.ev y, fun w1 _ => by
    have := hr.evv hc
    subst hb
    simp [execOp, this, asBool]⟩

theorem run_eqGuard_int (op : BinOp) (T : TypeId) (x y : Operand) (k k' : IntKind) (m n : Int) (w : World) : (eqGuard op T x y (.int k m) (.int k' n)).run P w = .ok () w := by
  cases op <;> rfl

theorem Q_bin {op : BinOp} {T T' : TypeId} {x y : Operand} {k k' : IntKind} {m n : Int} {v : Value} (hx : st.ev x = .val (.int k m)) (hy : st.ev y = .val (.int k' n))
    (h : ∀ w, (binOp op T (.int k m) (.int k' n)).run P w = .ok v w) : QOp P ⟨d, .binOp op T x y T', ty, pos, af, g⟩ st (.val v) :=
  .run fun _ _ a hr => ⟨v, .val v, fun w1 _ => by
    simp only [execOp, hr.evv hx, hr.evv hy, Sem.run_bind, run_eqGuard_int, Result.andThen_ok, h, Sem.run_pure]⟩

section
variable {T T' : TypeId} {x y : Operand} {m n : Int}
theorem Q_lss (hx : st.ev x = .val (.int .i64 m)) (hy : st.ev y = .val (.int .i64 n)) : QOp P ⟨d, .binOp .lss T x y T', ty, pos, af, g⟩ st (.val (.bool (decide (m < n)))) := Q_bin hx hy fun _ => rfl
theorem Q_leq (hx : st.ev x = .val (.int .i64 m)) (hy : st.ev y = .val (.int .i64 n)) : QOp P ⟨d, .binOp .leq T x y T', ty, pos, af, g⟩ st (.val (.bool (decide (m ≤ n)))) := Q_bin hx hy fun _ => rfl
theorem Q_gtr (hx : st.ev x = .val (.int .i64 m)) (hy : st.ev y = .val (.int .i64 n)) : QOp P ⟨d, .binOp .gtr T x y T', ty, pos, af, g⟩ st (.val (.bool (decide (n < m)))) := Q_bin hx hy fun _ => rfl
theorem Q_geq (hx : st.ev x = .val (.int .i64 m)) (hy : st.ev y = .val (.int .i64 n)) : QOp P ⟨d, .binOp .geq T x y T', ty, pos, af, g⟩ st (.val (.bool (decide (n ≤ m)))) := Q_bin hx hy fun _ => rfl
theorem beq_dec (m n : Int) : (m == n) = decide (m = n) := by by_cases h : m = n <;> simp [h]
theorem bne_dec (m n : Int) : (m != n) = decide (m ≠ n) := by by_cases h : m = n <;> simp [h]
theorem Q_eql (hx : st.ev x = .val (.int .i64 m)) (hy : st.ev y = .val (.int .i64 n)) : QOp P ⟨d, .binOp .eql T x y T', ty, pos, af, g⟩ st (.val (.bool (decide (m = n)))) := Q_bin hx hy fun _ => by rw [← beq_dec]; rfl
theorem Q_neq (hx : st.ev x = .val (.int .i64 m)) (hy : st.ev y = .val (.int .i64 n)) : QOp P ⟨d, .binOp .neq T x y T', ty, pos, af, g⟩ st (.val (.bool (decide (m ≠ n)))) := Q_bin hx hy fun _ => by rw [← bne_dec]; rfl

theorem Q_add (hx : st.ev x = .val (.int .i64 m)) (hy : st.ev y = .val (.int .i64 n)) (h : -9223372036854775808 ≤ m + n ∧ m + n ≤ 9223372036854775807) :
    QOp P ⟨d, .binOp .add T x y T', ty, pos, af, g⟩ st (.val (.int .i64 (m + n))) := Q_bin hx hy fun _ => by
  show Result.ok (Value.int .i64 (IntKind.i64.wrap (m + n))) _ = _
  rw [IntWalk.i64_in _ h]
theorem Q_sub (hx : st.ev x = .val (.int .i64 m)) (hy : st.ev y = .val (.int .i64 n)) (h : -9223372036854775808 ≤ m - n ∧ m - n ≤ 9223372036854775807) :
    QOp P ⟨d, .binOp .sub T x y T', ty, pos, af, g⟩ st (.val (.int .i64 (m - n))) := Q_bin hx hy fun _ => by
  show Result.ok (Value.int .i64 (IntKind.i64.wrap (m - n))) _ = _
  rw [IntWalk.i64_in _ h]
theorem Q_mul (hx : st.ev x = .val (.int .i64 m)) (hy : st.ev y = .val (.int .i64 n)) (h : -9223372036854775808 ≤ m * n ∧ m * n ≤ 9223372036854775807) :
    QOp P ⟨d, .binOp .mul T x y T', ty, pos, af, g⟩ st (.val (.int .i64 (m * n))) := Q_bin hx hy fun _ => by
  show Result.ok (Value.int .i64 (IntKind.i64.wrap (m * n))) _ = _
  rw [IntWalk.i64_in _ h]
/-- Of two numbers from nought on. -/
theorem Q_quo (hx : st.ev x = .val (.int .i64 m)) (hy : st.ev y = .val (.int .i64 n)) (h : 0 ≤ m ∧ m ≤ 9223372036854775807 ∧ 1 ≤ n) :
    QOp P ⟨d, .binOp .quo T x y T', ty, pos, af, g⟩ st (.val (.int .i64 (m / n))) := Q_bin hx hy fun w => by
  have h0 : ¬ n = 0 := by omega
  have h1 := IntWalk.i64_quo m n h
  simp [binOp, Op.intDiv, h0, h1]
theorem Q_rem (hx : st.ev x = .val (.int .i64 m)) (hy : st.ev y = .val (.int .i64 n)) (h : 0 ≤ m ∧ 1 ≤ n) :
    QOp P ⟨d, .binOp .rem T x y T', ty, pos, af, g⟩ st (.val (.int .i64 (m % n))) := Q_bin hx hy fun w => by
  have h0 : ¬ n = 0 := by omega
  have h1 := Int.tmod_eq_emod_of_nonneg h.1 (b := n)
  simp [binOp, Op.intDiv, h0, h1]
/-- Of whatever numbers. -/
theorem Q_rem' (hx : st.ev x = .val (.int .i64 m)) (hy : st.ev y = .val (.int .i64 n)) (h : n ≠ 0) :
    QOp P ⟨d, .binOp .rem T x y T', ty, pos, af, g⟩ st (.val (.int .i64 (m.tmod n))) := Q_bin hx hy fun w => by
  simp [binOp, Op.intDiv, h]

theorem shl_eq (n : Nat) (hn : n < 64) : min n IntKind.i64.bits = n := by simp [IntKind.bits]; omega

theorem Q_shl (hx : st.ev x = .val (.int .i64 m)) (hy : st.ev y = .val (.int .i64 n)) (h0 : 0 ≤ n ∧ n < 64) (h : -9223372036854775808 ≤ m * 2 ^ n.toNat ∧ m * 2 ^ n.toNat ≤ 9223372036854775807) :
    QOp P ⟨d, .binOp .shl T x y T', ty, pos, af, g⟩ st (.val (.int .i64 (m * 2 ^ n.toNat))) := Q_bin hx hy fun w => by
  have h1 : ¬ n < 0 := by omega
  have h2 : min n.toNat IntKind.i64.bits = n.toNat := shl_eq _ (by omega)
  have h3 := IntWalk.i64_in _ h
  simp only [binOp, Op.shift, if_neg h1, h2, h3]
  rfl
theorem Q_shr (hx : st.ev x = .val (.int .i64 m)) (hy : st.ev y = .val (.int .i64 n)) (h0 : 0 ≤ n ∧ n < 64) :
    QOp P ⟨d, .binOp .shr T x y T', ty, pos, af, g⟩ st (.val (.int .i64 (m / 2 ^ n.toNat))) := Q_bin hx hy fun w => by
  have h1 : ¬ n < 0 := by omega
  have h2 : min n.toNat IntKind.i64.bits = n.toNat := shl_eq _ (by omega)
  have h3 : m.fdiv (2 ^ n.toNat) = m / 2 ^ n.toNat := Int.fdiv_eq_ediv_of_nonneg _ (Int.le_of_lt (Int.pow_pos (by decide)))
  simp only [binOp, Op.shift, if_neg h1, h2, h3]
  rfl

theorem bv_nat {m : Int} (h : 0 ≤ m) : BitVec.ofInt 64 m = BitVec.ofNat 64 m.toNat := by
  obtain ⟨k, rfl⟩ := Int.eq_ofNat_of_zero_le h
  simp

theorem toNat_lt63 {m : Int} (h : m ≤ 9223372036854775807) : m.toNat < 2 ^ 63 := by omega

theorem Q_and (hx : st.ev x = .val (.int .i64 m)) (hy : st.ev y = .val (.int .i64 n)) (h1 : 0 ≤ m ∧ m ≤ 9223372036854775807) (h2 : 0 ≤ n ∧ n ≤ 9223372036854775807) :
    QOp P ⟨d, .binOp .and T x y T', ty, pos, af, g⟩ st (.val (.int .i64 ((m.toNat &&& n.toNat : Nat) : Int))) := Q_bin hx hy fun w => by
  have hm := toNat_lt63 h1.2
  have hn := toNat_lt63 h2.2
  have hlt : m.toNat &&& n.toNat < 2 ^ 63 := Nat.and_lt_two_pow _ hn
  have e : (BitVec.ofInt 64 m &&& BitVec.ofInt 64 n).toNat = m.toNat &&& n.toNat := by
    rw [bv_nat h1.1, bv_nat h2.1, BitVec.toNat_and, BitVec.toNat_ofNat, BitVec.toNat_ofNat, Nat.mod_eq_of_lt (by omega), Nat.mod_eq_of_lt (by omega)]
  have hw : IntKind.i64.wrap ((m.toNat &&& n.toNat : Nat) : Int) = ((m.toNat &&& n.toNat : Nat) : Int) := IntWalk.i64_in _ (by omega)
  show Result.ok (Value.int .i64 (IntKind.i64.wrap ((BitVec.ofInt 64 m &&& BitVec.ofInt 64 n).toNat : Int))) w = _
  rw [e, hw]
theorem Q_or (hx : st.ev x = .val (.int .i64 m)) (hy : st.ev y = .val (.int .i64 n)) (h1 : 0 ≤ m ∧ m ≤ 9223372036854775807) (h2 : 0 ≤ n ∧ n ≤ 9223372036854775807) :
    QOp P ⟨d, .binOp .or T x y T', ty, pos, af, g⟩ st (.val (.int .i64 ((m.toNat ||| n.toNat : Nat) : Int))) := Q_bin hx hy fun w => by
  have hm := toNat_lt63 h1.2
  have hn := toNat_lt63 h2.2
  have hlt : m.toNat ||| n.toNat < 2 ^ 63 := Nat.or_lt_two_pow hm hn
  have e : (BitVec.ofInt 64 m ||| BitVec.ofInt 64 n).toNat = m.toNat ||| n.toNat := by
    rw [bv_nat h1.1, bv_nat h2.1, BitVec.toNat_or, BitVec.toNat_ofNat, BitVec.toNat_ofNat, Nat.mod_eq_of_lt (by omega), Nat.mod_eq_of_lt (by omega)]
  have hw : IntKind.i64.wrap ((m.toNat ||| n.toNat : Nat) : Int) = ((m.toNat ||| n.toNat : Nat) : Int) := IntWalk.i64_in _ (by omega)
  show Result.ok (Value.int .i64 (IntKind.i64.wrap ((BitVec.ofInt 64 m ||| BitVec.ofInt 64 n).toNat : Int))) w = _
  rw [e, hw]
theorem Q_xor (hx : st.ev x = .val (.int .i64 m)) (hy : st.ev y = .val (.int .i64 n)) (h1 : 0 ≤ m ∧ m ≤ 9223372036854775807) (h2 : 0 ≤ n ∧ n ≤ 9223372036854775807) :
    QOp P ⟨d, .binOp .xor T x y T', ty, pos, af, g⟩ st (.val (.int .i64 ((m.toNat ^^^ n.toNat : Nat) : Int))) := Q_bin hx hy fun w => by
  have hm := toNat_lt63 h1.2
  have hn := toNat_lt63 h2.2
  have hlt : m.toNat ^^^ n.toNat < 2 ^ 63 := Nat.xor_lt_two_pow hm hn
  have e : (BitVec.ofInt 64 m ^^^ BitVec.ofInt 64 n).toNat = m.toNat ^^^ n.toNat := by
    rw [bv_nat h1.1, bv_nat h2.1, BitVec.toNat_xor, BitVec.toNat_ofNat, BitVec.toNat_ofNat, Nat.mod_eq_of_lt (by omega), Nat.mod_eq_of_lt (by omega)]
  have hw : IntKind.i64.wrap ((m.toNat ^^^ n.toNat : Nat) : Int) = ((m.toNat ^^^ n.toNat : Nat) : Int) := IntWalk.i64_in _ (by omega)
  show Result.ok (Value.int .i64 (IntKind.i64.wrap ((BitVec.ofInt 64 m ^^^ BitVec.ofInt 64 n).toNat : Int))) w = _
  rw [e, hw]

/-- What m has and n has not, bit by bit. -/
def ndiff (m n : Nat) : Nat := m ^^^ (m &&& n)
theorem ndiff_lt {m n k : Nat} (h : m < 2 ^ k) : ndiff m n < 2 ^ k := Nat.xor_lt_two_pow h (Nat.lt_of_le_of_lt Nat.and_le_left h)
theorem testBit_ndiff (m n i : Nat) : (ndiff m n).testBit i = (m.testBit i && !n.testBit i) := by
  unfold ndiff; rw [Nat.testBit_xor, Nat.testBit_and]; cases m.testBit i <;> cases n.testBit i <;> rfl

theorem Q_andNot (hx : st.ev x = .val (.int .i64 m)) (hy : st.ev y = .val (.int .i64 n)) (h1 : 0 ≤ m ∧ m ≤ 9223372036854775807) (h2 : 0 ≤ n ∧ n ≤ 9223372036854775807) :
    QOp P ⟨d, .binOp .andNot T x y T', ty, pos, af, g⟩ st (.val (.int .i64 ((ndiff m.toNat n.toNat : Nat) : Int))) := Q_bin hx hy fun w => by
  have hm := toNat_lt63 h1.2
  have hn := toNat_lt63 h2.2
  have hlt : ndiff m.toNat n.toNat < 2 ^ 63 := ndiff_lt hm
  have e : (BitVec.ofInt 64 m &&& ~~~ BitVec.ofInt 64 n).toNat = ndiff m.toNat n.toNat := by
    apply Nat.eq_of_testBit_eq
    intro i
    rw [bv_nat h1.1, bv_nat h2.1, testBit_ndiff, ← BitVec.getLsbD, BitVec.getLsbD_and, BitVec.getLsbD_not, BitVec.getLsbD_ofNat, BitVec.getLsbD_ofNat]
    by_cases hi : i < 64
    · simp [hi]
    · have : m.toNat.testBit i = false := Nat.testBit_lt_two_pow (Nat.lt_of_lt_of_le hm (Nat.pow_le_pow_right (by decide) (by omega)))
      simp [hi, this]
  have hw : IntKind.i64.wrap ((ndiff m.toNat n.toNat : Nat) : Int) = ((ndiff m.toNat n.toNat : Nat) : Int) := IntWalk.i64_in _ (by omega)
  show Result.ok (Value.int .i64 (IntKind.i64.wrap ((BitVec.ofInt 64 m &&& ~~~ BitVec.ofInt 64 n).toNat : Int))) w = _
  rw [e, hw]
end

theorem Q_not {x : Operand} {T : TypeId} {b : Bool} (hx : st.ev x = .val (.bool b)) : QOp P ⟨d, .unOp .not T x, ty, pos, af, g⟩ st (.val (.bool (!b))) :=
  .run fun _ _ a hr => ⟨_, .val _, fun w1 _ => by simp only [execOp, hr.evv hx]; rfl⟩
theorem Q_neg {x : Operand} {T : TypeId} {n : Int} (hx : st.ev x = .val (.int .i64 n)) (h : -9223372036854775807 ≤ n ∧ n ≤ 9223372036854775807) : QOp P ⟨d, .unOp .neg T x, ty, pos, af, g⟩ st (.val (.int .i64 (-n))) :=
  .run fun _ _ a hr => ⟨_, .val _, fun w1 _ => by
    have : IntKind.i64.wrap (0 - n) = -n := by rw [IntWalk.i64_in _ (by omega)]; omega
    simp only [execOp, hr.evv hx, Op.unary, Op.intArith, this]; rfl⟩

/-! Parts of what is known. -/
theorem Q_extract {x : Operand} {i : Nat} {l : List AV} {av : AV} (hx : st.ev x = .tup l) (hi : l[i]? = some av) : QOp P ⟨d, .extract x i, ty, pos, af, g⟩ st av :=
  .run fun ρ w a hr => by
    have h := hr.ev x
    rw [hx] at h
    obtain ⟨vs, he, hl, hvs⟩ := h.tup_inv
    have hlt : i < vs.size := by rw [← hl]; exact (List.getElem?_eq_some_iff.1 hi).1
    refine ⟨vs[i], hvs i av _ hi (Array.getElem?_eq_getElem hlt), fun w1 _ => ?_⟩
    simp [execOp, he, Instr.extract, hlt]
theorem Q_extract_v {x : Operand} {i : Nat} {vs : Array Value} {v : Value} (hx : st.ev x = .val (.tuple vs)) (hi : vs[i]? = some v) : QOp P ⟨d, .extract x i, ty, pos, af, g⟩ st (.val v) :=
  .run fun ρ w a hr => ⟨v, .val v, fun w1 _ => by simp [execOp, hr.evv hx, Instr.extract, hi]⟩

theorem add_add' (a : Addr) (i j : Nat) : (a.add i).add j = a.add (i + j) := by
  unfold Addr.add
  by_cases hi : i = 0
  · subst hi; simp
  · by_cases hj : j = 0
    · subst hj; simp
    · simp [hi, hj, Nat.add_assoc]
theorem spot_add {a : Addr} (h : a.spot = none) (n : Nat) : a.add n = ⟨a.block, a.off + n, none⟩ := by
  unfold Addr.add; split
  · subst_vars; cases a; simp_all
  · rfl

theorem run_fieldAt {T : TypeId} {f off : Nat} (ht : FlT P T f off) (a : Addr) (w : World) : (Instr.fieldAt T (.pointer (some a)) f).run P w = .ok (.pointer (some (a.add off))) w := by
  obtain ⟨fs, fd, n, h1, h2, h3, rfl⟩ := ht
  simp [Instr.fieldAt, run_underlying h1, h2, Instr.sureAddr, fieldPlace, h3.run]

theorem Q_fieldAddr_ptr {x : Operand} {T : TypeId} {f off id o : Nat} (hx : st.ev x = .ptr id o) (ht : FlT P T f off) : QOp P ⟨d, .fieldAddr T x f, ty, pos, af, g⟩ st (.ptr id (o + off)) :=
  .run fun ρ w a hr => by
    have h := hr.ev x
    rw [hx] at h
    obtain ⟨b, l, he, hl⟩ := h.ptr_inv
    refine ⟨.pointer (some ⟨b, o + off, none⟩), .ptr id _ b l hl, fun w1 _ => ?_⟩
    simp [execOp, he, run_fieldAt ht, spot_add]
theorem Q_fieldAddr_ept {x : Operand} {T : TypeId} {f off id o : Nat} (hx : st.ev x = .ept id o) (ht : FlT P T f off) : QOp P ⟨d, .fieldAddr T x f, ty, pos, af, g⟩ st (.ept id (o + off)) :=
  .run fun ρ w a hr => by
    have h := hr.ev x
    rw [hx] at h
    obtain ⟨b, n, cap, l, he, hl⟩ := h.ept_inv
    refine ⟨.pointer (some ⟨b, o + off, none⟩), .ept id _ b n cap l hl, fun w1 _ => ?_⟩
    simp [execOp, he, run_fieldAt ht, spot_add]
theorem Q_fieldAddr_rpt {x : Operand} {T : TypeId} {f off : Nat} {cs : List Dat} {o : Nat} (hx : st.ev x = .rpt cs o) (ht : FlT P T f off) : QOp P ⟨d, .fieldAddr T x f, ty, pos, af, g⟩ st (.rpt cs (o + off)) :=
  .run fun ρ w a hr => by
    have h := hr.ev x
    rw [hx] at h
    obtain ⟨ad, us, he, hsp, hM, hc, hd⟩ := h.rpt_inv
    have e : (ad.add o).add off = ad.add (o + off) := add_add' ad _ _
    refine ⟨.pointer (some (ad.add (o + off))), .rpt ad cs (o + off) us hsp hM hc hd, fun w1 _ => ?_⟩
    simp [execOp, he, run_fieldAt ht, e]

def ofD : Dat → AV
  | .val v => .val v
  | d => .ro d

theorem gm_ofD {ρ : Ids} {w : World} {M : Nat → Prop} {v : Value} {d : Dat} (h : Rd w M v d) : Gm ρ w M (ofD d) v := by
  cases d with
  | val u => cases h; exact .val _
  | sl sz cs => exact .ro _ _ h

/-- A load of one cell of a box. -/
theorem Q_load_ptr {x : Operand} {T : TypeId} {id o : Nat} {cells : List AV} {av : AV} (hx : st.ev x = .ptr id o) (ho : st.objs[id]? = some (.box cells)) (hc : cells[o]? = some av) (ht : ScT P T) :
    QOp P ⟨d, .load T x, ty, pos, af, g⟩ st av :=
  .run fun ρ w a hr => by
    have h := hr.ev x
    rw [hx] at h
    obtain ⟨b, arr, T', he, _, hh, _, hcell, hcs⟩ := box_cells hr.good ho h
    obtain ⟨v, h1, h2⟩ := hcs o av hc
    refine ⟨v, h2, fun w1 hw => ?_⟩
    have : w1.cell? ⟨b, o, none⟩ = some v := by
      rw [hw.cell (p := ⟨b, o, none⟩) (Array.getElem?_eq_some_iff.1 hh).1, hcell]; exact h1
    simp [execOp, he, Instr.loadAt, Instr.sureAddr, run_loadSc ht _ this]

/-- A load of a whole struct or array out of a box: the cells from o on. -/
theorem Q_load_ptr_agg {x : Operand} {T : TypeId} {id o n : Nat} {cells l : List AV} (hx : st.ev x = .ptr id o) (ho : st.objs[id]? = some (.box cells)) (hl : (cells.drop o).take n = l) (hn : l.length = n) (ht : AgT P T n) :
    QOp P ⟨d, .load T x, ty, pos, af, g⟩ st (.agg l) :=
  .run fun ρ w a hr => by
    have h := hr.ev x
    rw [hx] at h
    obtain ⟨b, arr, T', he, _, hh, hsz, hcell, hcs⟩ := box_cells hr.good ho h
    subst hl
    have hlen : o + n ≤ cells.length ∨ n = 0 := by
      rw [List.length_take, List.length_drop] at hn; omega
    have hlv : ((arr.toList.drop o).take n).length = n := by
      rw [List.length_take, List.length_drop] at hn ⊢
      simp only [Array.length_toList, hsz]; exact hn
    refine ⟨.agg ((arr.toList.drop o).take n).toArray, .agg _ _ (by rw [hn]; simpa using hlv.symm) fun i av v h1 h2 => ?_, fun w1 hw => ?_⟩
    · have hi : i < n := by rw [← hn]; exact (List.getElem?_eq_some_iff.1 h1).1
      rw [List.getElem?_take, if_pos hi, List.getElem?_drop] at h1
      simp only [List.getElem?_toArray, List.getElem?_take, if_pos hi, List.getElem?_drop, Array.getElem?_toList] at h2
      obtain ⟨v', h3, h4⟩ := hcs _ av h1
      rw [h3] at h2
      obtain rfl := Option.some.inj h2
      exact h4
    · have := run_loadAgg (P := P) (w := w1) ht ⟨b, o, none⟩ ((arr.toList.drop o).take n) hlv fun j v hv => by
        have hj : j < n := by rw [← hlv]; exact (List.getElem?_eq_some_iff.1 hv).1
        rw [List.getElem?_take, if_pos hj, List.getElem?_drop, Array.getElem?_toList] at hv
        rw [spot_add rfl, hw.cell (p := ⟨b, o + j, none⟩) (Array.getElem?_eq_some_iff.1 hh).1, hcell]
        exact hv
      simp [execOp, he, Instr.loadAt, Instr.sureAddr, this]

theorem Q_load_rpt {x : Operand} {T : TypeId} {cs : List Dat} {o : Nat} {dt : Dat} (hx : st.ev x = .rpt cs o) (hc : cs[o]? = some dt) (ht : ScT P T) : QOp P ⟨d, .load T x, ty, pos, af, g⟩ st (ofD dt) :=
  .run fun ρ w a hr => by
    have h := hr.ev x
    rw [hx] at h
    obtain ⟨ad, us, he, hsp, hM, hcl, hd⟩ := h.rpt_inv
    refine ⟨us o, gm_ofD (hd o dt hc), fun w1 hw => ?_⟩
    have hc1 := hcl o dt hc
    have hlt := World.block_lt_of_cell? w _ hc1
    have : w1.cell? (ad.add o) = some (us o) := by rw [hw.cell hlt]; exact hc1
    simp [execOp, he, Instr.loadAt, Instr.sureAddr, run_loadSc ht _ this]

theorem Q_load_rpt_agg {x : Operand} {T : TypeId} {cs : List Dat} {o n : Nat} {ds : List Dat} (hx : st.ev x = .rpt cs o) (hc : ∀ (j : Nat) dt, ds[j]? = some dt → cs[o + j]? = some dt) (hn : ds.length = n) (ht : AgT P T n) :
    QOp P ⟨d, .load T x, ty, pos, af, g⟩ st (.agg (ds.map ofD)) :=
  .run fun ρ w a hr => by
    have h := hr.ev x
    rw [hx] at h
    obtain ⟨ad, us, he, hsp, hM, hcl, hd⟩ := h.rpt_inv
    refine ⟨.agg ((List.range n).map fun j => us (o + j)).toArray, .agg _ _ (by simp [hn]) fun i av v h1 h2 => ?_, fun w1 hw => ?_⟩
    · simp only [List.getElem?_map, Option.map_eq_some_iff] at h1
      obtain ⟨dt, h3, rfl⟩ := h1
      have hi : i < n := by rw [← hn]; exact (List.getElem?_eq_some_iff.1 h3).1
      simp [hi] at h2
      subst h2
      exact gm_ofD (hd _ dt (hc i dt h3))
    · have := run_loadAgg (P := P) (w := w1) ht (ad.add o) ((List.range n).map fun j => us (o + j)) (by simp) fun j v hv => by
        simp only [List.getElem?_map, Option.map_eq_some_iff] at hv
        obtain ⟨j', h3, rfl⟩ := hv
        have hj : j < n := by simpa using (List.getElem?_eq_some_iff.1 h3).1
        obtain rfl : j = j' := by simpa [hj] using h3
        have hcj := hcl (o + j) _ (hc j _ (List.getElem?_eq_getElem (by omega)))
        have e : (ad.add o).add j = ad.add (o + j) := add_add' ad _ _
        rw [e, hw.cell (World.block_lt_of_cell? w _ hcj)]
        exact hcj
      simp [execOp, he, Instr.loadAt, Instr.sureAddr, this]

/-- An own row's cells, in the world. -/
theorem row_cells [Zs] {ρ : Ids} {w : World} {objs : List AO} (hg : Good ρ w objs) {id : Nat} {e : TypeId} {sz : Nat} {cs : List Dat} {u : Value} (ho : objs[id]? = some (.row e sz cs)) (hu : Gm ρ w (Ban ρ objs) (.own id) u) :
    ρ[id]? = some [u] ∧ ((u = .slice none 0 0 ∧ cs = []) ∨ ∃ b n cap, u = .slice (some ⟨b, 0, none⟩) n cap ∧ cs.length = n * sz ∧ b < w.heap.size ∧
      (∀ i, w.frozen? ⟨b, i, none⟩ = false) ∧ ∀ (i : Nat) dt, cs[i]? = some dt → ∃ v, w.cell? ⟨b, i, none⟩ = some v ∧ Rd w (Ban ρ objs) v dt) := by
  obtain ⟨v, n, us, h1, h2, h3, h4⟩ := hg.sat id _ ho
  obtain ⟨l, hl⟩ := hu.own_inv
  rw [h1] at hl
  obtain ⟨rfl, rfl⟩ := List.cons.inj (Option.some.inj hl)
  refine ⟨h1, ?_⟩
  rcases h2.2 with ⟨rfl, rfl⟩ | ⟨b, cap, cur, rfl, _, hh, _⟩
  · left
    refine ⟨rfl, List.eq_nil_of_length_eq_zero ?_⟩
    rw [← h3, h2.1]; simp
  · right
    refine ⟨b, n, cap, rfl, by rw [← h3]; exact h2.1, (Array.getElem?_eq_some_iff.1 hh).1, fun i => frozen_of_row w b i cur e hh, fun i dt hi => ?_⟩
    obtain ⟨u, hu, hr⟩ := h4 i dt hi
    have := h2.cells (g := b) rfl i u hu
    rw [spot_add rfl] at this
    exact ⟨u, by simpa using this, hr⟩

/-- A load of a cell of an own row. -/
theorem Q_load_ept {x : Operand} {T : TypeId} {id o : Nat} {e : TypeId} {sz : Nat} {cs : List Dat} {dt : Dat} (hx : st.ev x = .ept id o) (ho : st.objs[id]? = some (.row e sz cs)) (hc : cs[o]? = some dt) (ht : ScT P T) :
    QOp P ⟨d, .load T x, ty, pos, af, g⟩ st (ofD dt) :=
  .run fun ρ w a hr => by
    have h := hr.ev x
    rw [hx] at h
    obtain ⟨b, n, cap, l, he, hl⟩ := h.ept_inv
    obtain ⟨hρ, hrow⟩ := row_cells hr.good ho (.own id _ l hl rfl)
    rcases hrow with ⟨h1, _⟩ | ⟨b', n', cap', h1, h2, h3, _, h4⟩
    · cases h1
    · cases h1
      obtain ⟨v, hv, hrd⟩ := h4 o dt hc
      refine ⟨v, gm_ofD hrd, fun w1 hw => ?_⟩
      have : w1.cell? ⟨b, o, none⟩ = some v := by rw [hw.cell (p := ⟨b, o, none⟩) h3]; exact hv
      simp [execOp, he, Instr.loadAt, Instr.sureAddr, run_loadSc ht _ this]

theorem run_indexAt_slice {T e : TypeId} {sz : Nat} (ht : SlT P T e sz) (a : Addr) (n cap : Nat) (k : IntKind) (i : Int) (h0 : 0 ≤ i) (hn : i < n) (w : World) :
    (Instr.indexAt T (.slice (some a) n cap) (.int k i)).run P w = .ok (.pointer (some (a.add (i.toNat * sz)))) w := by
  simp [Instr.indexAt, asIntOf, run_underlying ht.1, ht.2.run, h0, hn]

theorem Q_index_ro {x ix : Operand} {T e : TypeId} {sz : Nat} {cs : List Dat} {i : Int} {n : Nat} (hx : st.ev x = .ro (.sl sz cs)) (hi : st.ev ix = .val (.int .i64 i)) (ht : SlT P T e sz) (hn : cs.length = n * sz) (hsz : 0 < sz)
    (h : 0 ≤ i ∧ i < n) : QOp P ⟨d, .indexAddr T x ix, ty, pos, af, g⟩ st (.rpt cs (i.toNat * sz)) :=
  .run fun ρ w a hr => by
    have hg := hr.ev x
    rw [hx] at hg
    have hrd := hg.ro_inv
    obtain ⟨u, hu⟩ : ∃ u, a.eval x = u := ⟨_, rfl⟩
    rw [hu] at hrd
    cases hrd with
    | nil _ => have := Nat.mul_eq_zero.1 hn.symm; simp only [List.length_nil] at hn; rcases this with h1 | h1 <;> omega
    | sl ad n' cap _ _ us hn' hsp hM hc hd =>
      have hnn : n = n' := Nat.eq_of_mul_eq_mul_right hsz (hn.symm.trans hn')
      subst hnn
      refine ⟨.pointer (some (ad.add (i.toNat * sz))), .rpt ad cs _ us hsp hM hc hd, fun w1 _ => ?_⟩
      simp only [execOp, hu, hr.evv hi, Sem.run_bind, run_indexAt_slice (P := P) ht ad n cap .i64 i h.1 h.2 w1, Result.andThen_ok, Sem.run_pure]
theorem Q_index_own {x ix : Operand} {T e e' : TypeId} {sz : Nat} {cs : List Dat} {id : Nat} {i : Int} {n : Nat} (hx : st.ev x = .own id) (ho : st.objs[id]? = some (.row e' sz cs)) (hi : st.ev ix = .val (.int .i64 i)) (ht : SlT P T e sz)
    (hn : cs.length = n * sz) (hsz : 0 < sz) (h : 0 ≤ i ∧ i < n) : QOp P ⟨d, .indexAddr T x ix, ty, pos, af, g⟩ st (.ept id (i.toNat * sz)) :=
  .run fun ρ w a hr => by
    have hg := hr.ev x
    rw [hx] at hg
    obtain ⟨hρ, hrow⟩ := row_cells hr.good ho hg
    rcases hrow with ⟨h1, h2⟩ | ⟨b, n', cap, h1, h2, h3, _, h4⟩
    · rw [h2] at hn; have := Nat.mul_eq_zero.1 hn.symm; rcases this with h1 | h1 <;> omega
    · have hnn : n = n' := Nat.eq_of_mul_eq_mul_right hsz (hn.symm.trans h2)
      subst hnn
      refine ⟨.pointer (some ⟨b, i.toNat * sz, none⟩), .ept id _ b n cap [] (by rw [hρ, h1]), fun w1 _ => ?_⟩
      have := run_indexAt_slice (P := P) ht ⟨b, 0, none⟩ n cap .i64 i h.1 h.2 w1
      rw [spot_add rfl] at this
      simp only [execOp, h1, hr.evv hi, Sem.run_bind, this, Result.andThen_ok, Sem.run_pure]
      simp

/-- An element of an array in a box. -/
theorem Q_index_arr {x ix : Operand} {T e : TypeId} {sz n : Nat} {id o : Nat} {i : Int} (hx : st.ev x = .ptr id o) (hi : st.ev ix = .val (.int .i64 i)) (ht : ArT P T n e sz) (h : 0 ≤ i ∧ i < n) :
    QOp P ⟨d, .indexAddr T x ix, ty, pos, af, g⟩ st (.ptr id (o + i.toNat * sz)) :=
  .run fun ρ w a hr => by
    have hg := hr.ev x
    rw [hx] at hg
    obtain ⟨b, l, he, hl⟩ := hg.ptr_inv
    refine ⟨.pointer (some ⟨b, o + i.toNat * sz, none⟩), .ptr id _ b l hl, fun w1 _ => ?_⟩
    simp [execOp, he, hr.evv hi, Instr.indexAt, Instr.sureAddr, asIntOf, run_underlying ht.1, ht.2.run, h.1, h.2, spot_add]
theorem Q_index_arr_rpt {x ix : Operand} {T e : TypeId} {sz n : Nat} {cs : List Dat} {o : Nat} {i : Int} (hx : st.ev x = .rpt cs o) (hi : st.ev ix = .val (.int .i64 i)) (ht : ArT P T n e sz) (h : 0 ≤ i ∧ i < n) :
    QOp P ⟨d, .indexAddr T x ix, ty, pos, af, g⟩ st (.rpt cs (o + i.toNat * sz)) :=
  .run fun ρ w a hr => by
    have hg := hr.ev x
    rw [hx] at hg
    obtain ⟨ad, us, he, hsp, hM, hc, hd⟩ := hg.rpt_inv
    have e : (ad.add o).add (i.toNat * sz) = ad.add (o + i.toNat * sz) := add_add' ad _ _
    refine ⟨.pointer (some (ad.add (o + i.toNat * sz))), .rpt ad cs _ us hsp hM hc hd, fun w1 _ => ?_⟩
    simp [execOp, he, hr.evv hi, Instr.indexAt, Instr.sureAddr, asIntOf, run_underlying ht.1, ht.2.run, h.1, h.2, e]

/-! Lengths. -/
theorem Q_len_ro {x : Operand} {T e : TypeId} {sz : Nat} {cs : List Dat} {n : Nat} {cl : Callee} {ats : Array TypeId} (hcl : cl = .builtin .len) (hx : st.ev x = .ro (.sl sz cs)) (hats : ats = #[T]) (ht : SlT P T e sz) (hn : cs.length = n * sz) (hsz : 0 < sz) :
    QOp P ⟨d, .call ⟨cl, #[x], ats⟩, ty, pos, af, g⟩ st (.val (.int .i64 (n : Int))) :=
  .run fun ρ w a hr => by
    subst hcl; subst hats
    have hg := hr.ev x
    rw [hx] at hg
    have hrd := hg.ro_inv
    refine ⟨_, .val _, fun w1 _ => ?_⟩
    have key : ∃ b c, a.eval x = .slice b n c := by
      generalize a.eval x = u at *
      cases hrd with
      | nil _ =>
        have := Nat.mul_eq_zero.1 hn.symm
        simp only [List.length_nil] at hn
        have : n = 0 := by rcases this with h | h <;> omega
        subst this
        exact ⟨_, _, rfl⟩
      | sl ad n' cap _ _ us hn' =>
        have hnn : n = n' := Nat.eq_of_mul_eq_mul_right hsz (hn.symm.trans hn')
        subst hnn
        exact ⟨_, _, rfl⟩
    obtain ⟨b, c, hk⟩ := key
    simp [execOp, resolve, invoke, builtin, hk, Builtin.len_, run_underlying ht.1, goInt]
theorem Q_len_own {x : Operand} {T e e' : TypeId} {sz : Nat} {cs : List Dat} {n id : Nat} {cl : Callee} {ats : Array TypeId} (hcl : cl = .builtin .len) (hx : st.ev x = .own id) (ho : st.objs[id]? = some (.row e' sz cs)) (hats : ats = #[T]) (ht : SlT P T e sz)
    (hn : cs.length = n * sz) (hsz : 0 < sz) : QOp P ⟨d, .call ⟨cl, #[x], ats⟩, ty, pos, af, g⟩ st (.val (.int .i64 (n : Int))) :=
  .run fun ρ w a hr => by
    subst hcl; subst hats
    have hg := hr.ev x
    rw [hx] at hg
    obtain ⟨_, hrow⟩ := row_cells hr.good ho hg
    refine ⟨_, .val _, fun w1 _ => ?_⟩
    have key : ∃ b c, a.eval x = .slice b n c := by
      rcases hrow with ⟨h1, h2⟩ | ⟨b, n', cap, h1, h2, _⟩
      · rw [h2] at hn
        have := Nat.mul_eq_zero.1 hn.symm
        simp only [List.length_nil] at hn
        have : n = 0 := by rcases this with h | h <;> omega
        subst this
        exact ⟨_, _, h1⟩
      · have hnn : n = n' := Nat.eq_of_mul_eq_mul_right hsz (hn.symm.trans h2)
        subst hnn
        exact ⟨_, _, h1⟩
    obtain ⟨b, c, hk⟩ := key
    simp [execOp, resolve, invoke, builtin, hk, Builtin.len_, run_underlying ht.1, goInt]
theorem Q_len_nil {x : Operand} {T e : TypeId} {sz : Nat} {cl : Callee} {ats : Array TypeId} (hcl : cl = .builtin .len) (hx : st.ev x = .val (.slice none 0 0)) (hats : ats = #[T]) (ht : SlT P T e sz) :
    QOp P ⟨d, .call ⟨cl, #[x], ats⟩, ty, pos, af, g⟩ st (.val (.int .i64 0)) :=
  .run fun ρ w a hr => ⟨_, .val _, fun w1 _ => by
    subst hcl; subst hats
    simp [execOp, resolve, invoke, builtin, hr.evv hx, Builtin.len_, run_underlying ht.1, goInt]⟩

theorem Q_max {x y : Operand} {m n : Int} {cl : Callee} {ats : Array TypeId} (hcl : cl = .builtin .max) (hx : st.ev x = .val (.int .i64 m)) (hy : st.ev y = .val (.int .i64 n)) :
    QOp P ⟨d, .call ⟨cl, #[x, y], ats⟩, ty, pos, af, g⟩ st (.val (.int .i64 (max m n))) :=
  .run fun ρ w a hr => ⟨_, .val _, fun w1 _ => by
    subst hcl
    have : (if n > m then n else m) = max m n := by omega
    simp [execOp, resolve, invoke, builtin, hr.evv hx, hr.evv hy, Builtin.max_, Builtin.max2, this]⟩
theorem Q_min {x y : Operand} {m n : Int} {cl : Callee} {ats : Array TypeId} (hcl : cl = .builtin .min) (hx : st.ev x = .val (.int .i64 m)) (hy : st.ev y = .val (.int .i64 n)) :
    QOp P ⟨d, .call ⟨cl, #[x, y], ats⟩, ty, pos, af, g⟩ st (.val (.int .i64 (min m n))) :=
  .run fun ρ w a hr => ⟨_, .val _, fun w1 _ => by
    subst hcl
    have : (if n < m then n else m) = min m n := by omega
    simp [execOp, resolve, invoke, builtin, hr.evv hx, hr.evv hy, Builtin.min_, Builtin.min2, this]⟩
end
end Go.Proofs.Ythchhaaplimafaa
