import Derived.Test.YtgojkabjgagjcaaDoorCd
import Derived.Test.YtgojkabjgagjcaaDoorEngR
import Derived.Test.YtgojkabjgagjcaaDoorXc
import Derived.Test.YtgojkabjgagjcaaDoorCa
import Derived.Test.YtgojkabjgagjcaaDoorEngT
set_option linter.unusedSimpArgs false
set_option linter.unusedVariables false
set_option linter.unusedSectionVars false
namespace Go.Proofs.YtgojkabjgagjcaaDoor
open Go.ChangeShapes Go.WideShapes Go.RowKit Go.Deep
/-- One of them. -/
abbrev ruA (e : Int × Int) : AV := .agg [.val (.int .i64 e.1), .val (.int .i64 e.2)]
end Go.Proofs.YtgojkabjgagjcaaDoor
set_option linter.unusedSimpArgs false
set_option linter.unusedVariables false
set_option linter.unusedSectionVars false
set_option maxRecDepth 20000
namespace Go.Proofs.YtgojkabjgagjcaaDoor
attribute [local irreducible] QOp aL aC qL
def clzC (N : Int) (l : List (Int × Int)) (s : Int) : Int := if rlck N l ≠ 0 then rlck N l else if s < 0 ∨ ((2 ^ N.toNat : Nat) : Int) ≤ s then 3 else 0
theorem Rls.ck {n : Nat} {l : List (Nat × Nat)} (h : Rls n l) : rlck n (pn l) = 0 := by
  have hl := pn_len l
  refine rlck_no h.hn (by rw [hl]; exact h.len) fun k hk => ?_
  have hk' : k < l.length := by omega
  have e : (pn l).getD k (0, 0) = (((l.getD k (0, 0)).1 : Int), ((l.getD k (0, 0)).2 : Int)) := by
    unfold pn
    simp [List.getD_eq_getElem?_getD, hk']
  have := h.lt (l.getD k (0, 0)) (by rw [List.getD_eq_getElem?_getD, List.getElem?_eq_getElem hk']; exact List.getElem_mem hk')
  rw [e]
  dsimp only
  omega
def folC (N : Int) (l : List (Int × Int)) (r : Int × Int) : Int := if rlck N l ≠ 0 then rlck N l else if rlw N r = true then 3 else 0
/-! The reference. -/
end Go.Proofs.YtgojkabjgagjcaaDoor
set_option linter.unusedSimpArgs false
set_option linter.unusedVariables false
set_option linter.unusedSectionVars false
set_option maxRecDepth 20000
namespace Go.Proofs.YtgojkabjgagjcaaDoor
attribute [local irreducible] QOp aL aC qL
def iskU (n : Nat) (l : List (Nat × Nat)) (s m : Nat) : Bool := (List.range m).all fun i => !(s.testBit i && decide (clo n l (ndiff s (2 ^ i)) = 2 ^ n - 1))
def isk (n : Nat) (l : List (Nat × Nat)) (s : Nat) : Bool := decide (clo n l s = 2 ^ n - 1) && iskU n l s n
def keyT (n : Nat) (l : List (Nat × Nat)) (k : Nat) : List Nat := (List.range k).filter (isk n l)
end Go.Proofs.YtgojkabjgagjcaaDoor
set_option linter.unusedSimpArgs false
set_option linter.unusedVariables false
set_option linter.unusedSectionVars false
namespace Go.Proofs.YtgojkabjgagjcaaDoor
section
variable {P : Program} {st : St} {d : Option Tmp} {ty : TypeId} {pos : String} {af : Array Edge} {g : Option (Nat × Bool)} {T T' : TypeId} {x y : Operand} {m : Nat} {n : Int}
theorem Q_ushrC {k' : IntKind} (hx : st.ev x = .val (.int .u64 (m : Int))) (hy : st.ev y = .val (.int k' n)) (h0 : 0 ≤ n ∧ n < 64) :
    QOp P ⟨d, .binOp .shr T x y T', ty, pos, af, g⟩ st (.val (.int .u64 ((m / 2 ^ n.toNat : Nat) : Int))) := Q_bin hx hy fun w => by
  have h1 : ¬ n < 0 := by omega
  have h2 : min n.toNat IntKind.u64.bits = n.toNat := shl_eq _ (by omega)
  have h3 : (m : Int).fdiv (2 ^ n.toNat) = ((m / 2 ^ n.toNat : Nat) : Int) := by
    rw [Int.fdiv_eq_ediv_of_nonneg _ (Int.le_of_lt (Int.pow_pos (by decide)))]
    simp
  simp only [binOp, Op.shift, if_neg h1, h2, h3]
  rfl
theorem Q_uandC (hx : st.ev x = .val (.int .u64 (m : Int))) (hy : st.ev y = .val (.int .u64 n)) (h0 : 0 ≤ n ∧ n < 18446744073709551616) :
    QOp P ⟨d, .binOp .and T x y T', ty, pos, af, g⟩ st (.val (.int .u64 ((m % 18446744073709551616 &&& n.toNat : Nat) : Int))) := Q_bin hx hy fun w => by
  have hn : n.toNat < 2 ^ 64 := by omega
  have e : (BitVec.ofInt 64 (m : Int) &&& BitVec.ofInt 64 n).toNat = m % 18446744073709551616 &&& n.toNat := by
    rw [bv_nat (by omega), bv_nat h0.1, BitVec.toNat_and, BitVec.toNat_ofNat, BitVec.toNat_ofNat, Nat.mod_eq_of_lt hn, Int.toNat_natCast]
  have hlt : m % 18446744073709551616 &&& n.toNat < 2 ^ 64 := Nat.and_lt_two_pow _ hn
  have hw : IntKind.u64.wrap ((m % 18446744073709551616 &&& n.toNat : Nat) : Int) = ((m % 18446744073709551616 &&& n.toNat : Nat) : Int) := IntWalk.u64_in _ (by omega)
  show Result.ok (Value.int .u64 (IntKind.u64.wrap ((BitVec.ofInt 64 (m : Int) &&& BitVec.ofInt 64 n).toNat : Int))) w = _
  rw [e, hw]
theorem Q_uadd {k : Nat} (hx : st.ev x = .val (.int .u64 (m : Int))) (hy : st.ev y = .val (.int .u64 (k : Int))) :
    QOp P ⟨d, .binOp .add T x y T', ty, pos, af, g⟩ st (.val (.int .u64 (((m + k) % 18446744073709551616 : Nat) : Int))) := Q_bin hx hy fun w => by
  show Result.ok (Value.int .u64 (IntKind.u64.wrap ((m : Int) + (k : Int)))) w = _
  rw [show IntKind.u64.wrap ((m : Int) + (k : Int)) = (((m + k) % 18446744073709551616 : Nat) : Int) by rw [IntKind.wrap_u64]; omega]
theorem Q_andC (hx : st.ev x = .val (.int .i64 (m : Int))) (hy : st.ev y = .val (.int .i64 n)) (h1 : m ≤ 9223372036854775807) (h0 : 0 ≤ n ∧ n ≤ 9223372036854775807) :
    QOp P ⟨d, .binOp .and T x y T', ty, pos, af, g⟩ st (.val (.int .i64 ((m &&& n.toNat : Nat) : Int))) := by
  have := Q_and (P := P) (d := d) (ty := ty) (pos := pos) (af := af) (g := g) (T := T) (T' := T') hx hy ⟨by omega, by omega⟩ h0
  simpa using this
end
end Go.Proofs.YtgojkabjgagjcaaDoor
set_option linter.unusedSimpArgs false
set_option linter.unusedVariables false
set_option linter.unusedSectionVars false
namespace Go.Proofs.YtgojkabjgagjcaaDoor
section
variable {P : Program} {st : St} {d : Option Tmp} {ty : TypeId} {pos : String} {af : Array Edge} {g : Option (Nat × Bool)} {T T' e : TypeId} {x y ix : Operand} {m n : Nat}
theorem Q_tabix {b N i : Nat} {k : IntKind} (hx : st.ev x = .val (.pointer (some ⟨b, 0, none⟩))) (hi : st.ev ix = .val (.int k (i : Int))) (ht : ArT P T N e 1) (h : i < N) :
    QOp P ⟨d, .indexAddr T x ix, ty, pos, af, g⟩ st (.val (.pointer (some ⟨b, i, none⟩))) :=
  .run fun ρ w a hr => ⟨_, .val _, fun w1 _ => by
    have h1 : (i : Int) < (N : Int) := by omega
    have h2 : (0 : Int) ≤ (i : Int) := by omega
    simp [execOp, hr.evv hx, hr.evv hi, Instr.indexAt, Instr.sureAddr, asIntOf, run_underlying ht.1, ht.2.run, h1, spot_add]
    intro hh; omega⟩
theorem Q_tabld {b i : Nat} {cs : List Value} {v : Value} (hx : st.ev x = .val (.pointer (some ⟨b, i, none⟩))) (hm : (b, cs) ∈ Tab) (hc : cs[i]? = some v) (ht : ScT P T) :
    QOp P ⟨d, .load T x, ty, pos, af, g⟩ st (.val v) :=
  .run fun ρ w a hr => ⟨v, .val v, fun w1 hw => by
    have h0 := hr.good.tt.tb _ hm i v hc
    have : w1.cell? ⟨b, i, none⟩ = some v := by rw [hw.cell (p := ⟨b, i, none⟩) (World.block_lt_of_cell? w _ h0)]; exact h0
    simp [execOp, hr.evv hx, Instr.loadAt, Instr.sureAddr, run_loadSc ht _ this]⟩
theorem Q_uand (hx : st.ev x = .val (.int .u64 (m : Int))) (hy : st.ev y = .val (.int .u64 (n : Int))) (h1 : m < 18446744073709551616) (h2 : n < 18446744073709551616) :
    QOp P ⟨d, .binOp .and T x y T', ty, pos, af, g⟩ st (.val (.int .u64 ((m &&& n : Nat) : Int))) := by
  have := Q_uandC (P := P) (d := d) (ty := ty) (pos := pos) (af := af) (g := g) (T := T) (T' := T') hx hy ⟨by omega, by omega⟩
  rwa [Nat.mod_eq_of_lt h1, Int.toNat_natCast] at this
theorem Q_uneg (hx : st.ev x = .val (.int .u64 (m : Int))) : QOp P ⟨d, .unOp .neg T x, ty, pos, af, g⟩ st (.val (.int .u64 (((18446744073709551616 - m % 18446744073709551616) % 18446744073709551616 : Nat) : Int))) :=
  .run fun _ _ a hr => ⟨_, .val _, fun w1 _ => by
    have : IntKind.u64.wrap (0 - (m : Int)) = (((18446744073709551616 - m % 18446744073709551616) % 18446744073709551616 : Nat) : Int) := by rw [IntKind.wrap_u64]; omega
    simp only [execOp, hr.evv hx, Op.unary, Op.intArith, this]; rfl⟩
theorem Q_umul (hx : st.ev x = .val (.int .u64 (m : Int))) (hy : st.ev y = .val (.int .u64 (n : Int))) :
    QOp P ⟨d, .binOp .mul T x y T', ty, pos, af, g⟩ st (.val (.int .u64 ((m * n % 18446744073709551616 : Nat) : Int))) := Q_bin hx hy fun w => by
  show Result.ok (Value.int .u64 (IntKind.u64.wrap ((m : Int) * (n : Int)))) w = _
  rw [show IntKind.u64.wrap ((m : Int) * (n : Int)) = ((m * n % 18446744073709551616 : Nat) : Int) by rw [IntKind.wrap_u64, ← Int.natCast_mul]; omega]
theorem Q_usub (hx : st.ev x = .val (.int .u64 (m : Int))) (hy : st.ev y = .val (.int .u64 (n : Int))) (h : n ≤ m) (h2 : m < 18446744073709551616) :
    QOp P ⟨d, .binOp .sub T x y T', ty, pos, af, g⟩ st (.val (.int .u64 ((m - n : Nat) : Int))) := Q_bin hx hy fun w => by
  show Result.ok (Value.int .u64 (IntKind.u64.wrap ((m : Int) - (n : Int)))) w = _
  rw [show IntKind.u64.wrap ((m : Int) - (n : Int)) = ((m - n : Nat) : Int) by rw [IntKind.wrap_u64]; omega]
theorem Q_ueql {m n : Int} (hx : st.ev x = .val (.int .u64 m)) (hy : st.ev y = .val (.int .u64 n)) : QOp P ⟨d, .binOp .eql T x y T', ty, pos, af, g⟩ st (.val (.bool (decide (m = n)))) := Q_bin hx hy fun _ => by rw [← beq_dec]; rfl
theorem Q_ugtr {m n : Int} (hx : st.ev x = .val (.int .u64 m)) (hy : st.ev y = .val (.int .u64 n)) : QOp P ⟨d, .binOp .gtr T x y T', ty, pos, af, g⟩ st (.val (.bool (decide (n < m)))) := Q_bin hx hy fun _ => rfl
end
end Go.Proofs.YtgojkabjgagjcaaDoor
set_option linter.unusedSimpArgs false
set_option linter.unusedVariables false
set_option linter.unusedSectionVars false
set_option maxRecDepth 20000
namespace Go.Proofs.YtgojkabjgagjcaaDoor
attribute [local irreducible] QOp aL aC qL
/-- How many of the first k points a set has. -/
def pcTo (x : Nat) : Nat → Nat
  | 0 => 0
  | k + 1 => pcTo x k + x / 2 ^ k % 2
theorem pcTo_le (x : Nat) : ∀ k, pcTo x k ≤ k
  | 0 => Nat.le_refl 0
  | k + 1 => by
    have := pcTo_le x k
    have := Nat.mod_lt (x / 2 ^ k) (show 0 < 2 by decide)
    rw [pcTo]; omega
theorem pcTo_stay {x j : Nat} (h : x / 2 ^ j = 0) : ∀ d, pcTo x (j + d) = pcTo x j
  | 0 => rfl
  | d + 1 => by
    have : x / 2 ^ (j + d) = 0 := by rw [Nat.pow_add, ← Nat.div_div_eq_div_mul, h, Nat.zero_div]
    show pcTo x (j + d) + x / 2 ^ (j + d) % 2 = _
    rw [pcTo_stay h d, this, Nat.zero_mod, Nat.add_zero]
theorem Size_ac (x k : Nat) (hx : x < 2 ^ k) (hk : k ≤ 62) : AC Tryd.prog 24 [.val (.int .i64 x)] [] (.val (.int .i64 (pcTo x k : Nat))) [] := by
  have hx2 : x < 2 ^ 62 := Nat.lt_of_lt_of_le hx (Nat.pow_le_pow_right (by decide) hk)
  refine AC.mk (n := 13) (fn := Tryd.f24) Tryd.func24 (by kernel_rfl) rfl rfl rfl rfl (fun cx => ?_); dsimp only [argv, Nat.reduceAdd]
  (repeat' (first | refine a_seq ?_ | refine a_block ?_ | refine a_region ?_ | refine l_nil ?_ | (apply w_q; (focus (first | exact Q_assign (by conv => lhs; whnf))); (focus exact rfl)))); (try all_goals (try show retA _ _ _ _ _ _ _))
  refine w_loop (X := Nat) [] (by simp only [keepv, getv_cons, Nat.reduceEqDiff, ↓reduceIte]; exact rfl) (fun j => [(0, .val (.int .i64 (x / 2 ^ j : Nat))), (3, .val (.int .i64 (pcTo x j : Nat)))]) (fun _ => []) (fun j => j ≤ k) (fun j => k - j) (0) ([]) ?_ ?_ rfl ?_ <;> (try dsimp only [List.cons_append, List.nil_append])
  · exact Nat.zero_le _
  · rw [show x / 2 ^ 0 = x by rw [Nat.pow_zero, Nat.div_one]]
    (refine St.le_mk rfl (VwOs.mk (by decide) ?_) ?_ <;> (repeat' (first | exact trivial | exact vwR rfl | refine ⟨?_, ?_⟩ )))
  rintro j hj
  have h1 : x / 2 ^ j ≤ 9223372036854775807 := Nat.le_trans (Nat.div_le_self _ _) (by omega)
  have h2 := pcTo_le x j
  have h3 : j = k → x / 2 ^ j = 0 := fun h => by rw [h]; exact Nat.div_eq_of_lt hx
  have h4 : x / 2 ^ j = 0 → pcTo x k = pcTo x j := fun h => by
    have := pcTo_stay h (k - j)
    rwa [show j + (k - j) = k by omega] at this
  have h5 : pcTo x (j + 1) = pcTo x j + x / 2 ^ j % 2 := rfl
  have h6 := Nat.mod_lt (x / 2 ^ j) (show 0 < 2 by decide)
  (repeat' (first | refine a_seq ?_ | refine a_block ?_ | refine a_skip ?_ | refine a_ret ?_ | refine a_exit ?_ | refine a_region ?_ | refine l_nil ?_ | (apply w_q; (focus (first | exact Q_move (by conv => lhs; whnf) | exact Q_assign (by conv => lhs; whnf) | exact Q_gtr rfl rfl | exact Q_add rfl rfl (by omega) | exact Q_rem2 rfl rfl)); (focus exact rfl)) | (refine a_cond rfl ?_ ?_ <;> (intro h; (try (have hp := of_decide_eq_true h)); (try (have hp := of_decide_eq_false h)); (try contradiction); (try (exfalso; omega)))) | (((first | apply w_q); (focus exact Q_quo2 rfl rfl h1); (focus exact rfl))))); (try all_goals (try show retA _ _ _ _ _ _ _))
  · have hjk : j < k := by
      by_cases h : j = k
      · have := h3 h; omega
      · omega
    refine ⟨j + 1, [], ?_, ?_, ?_, rfl⟩ <;> (try dsimp only)
    · omega
    · omega
    · rw [half_pow, h5]
      (refine St.le_mk rfl (VwOs.mk (by decide) ?_) ?_ <;> (repeat' (first | exact trivial | exact vwR rfl | refine ⟨?_, ?_⟩ )))
  · refine ⟨[_], [], ⟨resV_tmp (by conv => lhs; whnf), trivial⟩, VwOs.mk (by decide) trivial, ?_, rfl⟩
    rw [h4 (by have : 0 ≤ ((x / 2 ^ j : Nat) : Int) := Int.natCast_nonneg _; omega)]
    (repeat' (first | exact vwR rfl))
def oc1 (x : Nat) : Nat := ((x / 2 ^ (1 : Int).toNat % 18446744073709551616 &&& (6148914691236517205 : Int).toNat) + (x % 18446744073709551616 &&& (6148914691236517205 : Int).toNat)) % 18446744073709551616
def oc2 (x : Nat) : Nat := ((x / 2 ^ (2 : Int).toNat % 18446744073709551616 &&& (3689348814741910323 : Int).toNat) + (x % 18446744073709551616 &&& (3689348814741910323 : Int).toNat)) % 18446744073709551616
def oc3 (x : Nat) : Nat := (x / 2 ^ (4 : Int).toNat + x) % 18446744073709551616 % 18446744073709551616 &&& (1085102592571150095 : Int).toNat
def oc4 (x : Nat) : Nat := (x + x / 2 ^ (8 : Int).toNat) % 18446744073709551616
def oc5 (x : Nat) : Nat := (x + x / 2 ^ (16 : Int).toNat) % 18446744073709551616
def oc6 (x : Nat) : Nat := (x + x / 2 ^ (32 : Int).toNat) % 18446744073709551616
def ocn (x : Nat) : Nat := oc6 (oc5 (oc4 (oc3 (oc2 (oc1 x)))))
theorem ocn_all : ((List.range 1024).all fun x => decide (ocn x < 1024) && decide (ocn x &&& (127 : Int).toNat = pcTo x 10)) = true := by kernel_rfl
theorem ocn_at {x : Nat} (h : x < 1024) : ocn x < 1024 ∧ ocn x &&& (127 : Int).toNat = pcTo x 10 := by
  have := List.all_eq_true.1 ocn_all x (List.mem_range.2 h)
  simpa only [Bool.and_eq_true, decide_eq_true_eq] using this
theorem OnesCount64_ac (x : Nat) (hx : x < 1024) : AC Tryd.prog 125 [.val (.int .u64 x)] [] (.val (.int .i64 (pcTo x 10 : Nat))) [] := by
  obtain ⟨h1, h2⟩ := ocn_at hx
  refine AC.mk (n := 35) (fn := Tryd.f125) Tryd.func125 (by kernel_rfl) rfl rfl rfl rfl (fun cx => ?_); dsimp only [argv, Nat.reduceAdd]
  (repeat' (first | refine a_seq ?_ | refine a_ret ?_ | refine a_region ?_ | refine l_nil ?_ | (apply w_q; (focus (first | exact Q_move (by conv => lhs; whnf) | exact Q_assign (by conv => lhs; whnf))); (focus exact rfl)) | (((first | apply w_q); (focus exact Q_ushrC rfl rfl (by omega)); (focus exact rfl))) | (((first | apply w_q); (focus exact Q_uandC rfl rfl (by omega)); (focus exact rfl))) | (((first | apply w_q); (focus exact Q_uadd rfl rfl); (focus exact rfl))) | (((first | apply w_q); (focus exact Q_conv (n := ((ocn x : Nat) : Int)) rfl Tryd.underlying161 Tryd.underlying3 (IntWalk.i64_in _ (by omega))); (focus exact rfl))) | (((first | apply w_q); (focus exact Q_andC rfl rfl (by omega) (by omega)); (focus exact rfl))))); (try all_goals (try show retA _ _ _ _ _ _ _))
  refine ⟨[_], [], ⟨resV_tmp (by conv => lhs; whnf), trivial⟩, VwOs.mk (by decide) trivial, ?_, rfl⟩
  rw [h2]
  (repeat' (first | exact vwR rfl))
theorem OnesCount_ac (x : Nat) (hx : x < 1024) : AC Tryd.prog 95 [.val (.int .u64 x)] [] (.val (.int .i64 (pcTo x 10 : Nat))) [] := by
  refine AC.mk (n := 8) (fn := Tryd.f95) Tryd.func95 (by kernel_rfl) rfl rfl rfl rfl (fun cx => ?_); dsimp only [argv, Nat.reduceAdd]
  (repeat' (first | refine a_seq ?_ | refine a_skip ?_ | refine a_ret ?_ | refine a_region ?_ | refine l_nil ?_ | (apply w_q; (focus (first | exact Q_move (by conv => lhs; whnf) | exact Q_assign (by conv => lhs; whnf))); (focus exact rfl)) | (refine a_cond rfl ?_ ?_ <;> (intro h; (try (have hp := of_decide_eq_true h)); (try (have hp := of_decide_eq_false h)); (try contradiction); (try (exfalso; omega)))) | (((first | apply w_q); (focus (refine Q_call (.inl ⟨rfl, rfl⟩) (OnesCount64_ac x hx) ?_; ((repeat' (first | exact vwRL rfl)); done))); (focus exact rfl))))); (try all_goals (try show retA _ _ _ _ _ _ _))
  refine ⟨[_], [], ⟨resV_tmp (by conv => lhs; whnf), trivial⟩, VwOs.mk (by decide) trivial, ?_, rfl⟩
  (repeat' (first | exact vwR rfl))
theorem pcTo_10 {x k : Nat} (hx : x < 2 ^ k) (hk : k ≤ 10) : pcTo x 10 = pcTo x k := by
  have := pcTo_stay (Nat.div_eq_of_lt hx) (10 - k)
  rwa [show k + (10 - k) = 10 by omega] at this
end Go.Proofs.YtgojkabjgagjcaaDoor
