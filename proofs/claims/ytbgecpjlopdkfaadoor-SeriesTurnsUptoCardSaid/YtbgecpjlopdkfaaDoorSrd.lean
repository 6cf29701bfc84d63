import Derived.Test.YtbgecpjlopdkfaaDoorKa
import Derived.Test.YtbgecpjlopdkfaaDoorGa
import Derived.Test.YtbgecpjlopdkfaaDoorEngZm
import Derived.Test.YtbgecpjlopdkfaaDoorEngZzh
set_option linter.unusedSimpArgs false
set_option linter.unusedVariables false
set_option linter.unusedSectionVars false
set_option maxRecDepth 20000
namespace Go.Proofs.YtbgecpjlopdkfaaDoor
attribute [local irreducible] QOp aL aC qL
def lowbS (x : Nat) : Nat := x &&& (1024 - x)
def lowkS (x : Nat) : Nat := ((List.range 10).find? x.testBit).getD 0
theorem low_allS : ((List.range 1024).all fun x => x == 0 || ((BitVec.ofInt 64 (x : Int) &&& BitVec.ofInt 64 (-(x : Int))).toNat == lowbS x && lowbS x == 2 ^ lowkS x && x.testBit (lowkS x) && (List.range (lowkS x)).all fun k => !x.testBit k)) = true := by kernel_rfl
theorem low_atS {x : Nat} (h : x < 1024) (h0 : 0 < x) : (BitVec.ofInt 64 (x : Int) &&& BitVec.ofInt 64 (-(x : Int))).toNat = lowbS x ∧ lowbS x = 2 ^ lowkS x ∧ x.testBit (lowkS x) = true ∧ ∀ k, k < lowkS x → x.testBit k = false := by
  have := List.all_eq_true.1 low_allS x (List.mem_range.2 h)
  rw [Bool.or_eq_true] at this
  rcases this with h1 | h1
  · rw [beq_iff_eq] at h1; omega
  · simp only [Bool.and_eq_true, beq_iff_eq, List.all_eq_true, List.mem_range, Bool.not_eq_true'] at h1
    exact ⟨h1.1.1.1, h1.1.1.2, h1.1.2, h1.2⟩
section
variable {P : Program} {st : St} {d : Option Tmp} {ty : TypeId} {pos : String} {af : Array Edge} {g : Option (Nat × Bool)}
theorem Q_lowbS {T T' : TypeId} {x y : Operand} {m : Nat} (hx : st.ev x = .val (.int .i64 (m : Int))) (hy : st.ev y = .val (.int .i64 (-(m : Int)))) (h1 : m < 1024) (h0 : 0 < m) : QOp P ⟨d, .binOp .and T x y T', ty, pos, af, g⟩ st (.val (.int .i64 (lowbS m : Nat))) := Q_bin hx hy fun w => by
  have hle : lowbS m ≤ m := Nat.and_le_left
  have hw : IntKind.i64.wrap ((lowbS m : Nat) : Int) = ((lowbS m : Nat) : Int) := IntWalk.i64_in _ (by omega)
  show Result.ok (Value.int .i64 (IntKind.i64.wrap ((BitVec.ofInt 64 (m : Int) &&& BitVec.ofInt 64 (-(m : Int))).toNat : Int))) w = _
  rw [(low_atS h1 h0).1, hw]
end

/-- What hangs together with a, within a set. -/
inductive RCh (R : Nat → Nat → Bool) (s a : Nat) : Nat → Prop where
  | refl : RCh R s a a
  | step {b c : Nat} (h : RCh R s a b) (hc : s.testBit c = true) (hr : R b c = true) : RCh R s a c
noncomputable def cmpR (R : Nat → Nat → Bool) (s : Nat) : Nat := bs (fun b => @decide (s.testBit b = true ∧ RCh R s (lowkS s) b) (Classical.propDecidable _)) 10
theorem cmpR_bit {R : Nat → Nat → Bool} {s b : Nat} : (cmpR R s).testBit b = true ↔ b < 10 ∧ s.testBit b = true ∧ RCh R s (lowkS s) b := by
  unfold cmpR
  rw [bs_bit, Bool.and_eq_true, decide_eq_true_eq]
  exact and_congr Iff.rfl (@decide_eq_true_iff _ (Classical.propDecidable _))
theorem cmpR_lt (R : Nat → Nat → Bool) (s : Nat) : cmpR R s < 1024 := bs_lt _ 10
/-- What is closed, has the least point and lies within, is it. -/
theorem cmpR_of {R : Nat → Nat → Bool} {s p : Nat} (hp : p < 1024) (hm : p.testBit (lowkS s) = true) (hin : ∀ b, p.testBit b = true → (cmpR R s).testBit b = true)
    (hcl : ∀ a b, p.testBit a = true → s.testBit b = true → p.testBit b = false → R a b = false) : p = cmpR R s := by
  apply Nat.eq_of_testBit_eq
  intro i
  cases hc : (cmpR R s).testBit i
  · cases hq : p.testBit i
    · rfl
    · rw [hin i hq] at hc; cases hc
  · have h := (cmpR_bit.1 hc).2.2
    clear hc
    induction h with
    | refl => exact hm
    | step h hc hr ih =>
      rename_i b c
      cases hq : p.testBit c
      · rw [hcl b c ih hc hq] at hr; cases hr
      · rfl
theorem bitS_lt {x i : Nat} (hx : x < 1024) (h : x.testBit i = true) : i < 10 := by
  apply Classical.byContradiction
  intro hn
  rw [Nat.testBit_lt_two_pow (Nat.lt_of_lt_of_le (show x < 2 ^ 10 from hx) (Nat.pow_le_pow_right (by decide) (by omega)))] at h
  cases h
noncomputable def pcsF (R : Nat → Nat → Bool) : Nat → Nat → List Nat
  | 0, _ => []
  | f + 1, s => if s = 0 then [] else cmpR R s :: pcsF R f (ndiff s (cmpR R s))
theorem ndiff_less {s c : Nat} (hin : ∀ i, c.testBit i = true → s.testBit i = true) {m : Nat} (hm : c.testBit m = true) : ndiff s c < s := by
  have h1 : ndiff s c ≤ s := by
    have : ndiff s c = ndiff s c &&& s := by
      apply Nat.eq_of_testBit_eq
      intro i
      rw [Nat.testBit_and, testBit_ndiff]
      cases s.testBit i <;> simp
    rw [this]; exact Nat.and_le_right
  have h2 : ndiff s c ≠ s := fun e => by
    have := testBit_ndiff s c m
    rw [e, hin m hm, hm] at this
    cases this
  omega
theorem mbsS_mem {s i : Nat} (hs : s < 1024) (hi : i < (mbs s).length) : s.testBit ((mbs s).getD i 0) = true ∧ (mbs s).getD i 0 < 10 := by
  have h1 : (mbs s).getD i 0 ∈ mbs s := by rw [List.getD_eq_getElem?_getD, List.getElem?_eq_getElem hi]; exact List.getElem_mem hi
  have h2 := (mbs_mem hs).1 h1
  exact ⟨h2, bitS_lt hs h2⟩
theorem mbsS_pos {s x : Nat} (hs : s < 1024) (h : s.testBit x = true) : ∃ i, i < (mbs s).length ∧ (mbs s).getD i 0 = x := by
  obtain ⟨i, hi, e⟩ := List.getElem_of_mem ((mbs_mem hs).2 h)
  exact ⟨i, hi, by rw [List.getD_eq_getElem?_getD, List.getElem?_eq_getElem hi]; exact e⟩
/-- What the rounds over two lists of points know. -/
structure Rnd (R : Nat → Nat → Bool) (s p0 p : Nat) (more : Bool) : Prop where
  lt : p < 1024
  up : ∀ b, p0.testBit b = true → p.testBit b = true
  inn : ∀ b, p.testBit b = true → (cmpR R s).testBit b = true
  yes : more = true → ∃ b, p.testBit b = true ∧ p0.testBit b = false
  no : more = false → p = p0
theorem Rnd.add {R : Nat → Nat → Bool} {s p0 p : Nat} {more : Bool} (h : Rnd R s p0 p more) {a b : Nat} (ha : p0.testBit a = true) (hb : b < 10) (hs : s.testBit b = true) (hp0 : p0.testBit b = false) (hr : R a b = true) : Rnd R s p0 (p ||| 2 ^ b) true := by
  refine ⟨Nat.or_lt_two_pow (show p < 2 ^ 10 from h.lt) (Nat.pow_lt_pow_right (by decide) hb), fun i hi => ?_, fun i hi => ?_, fun _ => ⟨b, ?_, hp0⟩, fun e => by cases e⟩
  · rw [Nat.testBit_or, h.up i hi]; rfl
  · rw [Nat.testBit_or, Bool.or_eq_true, Nat.testBit_two_pow, decide_eq_true_eq] at hi
    rcases hi with hi | rfl
    · exact h.inn i hi
    · have := cmpR_bit.1 (h.inn a (h.up a ha))
      exact cmpR_bit.2 ⟨hb, hs, .step this.2.2 hs hr⟩
  · rw [Nat.testBit_or, Nat.testBit_two_pow]; simp
def PiecesAC : Prop := True
set_option maxRecDepth 20000 in
set_option maxHeartbeats 4000000 in
theorem piecesR_ac (R : Nat → Nat → Bool) (g : FuncId) (D : List Dat) (s : Nat) (hs : s < 1024) (hR : ∀ a b, s.testBit a = true → s.testBit b = true → AC Tryd.prog g [.val (.int .i64 (a : Nat)), .val (.int .i64 (b : Nat)), .rpt D 0] [] (.val (.bool (R a b))) []) :
    AC Tryd.prog 102 [.val (.int .i64 (s : Nat)), .clo g [.rpt D 0]] [] (.own 0) [.row 3 1 (intc (nl (pcsF R 1024 s)))] := by
  refine AC.mk (n := 53) (fn := Tryd.f102) Tryd.func102 (by kernel_rfl) rfl rfl rfl rfl (fun cx => ?_); dsimp only [argv, Nat.reduceAdd]
  (repeat' (first | refine a_seq ?_ | refine a_block ?_ | refine a_region ?_ | refine l_nil ?_ | (apply w_q; (focus (first | exact Q_assign (by conv => lhs; whnf))); (focus exact rfl)))); (try all_goals (try show retA _ _ _ _ _ _ _))
  refine w_nilownC 5 3 1 rfl (by first|(dsimp only[obA,obB,obD,obE,obF,obG,obI,List.map,AO.sh,AV.sh,AV.shl,Nat.reduceAdd];done)|exact rfl) rfl ?_
  refine w_loop (X := Nat × List Nat × Nat) [1] (by simp only [keepv, getv_cons, Nat.reduceEqDiff, ↓reduceIte]; exact rfl) (fun x => [(0, .val (.int .i64 (x.1 : Nat))), (5, .own 0)]) (fun x => [.row 3 1 (intc (nl x.2.1))]) (fun x => x.2.1 ++ pcsF R x.2.2 x.1 = pcsF R 1024 s ∧ x.1 < 1024 ∧ x.1 < x.2.2 ∧ x.2.1.length + x.2.2 = 1024 ∧ ∀ b, x.1.testBit b = true → s.testBit b = true) (fun x => x.1) ((s, [], 1024)) ([0]) ?_ ?_ rfl ?_ <;> (try dsimp only [List.cons_append, List.nil_append])
  · exact ⟨rfl, hs, hs, rfl, fun _ h => h⟩
  · (refine St.le_mk rfl (VwOs.mk (by decide) ?_) ?_ <;> (repeat' (first | exact trivial | exact vwR rfl | exact Vw.own _ _ rfl | exact VwO.row _ _ _ | refine ⟨⟨_, rfl, ?_⟩, ?_⟩ | refine ⟨?_, ?_⟩ )))
  rintro ⟨u, out, f⟩ ⟨i1, i2, i3, i4, i5⟩
  dsimp only at i1 i2 i3 i4 i5 ⊢
  rcases f with _ | f
  · omega
  by_cases hu0 : u = 0
  · subst hu0
    have e0 : pcsF R (f + 1) 0 = [] := by unfold pcsF; rfl
    rw [e0, List.append_nil] at i1
    rw [← i1]
    (repeat' (first | refine a_seq ?_ | refine a_ret ?_ | refine a_exit ?_ | refine a_region ?_ | refine l_nil ?_ | (apply w_q; (focus (first | exact Q_move (by conv => lhs; whnf) | exact Q_assign (by conv => lhs; whnf) | exact Q_neq rfl rfl)); (focus exact rfl)) | (refine a_cond rfl ?_ ?_ <;> (intro h; (try (have hp := of_decide_eq_true h)); (try (have hp := of_decide_eq_false h)); (try contradiction); (try (exfalso; omega)))))); (try all_goals (try show retA _ _ _ _ _ _ _))
    all_goals first
      | (exfalso; omega)
      | (refine ⟨[_], [0], ⟨resV_tmp (by conv => lhs; whnf), trivial⟩, VwOs.mk (by decide) ⟨⟨_, rfl, .row _ _ _⟩, trivial⟩, ?_, rfl⟩; (repeat' (first | exact Vw.own _ _ rfl)); done)
      | (all_goals trace_state); fail
  have e1 : pcsF R (f + 1) u = cmpR R u :: pcsF R f (ndiff u (cmpR R u)) := by
    conv => lhs; unfold pcsF
    rw [if_neg hu0]
  rw [e1] at i1
  obtain ⟨_, l2, l3, l4⟩ := low_atS i2 (by omega)
  have lk : lowkS u < 10 := bitS_lt i2 l3
  have lc : (cmpR R u).testBit (lowkS u) = true := cmpR_bit.2 ⟨lk, l3, .refl⟩
  (repeat' (first | refine a_seq ?_ | refine a_block ?_ | refine a_skip ?_ | refine a_region ?_ | refine l_nil ?_ | (apply w_q; (focus (first | exact Q_move (by conv => lhs; whnf) | exact Q_assign (by conv => lhs; whnf) | exact Q_neq rfl rfl | exact Q_neg rfl (by omega))); (focus exact rfl)) | (refine a_cond rfl ?_ ?_ <;> (intro h; (try (have hp := of_decide_eq_true h)); (try (have hp := of_decide_eq_false h)); (try contradiction); (try (exfalso; omega)))) | (((first | apply w_q); (focus exact Q_lowbS rfl rfl (by omega) (by omega)); (focus exact rfl))))); (try all_goals (try show retA _ _ _ _ _ _ _))
  all_goals first
    | (exfalso; omega)
    | skip
  rw [l2]
  generalize hm : lowkS u = m at *
  refine w_loop (X := Nat × Bool) [0, 1, 5] (by simp only [keepv, getv_cons, Nat.reduceEqDiff, ↓reduceIte]; exact rfl) (fun x => [(6, .val (.int .i64 (x.1 : Nat))), (7, .val (.bool x.2))]) (fun x => [.row 3 1 (intc (nl out))]) (fun x => x.1 < 1024 ∧ x.1.testBit m = true ∧ (∀ b, x.1.testBit b = true → (cmpR R u).testBit b = true) ∧ (x.2 = false → ∀ a b, x.1.testBit a = true → u.testBit b = true → x.1.testBit b = false → R a b = false)) (fun x => 2 * (2048 - x.1) + x.2.toNat) ((2 ^ m, true)) ([0]) ?_ ?_ rfl ?_ <;> (try dsimp only [List.cons_append, List.nil_append])
  · refine ⟨Nat.pow_lt_pow_right (by decide) lk, by simp, fun b hb => ?_, fun e => by cases e⟩
    rw [Nat.testBit_two_pow, decide_eq_true_eq] at hb
    rw [← hb]; exact lc
  · (refine St.le_mk rfl (VwOs.mk (by decide) ?_) ?_ <;> (repeat' (first | exact trivial | exact vwR rfl | exact Vw.own _ _ rfl | exact VwO.row _ _ _ | refine ⟨⟨_, rfl, ?_⟩, ?_⟩ | refine ⟨?_, ?_⟩ )))
  rintro ⟨p0, more⟩ ⟨j1, j2, j3, j4⟩
  dsimp only at j1 j2 j3 j4 ⊢
  cases more
  · have ec := cmpR_of (R := R) (s := u) j1 (by rw [hm]; exact j2) j3 (j4 rfl)
    clear j4 hR
    have e2 : ((ndiff u p0 : Nat) : Int) = ((ndiff u p0 : Nat) : Int) := rfl
    have e3 : nl out ++ [((p0 : Nat) : Int)] = nl (out ++ [p0]) := by simp [nl]
    have e4 : (nl out).length = out.length := by simp [nl]
    (repeat' (first | refine a_seq ?_ | refine a_exit ?_ | refine a_region ?_ | refine l_nil ?_ | (apply w_q; (focus (first | exact Q_move (by conv => lhs; whnf) | exact Q_assign (by conv => lhs; whnf))); (focus exact rfl)) | (refine a_cond rfl ?_ ?_ <;> (intro h; (try (have hp := of_decide_eq_true h)); (try (have hp := of_decide_eq_false h)); (try contradiction); (try (exfalso; omega)))) | refine w_ap_nats rfl rfl rfl rfl KSl.h KMk.h (by simp; omega) (by first|(dsimp only[obA,obB,obD,obE,obF,obG,obI,List.map,AO.sh,AV.sh,AV.shl,Nat.reduceAdd];done)|exact rfl) (by first|(dsimp only[obA,obB,obD,obE,obF,obG,obI,List.map,AO.sh,AV.sh,AV.shl,Nat.reduceAdd];done)|exact rfl) rfl ?_ | refine w_lit_nat rfl KSl.h KMk.h (by first|(dsimp only[obA,obB,obD,obE,obF,obG,obI,List.map,AO.sh,AV.sh,AV.shl,Nat.reduceAdd];done)|exact rfl) (by first|(dsimp only[obA,obB,obD,obE,obF,obG,obI,List.map,AO.sh,AV.sh,AV.shl,Nat.reduceAdd];done)|exact rfl) rfl ?_ | (((first | apply w_q); (focus exact Q_andNotN rfl rfl (by omega) (by omega)); (focus exact rfl))))); (try all_goals (try show retA _ _ _ _ _ _ _))
    all_goals first
      | (exfalso; omega)
      | (try dsimp only [thenA, blockA]
         refine ⟨(ndiff u p0, out ++ [p0], f), [2], ?_, ?_, ?_, rfl⟩ <;> (try dsimp only)
         · have e5 : ndiff u p0 < u := ndiff_less (fun i hi => (cmpR_bit.1 (j3 i hi)).2.1) j2
           refine ⟨?_, by show ndiff u p0 < 1024; omega, by show ndiff u p0 < f; omega, ?_, fun b hb => i5 b ?_⟩
           · show (out ++ [p0]) ++ pcsF R f (ndiff u p0) = _
             rw [← i1, List.append_assoc, ← ec]; rfl
           · show (out ++ [p0]).length + f = 1024
             rw [List.length_append]; show out.length + 1 + f = 1024; omega
           · have hb2 : (ndiff u p0).testBit b = true := hb
             rw [testBit_ndiff, Bool.and_eq_true] at hb2
             exact hb2.1
         · exact ndiff_less (fun i hi => (cmpR_bit.1 (j3 i hi)).2.1) j2
         · (refine St.le_mk rfl (VwOs.mk (by decide) ?_) ?_ <;> (repeat' (first | exact trivial | exact vwR rfl | exact Vw.own _ _ rfl | exact VwO.row _ _ _ | refine ⟨⟨_, rfl, ?_⟩, ?_⟩ | refine ⟨?_, ?_⟩ ))))
      | (all_goals trace_state); fail
  · have hA := mbs_len p0
    have hAl : (nl (mbs p0)).length = (mbs p0).length := by simp [nl]
    have kA := Members_ac p0 j1
    (repeat' (first | refine a_seq ?_ | refine a_block ?_ | refine a_skip ?_ | refine a_region ?_ | refine l_nil ?_ | (apply w_q; (focus (first | exact Q_move (by conv => lhs; whnf) | exact Q_assign (by conv => lhs; whnf) | exact Q_len_nats rfl KSl.h)); (focus exact rfl)) | (refine a_cond rfl ?_ ?_ <;> (intro h; (try (have hp := of_decide_eq_true h)); (try (have hp := of_decide_eq_false h)); (try contradiction); (try (exfalso; omega)))) | ((refine w_callV (.inl ⟨rfl, rfl⟩) (kA) ?_ (by first | (dsimp only [AV.sh, AV.shl, sh_ints, sh_rows, sh_pairs, sh_ords]; done) | exact rfl) rfl ?_; rotate_left 0; (focus ((repeat' (first | exact trivial | exact Vs.val _ | refine ⟨?_, ?_⟩)); done)); rotate_left 1; all_goals (try (skip)))))); (try all_goals (try show retA _ _ _ _ _ _ _))
    all_goals first
      | (exfalso; omega)
      | skip
    refine w_loop (X := Nat × Nat × Bool) [0, 1, 5, 20, 21] (by simp only [keepv, getv_cons, Nat.reduceEqDiff, ↓reduceIte]; exact rfl) (fun x => [(6, .val (.int .i64 (x.2.1 : Nat))), (7, .val (.bool x.2.2)), (22, .val (.int .i64 (x.1 : Nat)))]) (fun x => [.row 3 1 (intc (nl out))]) (fun x => x.1 ≤ (mbs p0).length ∧ Rnd R u p0 x.2.1 x.2.2 ∧ (x.2.2 = false → ∀ i, i < x.1 → ∀ b, u.testBit b = true → p0.testBit b = false → R ((mbs p0).getD i 0) b = false)) (fun x => (mbs p0).length - x.1) ((0, p0, false)) ([0]) ?_ ?_ rfl ?_ <;> (try dsimp only [List.cons_append, List.nil_append])
    · exact ⟨Nat.zero_le _, ⟨j1, fun _ h => h, j3, (fun e => by cases e), fun _ => rfl⟩, fun _ i hi => absurd hi (Nat.not_lt_zero _)⟩
    · (refine St.le_mk rfl (VwOs.mk (by decide) ?_) ?_ <;> (repeat' (first | exact trivial | exact vwR rfl | exact Vw.ro _ | exact Vw.own _ _ rfl | exact VwO.row _ _ _ | refine ⟨⟨_, rfl, ?_⟩, ?_⟩ | refine ⟨?_, ?_⟩ )))
    rintro ⟨i, p, mo⟩ ⟨k1, k2, k3⟩
    dsimp only at k1 k2 k3 ⊢
    by_cases hil : i < (mbs p0).length
    · obtain ⟨ha1, ha2⟩ := mbsS_mem j1 hil
      have hlt := k2.lt
      have hnd : ndiff u p < 1024 := ndiff_lt (k := 10) i2
      have hB := mbs_len (ndiff u p)
      have hBl : (nl (mbs (ndiff u p))).length = (mbs (ndiff u p)).length := by simp [nl]
      have hnl : (nl (mbs p0)).getD i 0 = (((mbs p0).getD i 0 : Nat) : Int) := by rw [nl_get]
      have kB := Members_ac (ndiff u p) hnd
      (repeat' (first | refine a_seq ?_ | refine a_block ?_ | refine a_skip ?_ | refine a_region ?_ | refine l_nil ?_ | (apply w_q; (focus (first | exact Q_move (by conv => lhs; whnf) | exact Q_assign (by conv => lhs; whnf) | exact Q_lss rfl rfl | exact Q_ix_nats rfl rfl rfl KSl.h (by omega) | exact Q_ld_nats rfl (by omega) KSc.h | exact Q_len_nats rfl KSl.h)); (focus exact rfl)) | (refine a_cond rfl ?_ ?_ <;> (intro h; (try (have hp := of_decide_eq_true h)); (try (have hp := of_decide_eq_false h)); (try contradiction); (try (exfalso; omega)))) | (((first | apply w_q); (focus exact Q_andNotN rfl rfl (by omega) (by omega)); (focus exact rfl))) | ((refine w_callV (.inl ⟨rfl, rfl⟩) (kB) ?_ (by first | (dsimp only [AV.sh, AV.shl, sh_ints, sh_rows, sh_pairs, sh_ords]; done) | exact rfl) rfl ?_; rotate_left 0; (focus ((repeat' (first | exact trivial | exact Vs.val _ | refine ⟨?_, ?_⟩)); done)); rotate_left 1; all_goals (try (skip)))))); (try all_goals (try show retA _ _ _ _ _ _ _))
      all_goals first
        | (exfalso; omega)
        | skip
      try rw [hnl]
      generalize ha : (mbs p0).getD i 0 = a at *
      clear kA kB hnl
      refine w_loop (X := Nat × Nat × Bool) [0, 1, 5, 9, 20, 21, 22, 29, 30] (by simp only [keepv, getv_cons, Nat.reduceEqDiff, ↓reduceIte]; exact rfl) (fun x => [(6, .val (.int .i64 (x.2.1 : Nat))), (7, .val (.bool x.2.2)), (31, .val (.int .i64 (x.1 : Nat)))]) (fun x => [.row 3 1 (intc (nl out))]) (fun x => x.1 ≤ (mbs (ndiff u p)).length ∧ Rnd R u p0 x.2.1 x.2.2 ∧ (x.2.2 = false → mo = false ∧ ∀ j, j < x.1 → R a ((mbs (ndiff u p)).getD j 0) = false)) (fun x => (mbs (ndiff u p)).length - x.1) ((0, p, mo)) ([0]) ?_ ?_ rfl ?_ <;> (try dsimp only [List.cons_append, List.nil_append])
      · exact ⟨Nat.zero_le _, k2, fun e => ⟨e, fun j hj => absurd hj (Nat.not_lt_zero _)⟩⟩
      · (refine St.le_mk rfl (VwOs.mk (by decide) ?_) ?_ <;> (repeat' (first | exact trivial | exact vwR rfl | exact Vw.ro _ | exact Vw.own _ _ rfl | exact VwO.row _ _ _ | refine ⟨⟨_, rfl, ?_⟩, ?_⟩ | refine ⟨?_, ?_⟩ )))
      rintro ⟨j, p', mo'⟩ ⟨n1, n2, n3⟩
      dsimp only at n1 n2 n3 ⊢
      by_cases hjl : j < (mbs (ndiff u p)).length
      · obtain ⟨hb1, hb2⟩ := mbsS_mem hnd hjl
        have hlt' := n2.lt
        have hnlB : (nl (mbs (ndiff u p))).getD j 0 = (((mbs (ndiff u p)).getD j 0 : Nat) : Int) := by rw [nl_get]
        rw [testBit_ndiff, Bool.and_eq_true, Bool.not_eq_true'] at hb1
        have call := hR a ((mbs (ndiff u p)).getD j 0) (i5 a (cmpR_bit.1 (j3 a ha1)).2.1) (i5 _ hb1.1)
        have hb0 : p0.testBit ((mbs (ndiff u p)).getD j 0) = false := by
          cases hq : p0.testBit ((mbs (ndiff u p)).getD j 0)
          · rfl
          · have := k2.up _ hq
            rw [hb1.2] at this; cases this
        have hp2 : 2 ^ ((mbs (ndiff u p)).getD j 0) ≤ 2 ^ 10 := Nat.pow_le_pow_right (by decide) (by omega)
        rcases Bool.eq_false_or_eq_true (R a ((mbs (ndiff u p)).getD j 0)) with hr | hr
        · rw [hr] at call
          have n4 := n2.add ha1 hb2 hb1.1 hb0 hr
          (repeat' (first | refine a_seq ?_ | refine a_block ?_ | refine a_skip ?_ | refine a_region ?_ | refine l_nil ?_ | (apply w_q; (focus (first | exact Q_move (by conv => lhs; whnf) | exact Q_assign (by conv => lhs; whnf) | exact Q_lss rfl rfl | exact Q_add rfl rfl (by omega) | exact Q_bit rfl rfl (by omega) | exact Q_ix_nats rfl rfl rfl KSl.h (by omega) | exact Q_ld_nats rfl (by omega) KSc.h)); (focus exact rfl)) | (refine a_cond rfl ?_ ?_ <;> (intro h; (try (have hp := of_decide_eq_true h)); (try (have hp := of_decide_eq_false h)); (try contradiction); (try (exfalso; omega)))) | (((first | apply w_q); (focus (refine Q_call (by exact callee_of (isFn_clo _ _) rfl) (call) ?_; ((repeat' (first | exact vwRL rfl)); done))); (focus exact rfl))) | (((first | apply w_q); (focus exact Q_orN rfl rfl (by omega) (by omega)); (focus exact rfl))))); (try all_goals (try show retA _ _ _ _ _ _ _))
          all_goals first
            | (exfalso; omega)
            | (try dsimp only [thenA, blockA]
               refine ⟨(j + 1, p' ||| 2 ^ ((mbs (ndiff u p)).getD j 0), true), [0], ?_, ?_, ?_, rfl⟩ <;> (try dsimp only)
               · exact ⟨by show j + 1 ≤ _; omega, n4, fun e => by cases e⟩
               · show (mbs (ndiff u p)).length - (j + 1) < (mbs (ndiff u p)).length - j; omega
               · (refine St.le_mk rfl (VwOs.mk (by decide) ?_) ?_ <;> (repeat' (first | exact trivial | exact vwR rfl | exact Vw.ro _ | exact Vw.own _ _ rfl | exact VwO.row _ _ _ | refine ⟨⟨_, rfl, ?_⟩, ?_⟩ | refine ⟨?_, ?_⟩ ))))
            | (all_goals trace_state); fail
        · rw [hr] at call
          (repeat' (first | refine a_seq ?_ | refine a_block ?_ | refine a_skip ?_ | refine a_region ?_ | refine l_nil ?_ | (apply w_q; (focus (first | exact Q_move (by conv => lhs; whnf) | exact Q_assign (by conv => lhs; whnf) | exact Q_lss rfl rfl | exact Q_add rfl rfl (by omega) | exact Q_ix_nats rfl rfl rfl KSl.h (by omega) | exact Q_ld_nats rfl (by omega) KSc.h)); (focus exact rfl)) | (refine a_cond rfl ?_ ?_ <;> (intro h; (try (have hp := of_decide_eq_true h)); (try (have hp := of_decide_eq_false h)); (try contradiction); (try (exfalso; omega)))) | (((first | apply w_q); (focus (refine Q_call (by exact callee_of (isFn_clo _ _) rfl) (call) ?_; ((repeat' (first | exact vwRL rfl)); done))); (focus exact rfl))))); (try all_goals (try show retA _ _ _ _ _ _ _))
          all_goals first
            | (exfalso; omega)
            | (try dsimp only [thenA, blockA]
               refine ⟨(j + 1, p', mo'), [0], ?_, ?_, ?_, rfl⟩ <;> (try dsimp only)
               · refine ⟨by show j + 1 ≤ _; omega, n2, fun e => ⟨(n3 e).1, fun j2 hj2 => ?_⟩⟩
                 by_cases hq : j2 = j
                 · subst hq; exact hr
                 · exact (n3 e).2 j2 (by have : j2 < j + 1 := hj2; omega)
               · show (mbs (ndiff u p)).length - (j + 1) < (mbs (ndiff u p)).length - j; omega
               · (refine St.le_mk rfl (VwOs.mk (by decide) ?_) ?_ <;> (repeat' (first | exact trivial | exact vwR rfl | exact Vw.ro _ | exact Vw.own _ _ rfl | exact VwO.row _ _ _ | refine ⟨⟨_, rfl, ?_⟩, ?_⟩ | refine ⟨?_, ?_⟩ ))))
            | (all_goals trace_state); fail
      · (repeat' (first | refine a_seq ?_ | refine a_exit ?_ | refine a_region ?_ | refine l_nil ?_ | (apply w_q; (focus (first | exact Q_move (by conv => lhs; whnf) | exact Q_lss rfl rfl | exact Q_add rfl rfl (by omega))); (focus exact rfl)) | (refine a_cond rfl ?_ ?_ <;> (intro h; (try (have hp := of_decide_eq_true h)); (try (have hp := of_decide_eq_false h)); (try contradiction); (try (exfalso; omega)))))); (try all_goals (try show retA _ _ _ _ _ _ _))
        all_goals first
          | (exfalso; omega)
          | (try dsimp only [thenA, blockA]
             refine ⟨(i + 1, p', mo'), [0], ?_, ?_, ?_, rfl⟩ <;> (try dsimp only)
             · refine ⟨by show i + 1 ≤ _; omega, n2, fun e i2 hi2 b hbu hb0 => ?_⟩
               obtain ⟨q1, q2⟩ := n3 e
               have ep : p = p0 := k2.no q1
               by_cases hq : i2 = i
               · subst hq
                 rw [ha]
                 obtain ⟨j2, hj2, e2⟩ := mbsS_pos hnd (show (ndiff u p).testBit b = true by rw [testBit_ndiff, hbu, ep, hb0]; rfl)
                 rw [← e2]
                 exact q2 j2 (by omega)
               · exact k3 q1 i2 (by have : i2 < i + 1 := hi2; omega) b hbu hb0
             · show (mbs p0).length - (i + 1) < (mbs p0).length - i; omega
             · (refine St.le_mk rfl (VwOs.mk (by decide) ?_) ?_ <;> (repeat' (first | exact trivial | exact vwR rfl | exact Vw.ro _ | exact Vw.own _ _ rfl | exact VwO.row _ _ _ | refine ⟨⟨_, rfl, ?_⟩, ?_⟩ | refine ⟨?_, ?_⟩ ))))
          | (all_goals trace_state); fail
    · (repeat' (first | refine a_seq ?_ | refine a_exit ?_ | refine a_region ?_ | refine l_nil ?_ | (apply w_q; (focus (first | exact Q_lss rfl rfl)); (focus exact rfl)) | (refine a_cond rfl ?_ ?_ <;> (intro h; (try (have hp := of_decide_eq_true h)); (try (have hp := of_decide_eq_false h)); (try contradiction); (try (exfalso; omega)))))); (try all_goals (try show retA _ _ _ _ _ _ _))
      all_goals first
        | (exfalso; omega)
        | (try dsimp only [thenA, blockA]
           refine ⟨(p, mo), [0], ?_, ?_, ?_, rfl⟩ <;> (try dsimp only)
           · refine ⟨k2.lt, k2.up m j2, k2.inn, fun e a b ha hb hnb => ?_⟩
             have ep : p = p0 := k2.no e
             subst ep
             obtain ⟨i2, hi2, e2⟩ := mbsS_pos j1 ha
             rw [← e2]
             exact k3 e i2 (by omega) b hb hnb
           · show 2 * (2048 - p) + mo.toNat < 2 * (2048 - p0) + true.toNat
             cases mo
             · have := k2.no rfl
               subst this
               show 2 * (2048 - p) + 0 < 2 * (2048 - p) + 1
               omega
             · obtain ⟨b, hb1, hb2⟩ := k2.yes rfl
               have h1 : p0 ≤ p := by
                 have : p0 = p0 &&& p := by
                   apply Nat.eq_of_testBit_eq
                   intro x
                   rw [Nat.testBit_and]
                   cases hx : p0.testBit x
                   · rfl
                   · rw [k2.up x hx]; rfl
                 rw [this]; exact Nat.and_le_right
               have h2 : p0 ≠ p := fun e => by rw [e, hb1] at hb2; cases hb2
               have h3 := k2.lt
               show 2 * (2048 - p) + 1 < 2 * (2048 - p0) + 1
               omega
           · (refine St.le_mk rfl (VwOs.mk (by decide) ?_) ?_ <;> (repeat' (first | exact trivial | exact vwR rfl | exact Vw.own _ _ rfl | exact VwO.row _ _ _ | refine ⟨⟨_, rfl, ?_⟩, ?_⟩ | refine ⟨?_, ?_⟩ ))))
        | (all_goals trace_state); fail
end Go.Proofs.YtbgecpjlopdkfaaDoor
