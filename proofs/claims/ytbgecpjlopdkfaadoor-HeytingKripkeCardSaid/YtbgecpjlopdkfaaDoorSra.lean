import Derived.Test.YtbgecpjlopdkfaaDoorTypes
import Derived.Test.YtbgecpjlopdkfaaDoorEngT
set_option linter.unusedSimpArgs false
set_option linter.unusedVariables false
set_option linter.unusedSectionVars false
set_option maxRecDepth 20000
namespace Go.Proofs.YtbgecpjlopdkfaaDoor
attribute [local irreducible] QOp aL aC qL
theorem bit_dec (x a : Nat) : decide (((x / 2 ^ a % 2 : Nat) : Int) = 1) = x.testBit a := by
  rw [Nat.testBit_eq_decide_div_mod_eq]
  congr 1
  apply propext
  omega

theorem Lower_ac (N : Int) (l : List Nat) (a b : Nat) (hb : b < l.length) (ha : a < 64) :
    AC Tryd.prog 99 [.agg [.val (.int .i64 N), ints (nl l)], .val (.int .i64 a), .val (.int .i64 b)] [] (.val (.bool ((l.getD b 0).testBit a))) [] := by
  refine AC.mk (n := 16) (fn := Tryd.f99) Tryd.func99 (by kernel_rfl) rfl rfl rfl rfl (fun cx => ?_); dsimp only [argv, Nat.reduceAdd]
  (repeat' (first | refine a_seq ?_ | refine a_ret ?_ | refine a_region ?_ | refine l_nil ?_ | (apply w_q; (focus (first | exact Q_move (by conv => lhs; whnf) | exact Q_assign (by conv => lhs; whnf) | exact Q_fieldAddr_ptr rfl KFl.h | exact Q_load_ptr rfl rfl rfl KSc.h | exact Q_eql rfl rfl | exact Q_shrN rfl rfl (by omega) | exact Q_and1 rfl rfl | exact Q_ix_nats rfl rfl rfl KSl.h (by omega) | exact Q_ld_nats rfl (by omega) KSc.h)); (focus exact rfl)) | refine w_box rfl rfl (by first|(dsimp only[obA,obB,obD,obE,obF,obG,obI,List.map,AO.sh,AV.sh,AV.shl,Nat.reduceAdd];done)|exact rfl) (by first|(dsimp only[obA,obB,obD,obE,obF,obG,obI,List.map,AO.sh,AV.sh,AV.shl,Nat.reduceAdd];done)|exact rfl) rfl ?_)); (try all_goals (try show retA _ _ _ _ _ _ _))
  refine ⟨[_], [], ⟨resV_tmp (by conv => lhs; whnf), trivial⟩, VwOs.mk (by decide) trivial, ?_, rfl⟩
  exact Vw.bool' (bit_dec _ _)

theorem half_pow (s j : Nat) : s / 2 ^ j / 2 = s / 2 ^ (j + 1) := by
  rw [Nat.div_div_eq_div_mul, Nat.pow_succ]

theorem In_ac (s i : Nat) (hs : s ≤ 9223372036854775807) (hi : i ≤ 9223372036854775807) : AC Tryd.prog 51 [.val (.int .i64 s), .val (.int .i64 i)] [] (.val (.bool (s.testBit i))) [] := by
  refine AC.mk (n := 14) (fn := Tryd.f51) Tryd.func51 (by kernel_rfl) rfl rfl rfl rfl (fun cx => ?_); dsimp only [argv, Nat.reduceAdd]
  (repeat' (first | refine a_seq ?_ | refine a_block ?_ | refine a_region ?_ | refine l_nil ?_ | (apply w_q; (focus (first | exact Q_assign (by conv => lhs; whnf))); (focus exact rfl)))); (try all_goals (try show retA _ _ _ _ _ _ _))
  refine a_loop (X := Nat) (fun j => ⟨14, [(0, .val (.int .i64 ((s / 2 ^ j : Nat) : Int))), (1, .val (.int .i64 ((i - j : Nat) : Int)))], []⟩) (fun j => j ≤ i) (fun j => i - j) 0 [] (Nat.zero_le _) ?_ rfl ?_
  · (refine St.le_mk rfl (VwOs.mk (by decide) ?_) ?_ <;> (repeat' (first | exact trivial | exact vwR rfl | (refine Vw.int' ?_; first | rfl | omega | (simp; done)) | refine ⟨?_, ?_⟩ )))
  · intro j hj
    have hq : s / 2 ^ j ≤ 9223372036854775807 := Nat.le_trans (Nat.div_le_self _ _) hs
    (repeat' (first | refine a_seq ?_ | refine a_block ?_ | refine a_skip ?_ | refine a_ret ?_ | refine a_exit ?_ | refine a_region ?_ | refine l_nil ?_ | (apply w_q; (focus (first | exact Q_move (by conv => lhs; whnf) | exact Q_assign (by conv => lhs; whnf) | exact Q_gtr rfl rfl | exact Q_eql rfl rfl | exact Q_rem2 rfl rfl | exact Q_sub rfl rfl (by omega))); (focus exact rfl)) | (refine a_cond rfl ?_ ?_ <;> (intro h; (try (have hp := of_decide_eq_true h)); (try (have hp := of_decide_eq_false h)); (try contradiction); (try (exfalso; omega)))) | (((first | apply w_q); (focus exact Q_quo2 rfl rfl hq); (focus exact rfl))))); (try all_goals (try show retA _ _ _ _ _ _ _))
    · refine ⟨j + 1, [], ?_, ?_, ?_, rfl⟩ <;> (try dsimp only)
      · omega
      · omega
      · rw [half_pow]
        (refine St.le_mk rfl (VwOs.mk (by decide) ?_) ?_ <;> (repeat' (first | exact trivial | exact vwR rfl | (refine Vw.int' ?_; first | rfl | omega | (simp; done)) | refine ⟨?_, ?_⟩ )))
    · refine ⟨[_], [], ⟨resV_tmp (by conv => lhs; whnf), trivial⟩, VwOs.mk (by decide) trivial, ?_, rfl⟩
      have : i = j := by omega
      subst this
      exact Vw.bool' (bit_dec _ _)

theorem Less_ac (N : Int) (l : List Nat) (a b : Nat) (hb : b < l.length) (ha : a ≤ 9223372036854775807) (hl : ∀ x ∈ l, x ≤ 9223372036854775807) :
    AC Tryd.prog 55 [.agg [.val (.int .i64 N), ints (nl l)], .val (.int .i64 a), .val (.int .i64 b)] [] (.val (.bool ((l.getD b 0).testBit a))) [] := by
  have hx : l.getD b 0 ≤ 9223372036854775807 := hl _ (by rw [List.getD_eq_getElem?_getD, List.getElem?_eq_getElem hb]; exact List.getElem_mem _)
  refine AC.mk (n := 14) (fn := Tryd.f55) Tryd.func55 (by kernel_rfl) rfl rfl rfl rfl (fun cx => ?_); dsimp only [argv, Nat.reduceAdd]
  (repeat' (first | refine a_seq ?_ | refine a_ret ?_ | refine a_region ?_ | refine l_nil ?_ | (apply w_q; (focus (first | exact Q_move (by conv => lhs; whnf) | exact Q_assign (by conv => lhs; whnf) | exact Q_fieldAddr_ptr rfl KFl.h | exact Q_load_ptr rfl rfl rfl KSc.h | exact Q_ix_nats rfl rfl rfl KSl.h (by omega) | exact Q_ld_nats rfl (by omega) KSc.h)); (focus exact rfl)) | refine w_box rfl rfl (by first|(dsimp only[obA,obB,obD,obE,obF,obG,obI,List.map,AO.sh,AV.sh,AV.shl,Nat.reduceAdd];done)|exact rfl) (by first|(dsimp only[obA,obB,obD,obE,obF,obG,obI,List.map,AO.sh,AV.sh,AV.shl,Nat.reduceAdd];done)|exact rfl) rfl ?_ | (((first | apply w_q); (focus (refine Q_call (.inl ⟨rfl, rfl⟩) (In_ac _ _ hx ha) ?_; ((repeat' (first | exact vwRL rfl)); done))); (focus exact rfl))))); (try all_goals (try show retA _ _ _ _ _ _ _))
  refine ⟨[_], [], ⟨resV_tmp (by conv => lhs; whnf), trivial⟩, VwOs.mk (by decide) trivial, ?_, rfl⟩
  exact Vw.val _

theorem Bit_ac (i : Nat) (h : i < 62) : AC Tryd.prog 54 [.val (.int .i64 i)] [] (.val (.int .i64 ((2 ^ i : Nat) : Int))) [] := by
  refine AC.mk (n := 11) (fn := Tryd.f54) Tryd.func54 (by kernel_rfl) rfl rfl rfl rfl (fun cx => ?_); dsimp only [argv, Nat.reduceAdd]
  (repeat' (first | refine a_seq ?_ | refine a_block ?_ | refine a_region ?_ | refine l_nil ?_ | (apply w_q; (focus (first | exact Q_assign (by conv => lhs; whnf))); (focus exact rfl)))); (try all_goals (try show retA _ _ _ _ _ _ _))
  refine a_loop (X := Nat) (fun j => ⟨11, [(0, .val (.int .i64 ((i - j : Nat) : Int))), (3, .val (.int .i64 ((2 ^ j : Nat) : Int)))], []⟩) (fun j => j ≤ i) (fun j => i - j) 0 [] (Nat.zero_le _) ?_ rfl ?_
  · (refine St.le_mk rfl (VwOs.mk (by decide) ?_) ?_ <;> (repeat' (first | exact trivial | exact vwR rfl | refine ⟨?_, ?_⟩ )))
  · intro j hj
    have hq : 2 ^ j ≤ 2 ^ 61 := Nat.pow_le_pow_right (by decide) (by omega)
    (repeat' (first | refine a_seq ?_ | refine a_block ?_ | refine a_skip ?_ | refine a_ret ?_ | refine a_exit ?_ | refine a_region ?_ | refine l_nil ?_ | (apply w_q; (focus (first | exact Q_move (by conv => lhs; whnf) | exact Q_assign (by conv => lhs; whnf) | exact Q_gtr rfl rfl | exact Q_sub rfl rfl (by omega))); (focus exact rfl)) | (refine a_cond rfl ?_ ?_ <;> (intro h; (try (have hp := of_decide_eq_true h)); (try (have hp := of_decide_eq_false h)); (try contradiction); (try (exfalso; omega)))) | (((first | apply w_q); (focus exact Q_mul rfl rfl (by generalize 2 ^ j = q at *; omega)); (focus exact rfl))))); (try all_goals (try show retA _ _ _ _ _ _ _))
    · refine ⟨j + 1, [], ?_, ?_, ?_, rfl⟩ <;> (try dsimp only)
      · omega
      · omega
      · rw [Nat.pow_succ]
        (refine St.le_mk rfl (VwOs.mk (by decide) ?_) ?_ <;> (repeat' (first | exact trivial | exact vwR rfl | (refine Vw.int' ?_; first | rfl | omega | (simp; done)) | refine ⟨?_, ?_⟩ )))
    · refine ⟨[_], [], ⟨resV_tmp (by conv => lhs; whnf), trivial⟩, VwOs.mk (by decide) trivial, ?_, rfl⟩
      have : i = j := by omega
      subst this
      exact Vw.val _
theorem ndiff_zero {a b : Nat} : ndiff a b = 0 ↔ ∀ i, a.testBit i = true → b.testBit i = true := by
  constructor
  · intro h i hi
    have h1 := testBit_ndiff a b i
    rw [h, Nat.zero_testBit, hi] at h1
    cases hb : b.testBit i
    · rw [hb] at h1; cases h1
    · rfl
  · intro h
    apply Nat.eq_of_testBit_eq
    intro i
    rw [testBit_ndiff, Nat.zero_testBit]
    cases ha : a.testBit i
    · rfl
    · rw [h i ha]; rfl

end Go.Proofs.YtbgecpjlopdkfaaDoor
set_option linter.unusedSimpArgs false
set_option linter.unusedVariables false
set_option linter.unusedSectionVars false
set_option maxRecDepth 20000
namespace Go.Proofs.YtbgecpjlopdkfaaDoor
attribute [local irreducible] QOp aL aC qL
inductive Tr where
  | mk (kind point : Int) (kids : List Tr)
mutual
/-- The cells of a term. -/
def Tr.dc : Tr → List Dat
  | .mk k p l => [.val (.int .i64 k), .val (.int .i64 p), .sl 3 (kdc l)]
def kdc : List Tr → List Dat
  | [] => []
  | t :: r => t.dc ++ kdc r
end
def tv (t : Tr) : AV := .agg (t.dc.map ofD)
def tks (l : List Tr) : AV := .ro (.sl 3 (kdc l))
theorem dc_len : ∀ t : Tr, t.dc.length = 3
  | .mk _ _ _ => by unfold Tr.dc; rfl
theorem kdc_len : ∀ l : List Tr, (kdc l).length = l.length * 3
  | [] => by unfold kdc; rfl
  | t :: r => by unfold kdc; rw [List.length_append, dc_len, kdc_len r, List.length_cons]; omega
theorem kdc_get : ∀ {l : List Tr} {o : Nat} (h : o < l.length) (j : Nat), j < 3 → (kdc l)[o * 3 + j]? = (l[o]).dc[j]?
  | t :: r, 0, h, j, hj => by
    unfold kdc
    rw [List.getElem?_append_left (by rw [dc_len]; omega), Nat.zero_mul, Nat.zero_add]; rfl
  | t :: r, o + 1, h, j, hj => by
    unfold kdc
    rw [List.getElem?_append_right (by rw [dc_len]; omega), dc_len, show (o + 1) * 3 + j - 3 = o * 3 + j by omega, kdc_get (l := r) (by simpa using h) j hj]
    rfl
section
variable {P : Program} {st : St} {d : Option Tmp} {ty : TypeId} {pos : String} {af : Array Edge} {g : Option (Nat × Bool)}
theorem Q_len_kid {x : Operand} {T e : TypeId} {l : List Tr} (hx : st.ev x = tks l) (ht : SlT P T e 3) : QOp P ⟨d, .call ⟨.builtin .len, #[x], #[T]⟩, ty, pos, af, g⟩ st (.val (.int .i64 (l.length : Int))) :=
  Q_len_ro rfl hx rfl ht (kdc_len l) (by decide)
theorem Q_ix_kid {x ix : Operand} {T e : TypeId} {l : List Tr} {i : Int} {o : Nat} (hx : st.ev x = tks l) (hi : st.ev ix = .val (.int .i64 i)) (ho : i = (o : Int)) (ht : SlT P T e 3) (h : o < l.length) :
    QOp P ⟨d, .indexAddr T x ix, ty, pos, af, g⟩ st (.rpt (kdc l) (o * 3)) := by
  have := Q_index_ro (P := P) (d := d) (ty := ty) (pos := pos) (af := af) (g := g) (x := x) (ix := ix) hx hi ht (kdc_len l) (by decide) ⟨by omega, by omega⟩
  rw [show i.toNat * 3 = o * 3 by omega] at this
  exact this
theorem Q_ld_kid {x : Operand} {T : TypeId} {l : List Tr} {o : Nat} {k p : Int} {r : List Tr} (hx : st.ev x = .rpt (kdc l) (o * 3)) (h : o < l.length) (he : l[o] = .mk k p r) (ht : AgT P T 3) : QOp P ⟨d, .load T x, ty, pos, af, g⟩ st (.agg [.val (.int .i64 k), .val (.int .i64 p), tks r]) := by
  have := Q_load_rpt_agg (P := P) (d := d) (ty := ty) (pos := pos) (af := af) (g := g) (x := x) (st := st) (T := T) (ds := (l[o]).dc) hx (fun j dt hj => by
    have hj3 : j < 3 := by have := (List.getElem?_eq_some_iff.1 hj).1; rw [dc_len] at this; exact this
    rw [kdc_get h j hj3]; exact hj) (dc_len _) ht
  rw [he] at this
  have e : (Tr.mk k p r).dc.map ofD = [.val (.int .i64 k), .val (.int .i64 p), tks r] := by unfold Tr.dc tks; rfl
  rwa [e] at this
end
mutual
/-- How many terms. -/
def Tr.cnt : Tr → Nat
  | .mk _ _ l => 1 + kcnt l
def kcnt : List Tr → Nat
  | [] => 0
  | t :: r => t.cnt + kcnt r
end
mutual
/-- The points, from the left. -/
def Tr.pts : Tr → List Int
  | .mk k p l => if k = 1 then [p] else kpts l
def kpts : List Tr → List Int
  | [] => []
  | t :: r => t.pts ++ kpts r
end
mutual
def Tr.dep : Tr → Nat
  | .mk _ _ l => 1 + kdep l
def kdep : List Tr → Nat
  | [] => 0
  | t :: r => max t.dep (kdep r)
end
theorem dep_kid : ∀ {l : List Tr} {o : Nat} (h : o < l.length), (l[o]).dep ≤ kdep l
  | t :: r, 0, h => by show t.dep ≤ kdep (t :: r); unfold kdep; omega
  | t :: r, o + 1, h => by
    have := dep_kid (l := r) (o := o) (by simpa using h)
    show (r[o]'(by simpa using h)).dep ≤ kdep (t :: r)
    unfold kdep; omega
theorem kcnt_take : ∀ {l : List Tr} {o : Nat} (h : o < l.length), kcnt (l.take (o + 1)) = kcnt (l.take o) + (l[o]).cnt
  | t :: r, 0, h => by show kcnt [t] = 0 + t.cnt; unfold kcnt kcnt; omega
  | t :: r, o + 1, h => by
    have := kcnt_take (l := r) (o := o) (by simpa using h)
    show kcnt (t :: r.take (o + 1)) = kcnt (t :: r.take o) + (r[o]'(by simpa using h)).cnt
    unfold kcnt; omega
theorem kcnt_mono : ∀ (l : List Tr) (o : Nat), kcnt (l.take o) ≤ kcnt l
  | [], o => by simp
  | t :: r, 0 => by show kcnt [] ≤ _; unfold kcnt; omega
  | t :: r, o + 1 => by
    have := kcnt_mono r o
    show kcnt (t :: r.take o) ≤ kcnt (t :: r)
    unfold kcnt; omega
theorem cnt_pos : ∀ t : Tr, 1 ≤ t.cnt
  | .mk _ _ l => by unfold Tr.cnt; omega
theorem kcnt_len : ∀ l : List Tr, l.length ≤ kcnt l
  | [] => Nat.zero_le _
  | t :: r => by
    have := kcnt_len r
    have := cnt_pos t
    unfold kcnt; rw [List.length_cons]; omega
mutual
theorem pts_cnt : ∀ t : Tr, t.pts.length ≤ t.cnt
  | .mk k p l => by
    have := kpts_cnt l
    unfold Tr.pts Tr.cnt
    split
    · rw [List.length_singleton]; omega
    · omega
theorem kpts_cnt : ∀ l : List Tr, (kpts l).length ≤ kcnt l
  | [] => by unfold kpts; simp
  | t :: r => by
    have := pts_cnt t
    have := kpts_cnt r
    unfold kpts kcnt; rw [List.length_append]; omega
end
end Go.Proofs.YtbgecpjlopdkfaaDoor
