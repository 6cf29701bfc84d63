import Derived.Test.YtgojkabjgagjcaaTypes
set_option linter.unusedSimpArgs false
set_option linter.unusedVariables false
set_option linter.unusedSectionVars false
set_option maxRecDepth 20000
namespace Go.Proofs.Ytgojkabjgagjcaa
attribute [local irreducible] QOp aL aC qL
theorem bit_dec (x a : Nat) : decide (((x / 2 ^ a % 2 : Nat) : Int) = 1) = x.testBit a := by
  rw [Nat.testBit_eq_decide_div_mod_eq]
  congr 1
  apply propext
  omega

theorem Lower_ac (N : Int) (l : List Nat) (a b : Nat) (hb : b < l.length) (ha : a < 64) :
    AC Try.prog 19 [.agg [.val (.int .i64 N), ints (nl l)], .val (.int .i64 a), .val (.int .i64 b)] [] (.val (.bool ((l.getD b 0).testBit a))) [] := by
  refine AC.mk (n := 16) (fn := Try.f19) Try.func19 (by kernel_rfl) rfl rfl rfl rfl (fun cx => ?_); dsimp only [argv, Nat.reduceAdd]
  (repeat' (first | refine a_seq ?_ | refine a_ret ?_ | refine a_region ?_ | refine l_nil ?_ | (apply w_q; (focus (first | exact Q_move (by conv => lhs; whnf) | exact Q_assign (by conv => lhs; whnf) | exact Q_fieldAddr_ptr rfl KFl.h | exact Q_load_ptr rfl rfl rfl KSc.h | exact Q_eql rfl rfl | exact Q_shrN rfl rfl (by omega) | exact Q_and1 rfl rfl | exact Q_ix_nats rfl rfl rfl KSl.h (by omega) | exact Q_ld_nats rfl (by omega) KSc.h)); (focus exact rfl)) | refine w_box rfl rfl (by first|(dsimp only[obA,obB,obD,obE,obF,obG,obI,List.map,AO.sh,AV.sh,AV.shl,Nat.reduceAdd];done)|exact rfl) (by first|(dsimp only[obA,obB,obD,obE,obF,obG,obI,List.map,AO.sh,AV.sh,AV.shl,Nat.reduceAdd];done)|exact rfl) rfl ?_)); (try all_goals (try show retA _ _ _ _ _ _ _))
  refine ⟨[_], [], ⟨resV_tmp (by conv => lhs; whnf), trivial⟩, VwOs.mk (by decide) trivial, ?_, rfl⟩
  exact Vw.bool' (bit_dec _ _)

theorem half_pow (s j : Nat) : s / 2 ^ j / 2 = s / 2 ^ (j + 1) := by
  rw [Nat.div_div_eq_div_mul, Nat.pow_succ]

theorem In_ac (s i : Nat) (hs : s ≤ 9223372036854775807) (hi : i ≤ 9223372036854775807) : AC Try.prog 41 [.val (.int .i64 s), .val (.int .i64 i)] [] (.val (.bool (s.testBit i))) [] := by
  refine AC.mk (n := 14) (fn := Try.f41) Try.func41 (by kernel_rfl) rfl rfl rfl rfl (fun cx => ?_); dsimp only [argv, Nat.reduceAdd]
  (repeat' (first | refine a_seq ?_ | refine a_block ?_ | refine a_region ?_ | refine l_nil ?_ | (apply w_q; (focus (first | exact Q_assign (by conv => lhs; whnf))); (focus exact rfl)))); (try all_goals (try show retA _ _ _ _ _ _ _))
  refine a_loop (X := Nat) (fun j => ⟨14, [(0, .val (.int .i64 ((s / 2 ^ j : Nat) : Int))), (1, .val (.int .i64 ((i - j : Nat) : Int)))], []⟩) (fun j => j ≤ i) (fun j => i - j) 0 [] (Nat.zero_le _) ?_ rfl ?_
  · (refine St.le_mk rfl (VwOs.mk (by decide) ?_) ?_ <;> (repeat' (first | exact trivial | exact vwR rfl | (refine Vw.int' ?_; first | rfl | omega | (simp; done)) | refine ⟨?_, ?_⟩ )))
  · intro j hj
    have hq : s / 2 ^ j ≤ 9223372036854775807 := Nat.le_trans (Nat.div_le_self _ _) hs
    (repeat' (first | refine a_seq ?_ | refine a_block ?_ | refine a_skip ?_ | refine a_ret ?_ | refine a_exit ?_ | refine a_region ?_ | refine l_nil ?_ | (apply w_q; (focus (first | exact Q_move (by conv => lhs; whnf) | exact Q_assign (by conv => lhs; whnf) | exact Q_gtr rfl rfl | exact Q_eql rfl rfl | exact Q_rem2 rfl rfl | exact Q_sub rfl rfl (by omega))); (focus exact rfl)) | (refine a_cond rfl ?_ ?_ <;> (intro h; (try (have hp := of_decide_eq_true h)); (try (have hp := of_decide_eq_false h)); (try contradiction); (try (exfalso; omega)))) | (((first | apply w_q); (focus exact Q_quo2 rfl rfl hq); (focus exact rfl))))); (try all_goals (try show retA _ _ _ _ _ _ _))
    · refine ⟨j + 1, [], ?_, ?_, ?_, rfl⟩ <;> (try dsimp only)
      · omega
      · omega
      · rw [half_pow]
        (refine St.le_mk rfl (VwOs.mk (by decide) ?_) ?_ <;> (repeat' (first | exact trivial | exact vwR rfl | (refine Vw.int' ?_; first | rfl | omega | (simp; done)) | refine ⟨?_, ?_⟩ )))
    · refine ⟨[_], [], ⟨resV_tmp (by conv => lhs; whnf), trivial⟩, VwOs.mk (by decide) trivial, ?_, rfl⟩
      have : i = j := by omega
      subst this
      exact Vw.bool' (bit_dec _ _)

theorem Less_ac (N : Int) (l : List Nat) (a b : Nat) (hb : b < l.length) (ha : a ≤ 9223372036854775807) (hl : ∀ x ∈ l, x ≤ 9223372036854775807) :
    AC Try.prog 26 [.agg [.val (.int .i64 N), ints (nl l)], .val (.int .i64 a), .val (.int .i64 b)] [] (.val (.bool ((l.getD b 0).testBit a))) [] := by
  have hx : l.getD b 0 ≤ 9223372036854775807 := hl _ (by rw [List.getD_eq_getElem?_getD, List.getElem?_eq_getElem hb]; exact List.getElem_mem _)
  refine AC.mk (n := 14) (fn := Try.f26) Try.func26 (by kernel_rfl) rfl rfl rfl rfl (fun cx => ?_); dsimp only [argv, Nat.reduceAdd]
  (repeat' (first | refine a_seq ?_ | refine a_ret ?_ | refine a_region ?_ | refine l_nil ?_ | (apply w_q; (focus (first | exact Q_move (by conv => lhs; whnf) | exact Q_assign (by conv => lhs; whnf) | exact Q_fieldAddr_ptr rfl KFl.h | exact Q_load_ptr rfl rfl rfl KSc.h | exact Q_ix_nats rfl rfl rfl KSl.h (by omega) | exact Q_ld_nats rfl (by omega) KSc.h)); (focus exact rfl)) | refine w_box rfl rfl (by first|(dsimp only[obA,obB,obD,obE,obF,obG,obI,List.map,AO.sh,AV.sh,AV.shl,Nat.reduceAdd];done)|exact rfl) (by first|(dsimp only[obA,obB,obD,obE,obF,obG,obI,List.map,AO.sh,AV.sh,AV.shl,Nat.reduceAdd];done)|exact rfl) rfl ?_ | (((first | apply w_q); (focus (refine Q_call (.inl ⟨rfl, rfl⟩) (In_ac _ _ hx ha) ?_; ((repeat' (first | exact vwRL rfl)); done))); (focus exact rfl))))); (try all_goals (try show retA _ _ _ _ _ _ _))
  refine ⟨[_], [], ⟨resV_tmp (by conv => lhs; whnf), trivial⟩, VwOs.mk (by decide) trivial, ?_, rfl⟩
  exact Vw.val _

theorem Bit_ac (i : Nat) (h : i < 62) : AC Try.prog 25 [.val (.int .i64 i)] [] (.val (.int .i64 ((2 ^ i : Nat) : Int))) [] := by
  refine AC.mk (n := 11) (fn := Try.f25) Try.func25 (by kernel_rfl) rfl rfl rfl rfl (fun cx => ?_); dsimp only [argv, Nat.reduceAdd]
  (repeat' (first | refine a_seq ?_ | refine a_block ?_ | refine a_region ?_ | refine l_nil ?_ | (apply w_q; (focus (first | exact Q_assign (by conv => lhs; whnf))); (focus exact rfl)))); (try all_goals (try show retA _ _ _ _ _ _ _))
  refine a_loop (X := Nat) (fun j => ⟨11, [(0, .val (.int .i64 ((i - j : Nat) : Int))), (3, .val (.int .i64 ((2 ^ j : Nat) : Int)))], []⟩) (fun j => j ≤ i) (fun j => i - j) 0 [] (Nat.zero_le _) ?_ rfl ?_
  · (refine St.le_mk rfl (VwOs.mk (by decide) ?_) ?_ <;> (repeat' (first | exact trivial | exact vwR rfl | refine ⟨?_, ?_⟩ )))
  · intro j hj
    have hq : 2 ^ j ≤ 2 ^ 61 := Nat.pow_le_pow_right (by decide) (by omega)
    (repeat' (first | refine a_seq ?_ | refine a_block ?_ | refine a_skip ?_ | refine a_ret ?_ | refine a_exit ?_ | refine a_region ?_ | refine l_nil ?_ | (apply w_q; (focus (first | exact Q_move (by conv => lhs; whnf) | exact Q_assign (by conv => lhs; whnf) | exact Q_gtr rfl rfl | exact Q_sub rfl rfl (by omega))); (focus exact rfl)) | (refine a_cond rfl ?_ ?_ <;> (intro h; (try (have hp := of_decide_eq_true h)); (try (have hp := of_decide_eq_false h)); (try contradiction); (try (exfalso; omega)))) | (((first | apply w_q); (focus exact Q_mul rfl rfl (by generalize 2 ^ j = q at *; omega)); (focus exact rfl))))); (try all_goals (try show retA _ _ _ _ _ _ _))
    · refine ⟨j + 1, [], ?_, ?_, ?_, rfl⟩ <;> (try dsimp only)
      · omega
      · omega
      · rw [Nat.pow_succ]
        (refine St.le_mk rfl (VwOs.mk (by decide) ?_) ?_ <;> (repeat' (first | exact trivial | exact vwR rfl | (refine Vw.int' ?_; first | rfl | omega | (simp; done)) | refine ⟨?_, ?_⟩ )))
    · refine ⟨[_], [], ⟨resV_tmp (by conv => lhs; whnf), trivial⟩, VwOs.mk (by decide) trivial, ?_, rfl⟩
      have : i = j := by omega
      subst this
      exact Vw.val _
theorem ndiff_zero {a b : Nat} : ndiff a b = 0 ↔ ∀ i, a.testBit i = true → b.testBit i = true := by
  constructor
  · intro h i hi
    have h1 := testBit_ndiff a b i
    rw [h, Nat.zero_testBit, hi] at h1
    cases hb : b.testBit i
    · rw [hb] at h1; cases h1
    · rfl
  · intro h
    apply Nat.eq_of_testBit_eq
    intro i
    rw [testBit_ndiff, Nat.zero_testBit]
    cases ha : a.testBit i
    · rfl
    · rw [h i ha]; rfl

end Go.Proofs.Ytgojkabjgagjcaa
set_option linter.unusedSimpArgs false
set_option linter.unusedVariables false
set_option linter.unusedSectionVars false
set_option maxRecDepth 20000
namespace Go.Proofs.Ytgojkabjgagjcaa
attribute [local irreducible] QOp aL aC qL
/-- The entry of a table. -/
def ta (t : List (List Nat)) (x y : Nat) : Nat := (t.getD x []).getD y 0
def tn (t : List (List Nat)) : List (List Int) := t.map nl
theorem tn_len (t : List (List Nat)) : (tn t).length = t.length := by simp [tn]
theorem tn_get (t : List (List Nat)) (x : Nat) : (tn t).getD x [] = nl (t.getD x []) := by
  simp only [tn, List.getD_eq_getElem?_getD, List.getElem?_map]
  cases t[x]? <;> rfl
structure Sq (n : Nat) (t : List (List Nat)) : Prop where
  len : t.length = n
  row : ∀ x, x < n → (t.getD x []).length = n
  lt : ∀ x y, x < n → y < n → ta t x y < n
def formB (N : Int) (t : List (List Int)) : Bool := decide ((t.length : Int) = N) && !t.any fun r => decide ((r.length : Int) ≠ N)
def badI (N : Int) (x : Int) : Bool := decide (x < 0 ∨ N ≤ x)
def badR (N : Int) (r : List Int) : Bool := r.any (badI N)
/-- The laws of one table beside the other one. -/
def LawT (n : Nat) (f g : Nat → Nat → Nat) : Prop := ∀ x, x < n → f x x = x ∧ ∀ y, y < n → f x y = f y x ∧ f x (g x y) = x ∧ ∀ z, z < n → f x (f y z) = f (f x y) z
instance (n : Nat) (f g : Nat → Nat → Nat) : Decidable (LawT n f g) := by unfold LawT; infer_instance
def lawB (n : Nat) (f g : Nat → Nat → Nat) : Bool := decide (LawT n f g) && decide (LawT n g f)
def tz (m : List (List Int)) : List (List Nat) := m.map fun r => r.map Int.toNat
def lck (N : Int) (m j : List (List Int)) : Int :=
  if N < 1 ∨ 40 < N then 2 else if (formB N m && formB N j) = false then 1 else if (m ++ j).any (badR N) = true then 3 else if lawB N.toNat (ta (tz m)) (ta (tz j)) = true then 0 else 4
end Go.Proofs.Ytgojkabjgagjcaa
set_option linter.unusedSimpArgs false
set_option linter.unusedVariables false
set_option linter.unusedSectionVars false
set_option maxRecDepth 20000
namespace Go.Proofs.Ytgojkabjgagjcaa
attribute [local irreducible] QOp aL aC qL
/-- A lattice: meets f, joins g. -/
structure Lt (n : Nat) (f g : Nat → Nat → Nat) : Prop where
  fl : ∀ x y, x < n → y < n → f x y < n
  gl : ∀ x y, x < n → y < n → g x y < n
  lf : LawT n f g
  lg : LawT n g f
namespace Lt
variable {n : Nat} {f g : Nat → Nat → Nat} (L : Lt n f g)
include L
theorem dual : Lt n g f := ⟨L.gl, L.fl, L.lg, L.lf⟩
theorem idem {x : Nat} (hx : x < n) : f x x = x := (L.lf x hx).1
theorem comm {x y : Nat} (hx : x < n) (hy : y < n) : f x y = f y x := ((L.lf x hx).2 y hy).1
theorem absorb {x y : Nat} (hx : x < n) (hy : y < n) : f x (g x y) = x := ((L.lf x hx).2 y hy).2.1
theorem assoc {x y z : Nat} (hx : x < n) (hy : y < n) (hz : z < n) : f x (f y z) = f (f x y) z := ((L.lf x hx).2 y hy).2.2 z hz
/-- x is below y in meets just if it is so in joins. -/
theorem up {x y : Nat} (hx : x < n) (hy : y < n) : f x y = x ↔ g x y = y := by
  constructor
  · intro h
    have := L.dual.absorb (x := y) (y := x) hy hx
    rw [L.comm hy hx, h, L.dual.comm hy hx] at this
    exact this
  · intro h
    have := L.absorb (x := x) (y := y) hx hy
    rw [h] at this
    exact this
theorem trans {x y z : Nat} (hx : x < n) (hy : y < n) (hz : z < n) (h1 : f x y = x) (h2 : f y z = y) : f x z = x := by
  rw [← h1, ← L.assoc hx hy hz, h2, h1]
theorem below {x y : Nat} (hx : x < n) (hy : y < n) : f (f x y) x = f x y := by
  rw [L.comm (L.fl x y hx hy) hx, L.assoc hx hx hy, L.idem hx]
theorem greatest {x y z : Nat} (hx : x < n) (hy : y < n) (hz : z < n) (h1 : f z x = z) (h2 : f z y = z) : f z (f x y) = z := by
  rw [L.assoc hz hx hy, h1, h2]
theorem above {x y : Nat} (hx : x < n) (hy : y < n) : f x (g x y) = x := L.absorb hx hy
theorem least {x y z : Nat} (hx : x < n) (hy : y < n) (hz : z < n) (h1 : f x z = x) (h2 : f y z = y) : f (g x y) z = g x y := by
  rw [L.up (L.gl x y hx hy) hz, ← L.dual.assoc hx hy hz, (L.up hy hz).1 h2, (L.up hx hz).1 h1]
end Lt
/-! The least element, in two ways. -/
def endE (f : Nat → Nat → Nat) : Nat → Nat
  | 0 => 0
  | k + 1 => f (endE f k) k
def lowR (f : Nat → Nat → Nat) : Nat → Nat
  | 0 => 0
  | k + 1 => if f k (lowR f k) = k then k else lowR f k
def topR (f : Nat → Nat → Nat) : Nat → Nat
  | 0 => 0
  | k + 1 => if f (topR f k) k = topR f k then k else topR f k
/-! Maps that keep joins, and the way back. -/
def KeepsP (n ba bb : Nat) (ja jb : Nat → Nat → Nat) (F : Nat → Nat) : Prop := F ba = bb ∧ ∀ x, x < n → ∀ y, y < n → F (ja x y) = jb (F x) (F y)
instance (n ba bb : Nat) (ja jb : Nat → Nat → Nat) (F : Nat → Nat) : Decidable (KeepsP n ba bb ja jb F) := by unfold KeepsP; infer_instance
def OrgP (n : Nat) (fa fb : Nat → Nat → Nat) (F : Nat → Nat) (y x : Nat) : Prop := ∀ u, u < n → decide (fb (F u) y = F u) = decide (fa u x = u)
instance (n : Nat) (fa fb : Nat → Nat → Nat) (F : Nat → Nat) (y x : Nat) : Decidable (OrgP n fa fb F y x) := by unfold OrgP; infer_instance
theorem OrgP.iff {n : Nat} {fa fb : Nat → Nat → Nat} {F : Nat → Nat} {y x : Nat} (h : OrgP n fa fb F y x) {u : Nat} (hu : u < n) : fb (F u) y = F u ↔ fa u x = u := decide_eq_decide.1 (h u hu)
structure Bk (n k : Nat) (fa fb : Nat → Nat → Nat) (F : Nat → Nat) (G : List Nat) : Prop where
  len : G.length = k
  ok : ∀ y, y < k → G.getD y 0 < n ∧ OrgP n fa fb F y (G.getD y 0)
theorem Bk.pre {n k : Nat} {fa fb : Nat → Nat → Nat} {F : Nat → Nat} {G : List Nat} (h : Bk n k fa fb F G) {j : Nat} (hj : j ≤ k) : Bk n j fa fb F (G.take j) :=
  ⟨by rw [List.length_take, h.len]; omega, fun y hy => by
    have : (G.take j).getD y 0 = G.getD y 0 := by
      rw [List.getD_eq_getElem?_getD, List.getElem?_take, if_pos hy, ← List.getD_eq_getElem?_getD]
    rw [this]; exact h.ok y (by omega)⟩
theorem Bk.le {n m : Nat} {fa fb : Nat → Nat → Nat} {F : Nat → Nat} {G : List Nat} (h : Bk n m fa fb F G) {x y : Nat} (hx : x < n) (hy : y < m) : fb (F x) y = F x ↔ fa x (G.getD y 0) = x := (h.ok y hy).2.iff hx
section
variable {n m : Nat} {fa ga fb gb : Nat → Nat → Nat} {F : Nat → Nat} {G : List Nat}
/-- The join of the elements below k that go below y. -/
def sup (fb ga : Nat → Nat → Nat) (F : Nat → Nat) (bot y : Nat) : Nat → Nat
  | 0 => bot
  | k + 1 => if fb (F k) y = F k then ga (sup fb ga F bot y k) k else sup fb ga F bot y k
end
end Go.Proofs.Ytgojkabjgagjcaa
