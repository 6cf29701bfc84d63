import Derived.Test.YtgojkabjgagjcaaDoorTypes
set_option linter.unusedSimpArgs false
set_option linter.unusedVariables false
set_option linter.unusedSectionVars false
set_option maxRecDepth 20000
namespace Go.Proofs.YtgojkabjgagjcaaDoor
attribute [local irreducible] QOp aL aC qL
theorem bit_dec (x a : Nat) : decide (((x / 2 ^ a % 2 : Nat) : Int) = 1) = x.testBit a := by
  rw [Nat.testBit_eq_decide_div_mod_eq]
  congr 1
  apply propext
  omega

theorem Lower_ac (N : Int) (l : List Nat) (a b : Nat) (hb : b < l.length) (ha : a < 64) :
    AC Tryd.prog 83 [.agg [.val (.int .i64 N), ints (nl l)], .val (.int .i64 a), .val (.int .i64 b)] [] (.val (.bool ((l.getD b 0).testBit a))) [] := by
  refine AC.mk (n := 16) (fn := Tryd.f83) Tryd.func83 (by kernel_rfl) rfl rfl rfl rfl (fun cx => ?_); dsimp only [argv, Nat.reduceAdd]
  (repeat' (first | refine a_seq ?_ | refine a_ret ?_ | refine a_region ?_ | refine l_nil ?_ | (apply w_q; (focus (first | exact Q_move (by conv => lhs; whnf) | exact Q_assign (by conv => lhs; whnf) | exact Q_fieldAddr_ptr rfl KFl.h | exact Q_load_ptr rfl rfl rfl KSc.h | exact Q_eql rfl rfl | exact Q_shrN rfl rfl (by omega) | exact Q_and1 rfl rfl | exact Q_ix_nats rfl rfl rfl KSl.h (by omega) | exact Q_ld_nats rfl (by omega) KSc.h)); (focus exact rfl)) | refine w_box rfl rfl (by first|(dsimp only[obA,obB,obD,obE,obF,obG,obI,List.map,AO.sh,AV.sh,AV.shl,Nat.reduceAdd];done)|exact rfl) (by first|(dsimp only[obA,obB,obD,obE,obF,obG,obI,List.map,AO.sh,AV.sh,AV.shl,Nat.reduceAdd];done)|exact rfl) rfl ?_)); (try all_goals (try show retA _ _ _ _ _ _ _))
  refine ⟨[_], [], ⟨resV_tmp (by conv => lhs; whnf), trivial⟩, VwOs.mk (by decide) trivial, ?_, rfl⟩
  exact Vw.bool' (bit_dec _ _)

theorem half_pow (s j : Nat) : s / 2 ^ j / 2 = s / 2 ^ (j + 1) := by
  rw [Nat.div_div_eq_div_mul, Nat.pow_succ]

theorem In_ac (s i : Nat) (hs : s ≤ 9223372036854775807) (hi : i ≤ 9223372036854775807) : AC Tryd.prog 112 [.val (.int .i64 s), .val (.int .i64 i)] [] (.val (.bool (s.testBit i))) [] := by
  refine AC.mk (n := 14) (fn := Tryd.f112) Tryd.func112 (by kernel_rfl) rfl rfl rfl rfl (fun cx => ?_); dsimp only [argv, Nat.reduceAdd]
  (repeat' (first | refine a_seq ?_ | refine a_block ?_ | refine a_region ?_ | refine l_nil ?_ | (apply w_q; (focus (first | exact Q_assign (by conv => lhs; whnf))); (focus exact rfl)))); (try all_goals (try show retA _ _ _ _ _ _ _))
  refine a_loop (X := Nat) (fun j => ⟨14, [(0, .val (.int .i64 ((s / 2 ^ j : Nat) : Int))), (1, .val (.int .i64 ((i - j : Nat) : Int)))], []⟩) (fun j => j ≤ i) (fun j => i - j) 0 [] (Nat.zero_le _) ?_ rfl ?_
  · (refine St.le_mk rfl (VwOs.mk (by decide) ?_) ?_ <;> (repeat' (first | exact trivial | exact vwR rfl | (refine Vw.int' ?_; first | rfl | omega | (simp; done)) | refine ⟨?_, ?_⟩ )))
  · intro j hj
    have hq : s / 2 ^ j ≤ 9223372036854775807 := Nat.le_trans (Nat.div_le_self _ _) hs
    (repeat' (first | refine a_seq ?_ | refine a_block ?_ | refine a_skip ?_ | refine a_ret ?_ | refine a_exit ?_ | refine a_region ?_ | refine l_nil ?_ | (apply w_q; (focus (first | exact Q_move (by conv => lhs; whnf) | exact Q_assign (by conv => lhs; whnf) | exact Q_gtr rfl rfl | exact Q_eql rfl rfl | exact Q_rem2 rfl rfl | exact Q_sub rfl rfl (by omega))); (focus exact rfl)) | (refine a_cond rfl ?_ ?_ <;> (intro h; (try (have hp := of_decide_eq_true h)); (try (have hp := of_decide_eq_false h)); (try contradiction); (try (exfalso; omega)))) | (((first | apply w_q); (focus exact Q_quo2 rfl rfl hq); (focus exact rfl))))); (try all_goals (try show retA _ _ _ _ _ _ _))
    · refine ⟨j + 1, [], ?_, ?_, ?_, rfl⟩ <;> (try dsimp only)
      · omega
      · omega
      · rw [half_pow]
        (refine St.le_mk rfl (VwOs.mk (by decide) ?_) ?_ <;> (repeat' (first | exact trivial | exact vwR rfl | (refine Vw.int' ?_; first | rfl | omega | (simp; done)) | refine ⟨?_, ?_⟩ )))
    · refine ⟨[_], [], ⟨resV_tmp (by conv => lhs; whnf), trivial⟩, VwOs.mk (by decide) trivial, ?_, rfl⟩
      have : i = j := by omega
      subst this
      exact Vw.bool' (bit_dec _ _)

theorem Less_ac (N : Int) (l : List Nat) (a b : Nat) (hb : b < l.length) (ha : a ≤ 9223372036854775807) (hl : ∀ x ∈ l, x ≤ 9223372036854775807) :
    AC Tryd.prog 70 [.agg [.val (.int .i64 N), ints (nl l)], .val (.int .i64 a), .val (.int .i64 b)] [] (.val (.bool ((l.getD b 0).testBit a))) [] := by
  have hx : l.getD b 0 ≤ 9223372036854775807 := hl _ (by rw [List.getD_eq_getElem?_getD, List.getElem?_eq_getElem hb]; exact List.getElem_mem _)
  refine AC.mk (n := 14) (fn := Tryd.f70) Tryd.func70 (by kernel_rfl) rfl rfl rfl rfl (fun cx => ?_); dsimp only [argv, Nat.reduceAdd]
  (repeat' (first | refine a_seq ?_ | refine a_ret ?_ | refine a_region ?_ | refine l_nil ?_ | (apply w_q; (focus (first | exact Q_move (by conv => lhs; whnf) | exact Q_assign (by conv => lhs; whnf) | exact Q_fieldAddr_ptr rfl KFl.h | exact Q_load_ptr rfl rfl rfl KSc.h | exact Q_ix_nats rfl rfl rfl KSl.h (by omega) | exact Q_ld_nats rfl (by omega) KSc.h)); (focus exact rfl)) | refine w_box rfl rfl (by first|(dsimp only[obA,obB,obD,obE,obF,obG,obI,List.map,AO.sh,AV.sh,AV.shl,Nat.reduceAdd];done)|exact rfl) (by first|(dsimp only[obA,obB,obD,obE,obF,obG,obI,List.map,AO.sh,AV.sh,AV.shl,Nat.reduceAdd];done)|exact rfl) rfl ?_ | (((first | apply w_q); (focus (refine Q_call (.inl ⟨rfl, rfl⟩) (In_ac _ _ hx ha) ?_; ((repeat' (first | exact vwRL rfl)); done))); (focus exact rfl))))); (try all_goals (try show retA _ _ _ _ _ _ _))
  refine ⟨[_], [], ⟨resV_tmp (by conv => lhs; whnf), trivial⟩, VwOs.mk (by decide) trivial, ?_, rfl⟩
  exact Vw.val _

theorem Bit_ac (i : Nat) (h : i < 62) : AC Tryd.prog 69 [.val (.int .i64 i)] [] (.val (.int .i64 ((2 ^ i : Nat) : Int))) [] := by
  refine AC.mk (n := 11) (fn := Tryd.f69) Tryd.func69 (by kernel_rfl) rfl rfl rfl rfl (fun cx => ?_); dsimp only [argv, Nat.reduceAdd]
  (repeat' (first | refine a_seq ?_ | refine a_block ?_ | refine a_region ?_ | refine l_nil ?_ | (apply w_q; (focus (first | exact Q_assign (by conv => lhs; whnf))); (focus exact rfl)))); (try all_goals (try show retA _ _ _ _ _ _ _))
  refine a_loop (X := Nat) (fun j => ⟨11, [(0, .val (.int .i64 ((i - j : Nat) : Int))), (3, .val (.int .i64 ((2 ^ j : Nat) : Int)))], []⟩) (fun j => j ≤ i) (fun j => i - j) 0 [] (Nat.zero_le _) ?_ rfl ?_
  · (refine St.le_mk rfl (VwOs.mk (by decide) ?_) ?_ <;> (repeat' (first | exact trivial | exact vwR rfl | refine ⟨?_, ?_⟩ )))
  · intro j hj
    have hq : 2 ^ j ≤ 2 ^ 61 := Nat.pow_le_pow_right (by decide) (by omega)
    (repeat' (first | refine a_seq ?_ | refine a_block ?_ | refine a_skip ?_ | refine a_ret ?_ | refine a_exit ?_ | refine a_region ?_ | refine l_nil ?_ | (apply w_q; (focus (first | exact Q_move (by conv => lhs; whnf) | exact Q_assign (by conv => lhs; whnf) | exact Q_gtr rfl rfl | exact Q_sub rfl rfl (by omega))); (focus exact rfl)) | (refine a_cond rfl ?_ ?_ <;> (intro h; (try (have hp := of_decide_eq_true h)); (try (have hp := of_decide_eq_false h)); (try contradiction); (try (exfalso; omega)))) | (((first | apply w_q); (focus exact Q_mul rfl rfl (by generalize 2 ^ j = q at *; omega)); (focus exact rfl))))); (try all_goals (try show retA _ _ _ _ _ _ _))
    · refine ⟨j + 1, [], ?_, ?_, ?_, rfl⟩ <;> (try dsimp only)
      · omega
      · omega
      · rw [Nat.pow_succ]
        (refine St.le_mk rfl (VwOs.mk (by decide) ?_) ?_ <;> (repeat' (first | exact trivial | exact vwR rfl | (refine Vw.int' ?_; first | rfl | omega | (simp; done)) | refine ⟨?_, ?_⟩ )))
    · refine ⟨[_], [], ⟨resV_tmp (by conv => lhs; whnf), trivial⟩, VwOs.mk (by decide) trivial, ?_, rfl⟩
      have : i = j := by omega
      subst this
      exact Vw.val _
theorem ndiff_zero {a b : Nat} : ndiff a b = 0 ↔ ∀ i, a.testBit i = true → b.testBit i = true := by
  constructor
  · intro h i hi
    have h1 := testBit_ndiff a b i
    rw [h, Nat.zero_testBit, hi] at h1
    cases hb : b.testBit i
    · rw [hb] at h1; cases h1
    · rfl
  · intro h
    apply Nat.eq_of_testBit_eq
    intro i
    rw [testBit_ndiff, Nat.zero_testBit]
    cases ha : a.testBit i
    · rfl
    · rw [h i ha]; rfl

end Go.Proofs.YtgojkabjgagjcaaDoor
set_option linter.unusedSimpArgs false
set_option linter.unusedVariables false
set_option linter.unusedSectionVars false
set_option maxRecDepth 20000
namespace Go.Proofs.YtgojkabjgagjcaaDoor
attribute [local irreducible] QOp aL aC qL
/-- The entry of a table. -/
def ta (t : List (List Nat)) (x y : Nat) : Nat := (t.getD x []).getD y 0
def tn (t : List (List Nat)) : List (List Int) := t.map nl
theorem tn_len (t : List (List Nat)) : (tn t).length = t.length := by simp [tn]
theorem tn_get (t : List (List Nat)) (x : Nat) : (tn t).getD x [] = nl (t.getD x []) := by
  simp only [tn, List.getD_eq_getElem?_getD, List.getElem?_map]
  cases t[x]? <;> rfl
structure Sq (n : Nat) (t : List (List Nat)) : Prop where
  len : t.length = n
  row : ∀ x, x < n → (t.getD x []).length = n
  lt : ∀ x y, x < n → y < n → ta t x y < n
def formB (N : Int) (t : List (List Int)) : Bool := decide ((t.length : Int) = N) && !t.any fun r => decide ((r.length : Int) ≠ N)
def badI (N : Int) (x : Int) : Bool := decide (x < 0 ∨ N ≤ x)
def badR (N : Int) (r : List Int) : Bool := r.any (badI N)
/-- The laws of one table beside the other one. -/
def LawT (n : Nat) (f g : Nat → Nat → Nat) : Prop := ∀ x, x < n → f x x = x ∧ ∀ y, y < n → f x y = f y x ∧ f x (g x y) = x ∧ ∀ z, z < n → f x (f y z) = f (f x y) z
instance (n : Nat) (f g : Nat → Nat → Nat) : Decidable (LawT n f g) := by unfold LawT; infer_instance
def lawB (n : Nat) (f g : Nat → Nat → Nat) : Bool := decide (LawT n f g) && decide (LawT n g f)
def tz (m : List (List Int)) : List (List Nat) := m.map fun r => r.map Int.toNat
def lck (N : Int) (m j : List (List Int)) : Int :=
  if N < 1 ∨ 40 < N then 2 else if (formB N m && formB N j) = false then 1 else if (m ++ j).any (badR N) = true then 3 else if lawB N.toNat (ta (tz m)) (ta (tz j)) = true then 0 else 4
end Go.Proofs.YtgojkabjgagjcaaDoor
set_option linter.unusedSimpArgs false
set_option linter.unusedVariables false
set_option linter.unusedSectionVars false
set_option maxRecDepth 20000
namespace Go.Proofs.YtgojkabjgagjcaaDoor
attribute [local irreducible] QOp aL aC qL
/-- A lattice: meets f, joins g. -/
structure Lt (n : Nat) (f g : Nat → Nat → Nat) : Prop where
  fl : ∀ x y, x < n → y < n → f x y < n
  gl : ∀ x y, x < n → y < n → g x y < n
  lf : LawT n f g
  lg : LawT n g f
namespace Lt
variable {n : Nat} {f g : Nat → Nat → Nat} (L : Lt n f g)
include L
theorem dual : Lt n g f := ⟨L.gl, L.fl, L.lg, L.lf⟩
theorem idem {x : Nat} (hx : x < n) : f x x = x := (L.lf x hx).1
theorem comm {x y : Nat} (hx : x < n) (hy : y < n) : f x y = f y x := ((L.lf x hx).2 y hy).1
theorem absorb {x y : Nat} (hx : x < n) (hy : y < n) : f x (g x y) = x := ((L.lf x hx).2 y hy).2.1
theorem assoc {x y z : Nat} (hx : x < n) (hy : y < n) (hz : z < n) : f x (f y z) = f (f x y) z := ((L.lf x hx).2 y hy).2.2 z hz
/-- x is below y in meets just if it is so in joins. -/
theorem up {x y : Nat} (hx : x < n) (hy : y < n) : f x y = x ↔ g x y = y := by
  constructor
  · intro h
    have := L.dual.absorb (x := y) (y := x) hy hx
    rw [L.comm hy hx, h, L.dual.comm hy hx] at this
    exact this
  · intro h
    have := L.absorb (x := x) (y := y) hx hy
    rw [h] at this
    exact this
theorem trans {x y z : Nat} (hx : x < n) (hy : y < n) (hz : z < n) (h1 : f x y = x) (h2 : f y z = y) : f x z = x := by
  rw [← h1, ← L.assoc hx hy hz, h2, h1]
theorem below {x y : Nat} (hx : x < n) (hy : y < n) : f (f x y) x = f x y := by
  rw [L.comm (L.fl x y hx hy) hx, L.assoc hx hx hy, L.idem hx]
theorem greatest {x y z : Nat} (hx : x < n) (hy : y < n) (hz : z < n) (h1 : f z x = z) (h2 : f z y = z) : f z (f x y) = z := by
  rw [L.assoc hz hx hy, h1, h2]
theorem above {x y : Nat} (hx : x < n) (hy : y < n) : f x (g x y) = x := L.absorb hx hy
theorem least {x y z : Nat} (hx : x < n) (hy : y < n) (hz : z < n) (h1 : f x z = x) (h2 : f y z = y) : f (g x y) z = g x y := by
  rw [L.up (L.gl x y hx hy) hz, ← L.dual.assoc hx hy hz, (L.up hy hz).1 h2, (L.up hx hz).1 h1]
end Lt
/-! The least element, in two ways. -/
def endE (f : Nat → Nat → Nat) : Nat → Nat
  | 0 => 0
  | k + 1 => f (endE f k) k
def lowR (f : Nat → Nat → Nat) : Nat → Nat
  | 0 => 0
  | k + 1 => if f k (lowR f k) = k then k else lowR f k
def topR (f : Nat → Nat → Nat) : Nat → Nat
  | 0 => 0
  | k + 1 => if f (topR f k) k = topR f k then k else topR f k
/-! Maps that keep joins, and the way back. -/
def KeepsP (n ba bb : Nat) (ja jb : Nat → Nat → Nat) (F : Nat → Nat) : Prop := F ba = bb ∧ ∀ x, x < n → ∀ y, y < n → F (ja x y) = jb (F x) (F y)
instance (n ba bb : Nat) (ja jb : Nat → Nat → Nat) (F : Nat → Nat) : Decidable (KeepsP n ba bb ja jb F) := by unfold KeepsP; infer_instance
def OrgP (n : Nat) (fa fb : Nat → Nat → Nat) (F : Nat → Nat) (y x : Nat) : Prop := ∀ u, u < n → decide (fb (F u) y = F u) = decide (fa u x = u)
instance (n : Nat) (fa fb : Nat → Nat → Nat) (F : Nat → Nat) (y x : Nat) : Decidable (OrgP n fa fb F y x) := by unfold OrgP; infer_instance
theorem OrgP.iff {n : Nat} {fa fb : Nat → Nat → Nat} {F : Nat → Nat} {y x : Nat} (h : OrgP n fa fb F y x) {u : Nat} (hu : u < n) : fb (F u) y = F u ↔ fa u x = u := decide_eq_decide.1 (h u hu)
structure Bk (n k : Nat) (fa fb : Nat → Nat → Nat) (F : Nat → Nat) (G : List Nat) : Prop where
  len : G.length = k
  ok : ∀ y, y < k → G.getD y 0 < n ∧ OrgP n fa fb F y (G.getD y 0)
theorem Bk.pre {n k : Nat} {fa fb : Nat → Nat → Nat} {F : Nat → Nat} {G : List Nat} (h : Bk n k fa fb F G) {j : Nat} (hj : j ≤ k) : Bk n j fa fb F (G.take j) :=
  ⟨by rw [List.length_take, h.len]; omega, fun y hy => by
    have : (G.take j).getD y 0 = G.getD y 0 := by
      rw [List.getD_eq_getElem?_getD, List.getElem?_take, if_pos hy, ← List.getD_eq_getElem?_getD]
    rw [this]; exact h.ok y (by omega)⟩
theorem Bk.le {n m : Nat} {fa fb : Nat → Nat → Nat} {F : Nat → Nat} {G : List Nat} (h : Bk n m fa fb F G) {x y : Nat} (hx : x < n) (hy : y < m) : fb (F x) y = F x ↔ fa x (G.getD y 0) = x := (h.ok y hy).2.iff hx
section
variable {n m : Nat} {fa ga fb gb : Nat → Nat → Nat} {F : Nat → Nat} {G : List Nat}
/-- The join of the elements below k that go below y. -/
def sup (fb ga : Nat → Nat → Nat) (F : Nat → Nat) (bot y : Nat) : Nat → Nat
  | 0 => bot
  | k + 1 => if fb (F k) y = F k then ga (sup fb ga F bot y k) k else sup fb ga F bot y k
end
end Go.Proofs.YtgojkabjgagjcaaDoor
set_option linter.unusedSimpArgs false
set_option linter.unusedVariables false
set_option linter.unusedSectionVars false
set_option maxRecDepth 20000
namespace Go.Proofs.YtgojkabjgagjcaaDoor
/-- What is taken together goes together with both operations. -/
def Cpt (n : Nat) (f g : Nat → Nat → Nat) (c : List Nat) : Prop := ∀ x, x < n → ∀ y, y < n → c.getD x 0 = c.getD y 0 → ∀ z, z < n → c.getD (f x z) 0 = c.getD (f y z) 0 ∧ c.getD (g x z) 0 = c.getD (g y z) 0
instance (n : Nat) (f g : Nat → Nat → Nat) (c : List Nat) : Decidable (Cpt n f g c) := by unfold Cpt; infer_instance
/-- The next number. -/
def nxC (c : List Nat) (k : Nat) : Nat := (c.take k).foldl (fun m x => max m (x + 1)) 0
theorem nxC_0 (c : List Nat) : nxC c 0 = 0 := rfl
theorem tk_s {α : Type} (d : α) {c : List α} {k : Nat} (h : k < c.length) : c.take (k + 1) = c.take k ++ [c.getD k d] := by
  rw [List.take_add_one, List.getD_eq_getElem?_getD, List.getElem?_eq_getElem h]; rfl
theorem nxC_s {c : List Nat} {k : Nat} (h : k < c.length) : nxC c (k + 1) = max (nxC c k) (c.getD k 0 + 1) := by
  unfold nxC
  rw [tk_s 0 h, List.foldl_append]; rfl
def CanTo (c : List Nat) (k : Nat) : Prop := ∀ i, i < k → c.getD i 0 ≤ nxC c i
abbrev Can (c : List Nat) : Prop := CanTo c c.length
/-- All lesser numbers stand there. -/
theorem nxC_on {c : List Nat} {v : Nat} : ∀ k, k ≤ c.length → CanTo c k → v < nxC c k → ∃ i, i < k ∧ c.getD i 0 = v
  | 0, _, _, h => by rw [nxC_0] at h; omega
  | k + 1, h, hc, hv => by
    rw [nxC_s (by omega)] at hv
    have h1 := hc k (by omega)
    by_cases hk : v < nxC c k
    · obtain ⟨i, hi, e⟩ := nxC_on k (by omega) (fun i hi => hc i (by omega)) hk
      exact ⟨i, by omega, e⟩
    · exact ⟨k, by omega, by omega⟩
/-- Two numberings that tell the same classes are one. -/
theorem can_one {n : Nat} {c d : List Nat} (hc : c.length = n) (hd : d.length = n) (h1 : Can c) (h2 : Can d) (h : ∀ x, x < n → ∀ y, y < n → (c.getD x 0 = c.getD y 0 ↔ d.getD x 0 = d.getD y 0)) : c = d := by
  have key : ∀ k, k ≤ n → nxC c k = nxC d k ∧ ∀ i, i < k → c.getD i 0 = d.getD i 0 := by
    intro k
    induction k with
    | zero => exact fun _ => ⟨rfl, fun i hi => by omega⟩
    | succ k ih =>
      intro hk
      obtain ⟨e, ha⟩ := ih (by omega)
      have hcd : c.getD k 0 = d.getD k 0 := by
        by_cases hx : ∃ j, j < k ∧ c.getD j 0 = c.getD k 0
        · obtain ⟨j, hj, ej⟩ := hx
          rw [← ej, ha j hj]
          exact (h j (by omega) k (by omega)).1 ej
        · have a1 := h1 k (by omega)
          have a2 := h2 k (by omega)
          have b1 : ¬ c.getD k 0 < nxC c k := fun hl => by
            obtain ⟨i, hi, e2⟩ := nxC_on k (by omega) (fun i hi => h1 i (by omega)) hl
            exact hx ⟨i, hi, e2⟩
          have b2 : ¬ d.getD k 0 < nxC d k := fun hl => by
            obtain ⟨i, hi, e2⟩ := nxC_on k (by omega) (fun i hi => h2 i (by omega)) hl
            exact hx ⟨i, hi, (h i (by omega) k (by omega)).2 e2⟩
          omega
      refine ⟨?_, fun i hi => ?_⟩
      · rw [nxC_s (by omega), nxC_s (by omega), e, hcd]
      · by_cases e2 : i = k
        · subst e2; exact hcd
        · exact ha i (by omega)
  apply List.ext_getElem (by omega)
  intro i hi hi2
  have := (key n (Nat.le_refl _)).2 i (by omega)
  rwa [List.getD_eq_getElem?_getD, List.getD_eq_getElem?_getD, List.getElem?_eq_getElem hi, List.getElem?_eq_getElem hi2] at this
/-! Numbers in the order in which they come. -/
def seenC (c : List Nat) : Nat → List Nat
  | 0 => []
  | k + 1 => if c.getD k 0 ∈ seenC c k then seenC c k else seenC c k ++ [c.getD k 0]
def renC (c : List Nat) : Nat → List Nat
  | 0 => []
  | k + 1 => renC c k ++ [(seenC c k).idxOf (c.getD k 0)]
theorem renC_len (c : List Nat) : ∀ k, (renC c k).length = k
  | 0 => rfl
  | k + 1 => by rw [renC, List.length_append, renC_len c k]; rfl
theorem seenC_mem {c : List Nat} {v : Nat} : ∀ k, v ∈ seenC c k ↔ ∃ i, i < k ∧ c.getD i 0 = v
  | 0 => by simp [seenC]
  | k + 1 => by
    have ih := seenC_mem (c := c) (v := v) k
    rw [seenC]
    split
    · rename_i hm
      rw [ih]
      refine ⟨fun ⟨i, hi, e⟩ => ⟨i, by omega, e⟩, fun ⟨i, hi, e⟩ => ?_⟩
      by_cases hk : i = k
      · subst hk
        rw [e, ih] at hm
        exact hm
      · exact ⟨i, by omega, e⟩
    · rw [List.mem_append, ih, List.mem_singleton]
      constructor
      · rintro (⟨i, hi, e⟩ | e)
        · exact ⟨i, by omega, e⟩
        · exact ⟨k, by omega, e.symm⟩
      · rintro ⟨i, hi, e⟩
        by_cases hk : i = k
        · subst hk; exact .inr e.symm
        · exact .inl ⟨i, by omega, e⟩
theorem idx_app {l r : List Nat} {v : Nat} (h : v ∈ l) : (l ++ r).idxOf v = l.idxOf v := by rw [List.idxOf_append, if_pos h]
/-- The number of a place: where its class stands among those that are seen. -/
theorem renC_get {c : List Nat} : ∀ k i, i < k → (renC c k).getD i 0 = (seenC c k).idxOf (c.getD i 0)
  | 0, i, h => by omega
  | k + 1, i, h => by
    have hs : ∀ v, v ∈ seenC c k → (seenC c (k + 1)).idxOf v = (seenC c k).idxOf v := fun v hv => by
      rw [seenC]; split
      · rfl
      · exact idx_app hv
    rw [renC]
    by_cases hk : i = k
    · subst hk
      rw [List.getD_eq_getElem?_getD, List.getElem?_append_right (by rw [renC_len]; exact Nat.le_refl _), renC_len, Nat.sub_self]
      show (seenC c i).idxOf (c.getD i 0) = _
      rw [seenC]
      split
      · rfl
      · rename_i hm
        rw [List.idxOf_append, if_neg hm, List.idxOf_eq_length hm]
        simp
    · have ih := renC_get (c := c) k i (by omega)
      rw [List.getD_eq_getElem?_getD, List.getElem?_append_left (by rw [renC_len]; omega), ← List.getD_eq_getElem?_getD, ih]
      exact (hs _ ((seenC_mem k).2 ⟨i, by omega, rfl⟩)).symm
theorem renC_take {c : List Nat} : ∀ k j, j ≤ k → (renC c k).take j = renC c j
  | 0, j, h => by obtain rfl : j = 0 := by omega
                  rfl
  | k + 1, j, h => by
    by_cases hj : j = k + 1
    · subst hj; rw [List.take_of_length_le (by rw [renC_len]; exact Nat.le_refl _)]
    · rw [renC, List.take_append_of_le_length (by rw [renC_len]; omega), renC_take k j (by omega)]
theorem renC_nx {c : List Nat} : ∀ k, nxC (renC c k) k = (seenC c k).length
  | 0 => rfl
  | k + 1 => by
    have ih := renC_nx (c := c) k
    have hk : k < (renC c (k + 1)).length := by rw [renC_len]; omega
    have e1 : nxC (renC c (k + 1)) k = (seenC c k).length := by
      rw [← ih]; unfold nxC
      rw [renC_take (k + 1) k (by omega), List.take_of_length_le (by rw [renC_len]; exact Nat.le_refl _)]
    have e2 : (renC c (k + 1)).getD k 0 = (seenC c k).idxOf (c.getD k 0) := by
      rw [renC, List.getD_eq_getElem?_getD, List.getElem?_append_right (by rw [renC_len]; exact Nat.le_refl _), renC_len, Nat.sub_self]; rfl
    rw [nxC_s hk, e1, e2, seenC]
    split
    · rename_i hm
      have := List.idxOf_lt_length_iff.2 hm
      omega
    · rename_i hm
      rw [List.idxOf_eq_length hm, List.length_append, List.length_singleton]; omega
theorem renC_can {c : List Nat} {k : Nat} : Can (renC c k) := by
  intro i hi
  rw [renC_len] at hi
  have e : nxC (renC c k) i = (seenC c i).length := by
    rw [← renC_nx i]; unfold nxC
    rw [renC_take k i (by omega), List.take_of_length_le (by rw [renC_len]; exact Nat.le_refl _)]
  have e2 : (renC c k).getD i 0 = (renC c (i + 1)).getD i 0 := by
    rw [← renC_take k (i + 1) (by omega), List.getD_eq_getElem?_getD, List.getD_eq_getElem?_getD, List.getElem?_take, if_pos (by omega)]
  have e3 : (renC c (i + 1)).getD i 0 = (seenC c i).idxOf (c.getD i 0) := by
    rw [renC, List.getD_eq_getElem?_getD, List.getElem?_append_right (by rw [renC_len]; exact Nat.le_refl _), renC_len, Nat.sub_self]; rfl
  rw [e, e2, e3]
  exact List.idxOf_le_length
theorem renC_eq {c : List Nat} {k x y : Nat} (hx : x < k) (hy : y < k) : (renC c k).getD x 0 = (renC c k).getD y 0 ↔ c.getD x 0 = c.getD y 0 := by
  rw [renC_get k x hx, renC_get k y hy]
  refine ⟨fun h => ?_, fun h => by rw [h]⟩
  have h1 : c.getD x 0 ∈ seenC c k := (seenC_mem k).2 ⟨x, hx, rfl⟩
  have h2 : c.getD y 0 ∈ seenC c k := (seenC_mem k).2 ⟨y, hy, rfl⟩
  have l1 := List.idxOf_lt_length_iff.2 h1
  have l2 := List.idxOf_lt_length_iff.2 h2
  have g1 := List.getElem_idxOf l1
  have g2 := List.getElem_idxOf l2
  rw [← g1, ← g2]
  congr 1
/-! The least congruence that has some pairs. -/
structure Cg (n : Nat) (f g : Nat → Nat → Nat) (c : List Nat) : Prop where
  len : c.length = n
  can : Can c
  cpt : Cpt n f g c
structure Lst (n : Nat) (f g : Nat → Nat → Nat) (R : Nat → Nat → Prop) (c : List Nat) : Prop where
  cg : Cg n f g c
  has : ∀ x y, R x y → c.getD x 0 = c.getD y 0
  least : ∀ d : List Nat, Cpt n f g d → (∀ x y, R x y → d.getD x 0 = d.getD y 0) → ∀ x, x < n → ∀ y, y < n → c.getD x 0 = c.getD y 0 → d.getD x 0 = d.getD y 0
theorem Lst.one {n : Nat} {f g : Nat → Nat → Nat} {R R' : Nat → Nat → Prop} {c d : List Nat} (h : Lst n f g R c) (h' : Lst n f g R' d) (h1 : ∀ x y, R x y → d.getD x 0 = d.getD y 0) (h2 : ∀ x y, R' x y → c.getD x 0 = c.getD y 0) : c = d :=
  can_one h.cg.len h'.cg.len h.cg.can h'.cg.can fun x hx y hy => ⟨fun e => h.least d h'.cg.cpt h1 x hx y hy e, fun e => h'.least c h.cg.cpt h2 x hx y hy e⟩
end Go.Proofs.YtgojkabjgagjcaaDoor
