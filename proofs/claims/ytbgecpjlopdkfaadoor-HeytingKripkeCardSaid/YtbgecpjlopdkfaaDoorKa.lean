import Derived.Test.YtbgecpjlopdkfaaDoorHfd
import Derived.Test.YtbgecpjlopdkfaaDoorEngZzy
import Derived.Test.YtbgecpjlopdkfaaDoorHed
import Derived.Test.YtbgecpjlopdkfaaDoorHej
import Derived.Test.YtbgecpjlopdkfaaDoorEngZp
import Derived.Test.YtbgecpjlopdkfaaDoorSra
set_option linter.unusedSimpArgs false
set_option linter.unusedVariables false
set_option linter.unusedSectionVars false
set_option maxRecDepth 20000
namespace Go.Proofs.YtbgecpjlopdkfaaDoor
attribute [local irreducible] QOp aL aC qL
/-- The variables' values by number. -/
def vsK (n k : Nat) : List Nat := [k / n / n, k / n % n, k % n]
/-- Is a formula's value always the greatest? -/
def valB (n : Nat) (M J : List (List Nat)) (d : Nat) (t : Tr) : Bool := (List.range (n * n * n)).all fun k => decide (fvF n M J (vsK n k) d t = endE (ta J) n)
section
variable {k v : Int} {l : List Tr} (hs : (Tr.mk k v l).sml)
include hs
section
variable {n : Nat} {M J : List (List Nat)} (hL : La n M J) (hd : triB n (disP M J) = false)
include hL hd
end
end
end Go.Proofs.YtbgecpjlopdkfaaDoor
set_option linter.unusedSimpArgs false
set_option linter.unusedVariables false
set_option linter.unusedSectionVars false
set_option maxRecDepth 20000
namespace Go.Proofs.YtbgecpjlopdkfaaDoor
attribute [local irreducible] QOp aL aC qL
/-- A map of lattices that keeps what formulas are made of. -/
structure HomP (n : Nat) (M J : List (List Nat)) (n' : Nat) (M' J' : List (List Nat)) (h : Nat → Nat) : Prop where
  meet : ∀ x y, x < n → y < n → h (ta M x y) = ta M' (h x) (h y)
  join : ∀ x y, x < n → y < n → h (ta J x y) = ta J' (h x) (h y)
  imp : ∀ x y, x < n → y < n → h (impV n M J x y) = impV n' M' J' (h x) (h y)
  low : h (endE (ta M) n) = endE (ta M') n'
abbrev M2 : List (List Nat) := [[0, 0], [0, 1]]
abbrev J2 : List (List Nat) := [[0, 1], [1, 1]]
section
variable {n : Nat} {M J : List (List Nat)} (hL : La n M J) (hD : DisP n (ta M) (ta J))
include hL hD
theorem lo_lt : endE (ta M) n < n := endE_lt hL.sM.lt n (Nat.le_refl n) hL.n1
theorem lo_le {x : Nat} (hx : x < n) : ta M (endE (ta M) n) x = endE (ta M) n := endE_least hL.A hL.n1 n (Nat.le_refl n) x hx
theorem imp_iff {w x y : Nat} (hw : w < n) (hx : x < n) (hy : y < n) : ta M (ta M w x) y = ta M w x ↔ ta M w (impV n M J x y) = w := imp_res hL.A hL.n1 hD hw hx hy
theorem impV_lt {x y : Nat} : impV n M J x y < n := impF_lt hL.A hL.n1 n (Nat.le_refl n)
end
def ntF (t : Tr) : Tr := .mk 5 0 [t, .mk 1 0 []]
end Go.Proofs.YtbgecpjlopdkfaaDoor
set_option linter.unusedSimpArgs false
set_option linter.unusedVariables false
set_option linter.unusedSectionVars false
set_option maxRecDepth 20000
namespace Go.Proofs.YtbgecpjlopdkfaaDoor
attribute [local irreducible] QOp aL aC qL
def tz64 : List Nat := [0, 1, 56, 2, 57, 49, 28, 3, 61, 58, 42, 50, 38, 29, 17, 4, 62, 47, 59, 36, 45, 43, 51, 22, 53, 39, 33, 30, 24, 18, 12, 5, 63, 55, 48, 27, 60, 41, 37, 16, 46, 35, 44, 21, 52, 32, 23, 11, 54, 26, 40, 15, 34, 20, 31, 10, 25, 14, 19, 9, 13, 8, 7, 6]
def tzi (x : Nat) : Nat := (x &&& (18446744073709551616 - x % 18446744073709551616) % 18446744073709551616) * 285870213051353865 % 18446744073709551616 / 2 ^ (58 : Int).toNat
def tzN (x : Nat) : Nat := tz64.getD (tzi x) 0
/-- The points of a set of ten at most, rising. -/
def mbs (s : Nat) : List Nat := (List.range 10).filter s.testBit
theorem mbs_all : ((List.range 1024).all fun x => x == 0 || (decide (tzi x < 64) && decide (tzN x < 64) && (mbs x == tzN x :: mbs (x &&& (x - 1))) && decide (x &&& (x - 1) < x))) = true := by kernel_rfl
theorem mbs_at {x : Nat} (h : x < 1024) (h0 : 0 < x) : tzi x < 64 ∧ tzN x < 64 ∧ mbs x = tzN x :: mbs (x &&& (x - 1)) ∧ x &&& (x - 1) < x := by
  have := List.all_eq_true.1 mbs_all x (List.mem_range.2 h)
  rw [Bool.or_eq_true] at this
  rcases this with h1 | h1
  · have := eq_of_beq h1; omega
  · simp only [Bool.and_eq_true, decide_eq_true_eq, beq_iff_eq] at h1
    exact ⟨h1.1.1.1, h1.1.1.2, h1.1.2, h1.2⟩
theorem mbs_zero : mbs 0 = [] := rfl
theorem mbs_mem {s p : Nat} (h : s < 1024) : p ∈ mbs s ↔ s.testBit p = true := by
  unfold mbs
  rw [List.mem_filter, List.mem_range]
  refine ⟨fun h => h.2, fun h1 => ⟨?_, h1⟩⟩
  rcases Nat.lt_or_ge p 10 with hp | hp
  · exact hp
  · rw [Nat.testBit_lt_two_pow (Nat.lt_of_lt_of_le h (Nat.pow_le_pow_right (n := 2) (by decide) hp))] at h1; cases h1
theorem tab_in : (1, tabN tz64) ∈ Tab := by unfold Tab; repeat (first | exact List.Mem.head _)
theorem tab_get {i : Nat} (h : i < 64) : (tabN tz64)[i]? = some (.int .u8 ((tz64.getD i 0 : Nat) : Int)) := by
  unfold tabN
  rw [List.getElem?_map, List.getElem?_eq_getElem (show i < tz64.length from h), List.getD_eq_getElem?_getD, List.getElem?_eq_getElem (show i < tz64.length from h)]; rfl
theorem TZ64_ac (x : Nat) (hx : x < 1024) (h0 : 0 < x) : AC Tryd.prog 133 [.val (.int .u64 x)] [] (.val (.int .i64 (tzN x : Nat))) [] := by
  obtain ⟨h1, h2, _, _⟩ := mbs_at hx h0
  have h3 := tab_get h1
  have h4 : tzi x = (x &&& (18446744073709551616 - x % 18446744073709551616) % 18446744073709551616) * 285870213051353865 % 18446744073709551616 / 2 ^ (58 : Int).toNat := rfl
  have h5 : (18446744073709551616 - x % 18446744073709551616) % 18446744073709551616 < 18446744073709551616 := Nat.mod_lt _ (by decide)
  have h6 : tz64.getD (tzi x) 0 = tzN x := rfl
  rw [h6] at h3
  rw [h4] at h1 h3
  refine AC.mk (n := 14) (fn := Tryd.f133) Tryd.func133 (by kernel_rfl) rfl rfl rfl rfl (fun cx => ?_); dsimp only [argv, Nat.reduceAdd]
  (repeat' (first | refine a_seq ?_ | refine a_skip ?_ | refine a_ret ?_ | refine a_region ?_ | refine l_nil ?_ | (apply w_q; (focus (first | exact Q_move (by conv => lhs; whnf) | exact Q_assign (by conv => lhs; whnf))); (focus exact rfl)) | (refine a_cond rfl ?_ ?_ <;> (intro h; (try (have hp := of_decide_eq_true h)); (try (have hp := of_decide_eq_false h)); (try contradiction); (try (exfalso; omega)))) | (((first | apply w_q); (focus exact Q_ueql rfl rfl); (focus exact rfl))) | (((first | apply w_q); (focus exact Q_uneg rfl); (focus exact rfl))) | (((first | apply w_q); (focus exact Q_uand rfl rfl (by omega) h5); (focus exact rfl))) | (((first | apply w_q); (focus exact Q_umul (n := 285870213051353865) rfl rfl); (focus exact rfl))) | (((first | apply w_q); (focus exact Q_ushrC rfl rfl (by omega)); (focus exact rfl))) | (((first | apply w_q); (focus exact Q_tabix rfl rfl KAr.h h1); (focus exact rfl))) | (((first | apply w_q); (focus exact Q_tabld rfl tab_in h3 KSc.h); (focus exact rfl))) | (((first | apply w_q); (focus exact Q_conv (n := ((tzN x : Nat) : Int)) rfl Tryd.underlying5 Tryd.underlying3 (IntWalk.i64_in _ (by omega))); (focus exact rfl))))); (try all_goals (try show retA _ _ _ _ _ _ _))
  refine ⟨[_], [], ⟨resV_tmp (by conv => lhs; whnf), trivial⟩, VwOs.mk (by decide) trivial, ?_, rfl⟩
  (repeat' (first | exact vwR rfl))
theorem TZ_ac (x : Nat) (hx : x < 1024) (h0 : 0 < x) : AC Tryd.prog 123 [.val (.int .u64 x)] [] (.val (.int .i64 (tzN x : Nat))) [] := by
  have k := TZ64_ac x hx h0
  refine AC.mk (n := 8) (fn := Tryd.f123) Tryd.func123 (by kernel_rfl) rfl rfl rfl rfl (fun cx => ?_); dsimp only [argv, Nat.reduceAdd]
  (repeat' (first | refine a_seq ?_ | refine a_skip ?_ | refine a_ret ?_ | refine a_region ?_ | refine l_nil ?_ | (apply w_q; (focus (first | exact Q_move (by conv => lhs; whnf) | exact Q_assign (by conv => lhs; whnf))); (focus exact rfl)) | (refine a_cond rfl ?_ ?_ <;> (intro h; (try (have hp := of_decide_eq_true h)); (try (have hp := of_decide_eq_false h)); (try contradiction); (try (exfalso; omega)))) | (((first | apply w_q); (focus (refine Q_call (.inl ⟨rfl, rfl⟩) (k) ?_; ((repeat' (first | exact vwRL rfl)); done))); (focus exact rfl))))); (try all_goals (try show retA _ _ _ _ _ _ _))
  refine ⟨[_], [], ⟨resV_tmp (by conv => lhs; whnf), trivial⟩, VwOs.mk (by decide) trivial, ?_, rfl⟩
  (repeat' (first | exact vwR rfl))
theorem mbs_len (s : Nat) : (mbs s).length ≤ 10 := by
  unfold mbs
  have := List.length_filter_le s.testBit (List.range 10)
  rw [List.length_range] at this
  exact this
theorem Members_ac (s : Nat) (hs : s < 1024) : AC Tryd.prog 100 [.val (.int .i64 s)] [] (ints (nl (mbs s))) [] := by
  have hml := mbs_len s
  refine AC.mk (n := 19) (fn := Tryd.f100) Tryd.func100 (by kernel_rfl) rfl rfl rfl rfl (fun cx => ?_); dsimp only [argv, Nat.reduceAdd]
  (repeat' (first | refine a_seq ?_ | refine a_block ?_ | refine a_region ?_ | refine l_nil ?_ | (apply w_q; (focus (first | exact Q_move (by conv => lhs; whnf) | exact Q_assign (by conv => lhs; whnf))); (focus exact rfl)) | (((first | apply w_q); (focus exact Q_conv (n := ((s : Nat) : Int)) rfl Tryd.underlying3 Tryd.underlying150 (IntWalk.u64_in _ (by omega))); (focus exact rfl))))); (try all_goals (try show retA _ _ _ _ _ _ _))
  refine w_nilownC 3 3 1 rfl (by first|(dsimp only[obA,obB,obD,obE,obF,obG,obI,List.map,AO.sh,AV.sh,AV.shl,Nat.reduceAdd];done)|exact rfl) rfl ?_
  refine w_loop (X := Nat × List Nat) [] (by simp only [keepv, getv_cons, Nat.reduceEqDiff, ↓reduceIte]; exact rfl) (fun x => [(3, .own 0), (4, .val (.int .u64 (x.1 : Nat)))]) (fun x => [.row 3 1 (intc (nl x.2))]) (fun x => x.1 < 1024 ∧ x.2 ++ mbs x.1 = mbs s) (fun x => x.1) ((s, [])) ([0]) ?_ ?_ rfl ?_ <;> (try dsimp only [List.cons_append, List.nil_append])
  · exact ⟨hs, rfl⟩
  · (refine St.le_mk rfl (VwOs.mk (by decide) ?_) ?_ <;> (repeat' (first | exact trivial | exact vwR rfl | exact Vw.own _ _ rfl | exact VwO.row _ _ _ | refine ⟨⟨_, rfl, ?_⟩, ?_⟩ | refine ⟨?_, ?_⟩ )))
  rintro ⟨r, out⟩ ⟨hr, ho⟩
  dsimp only at hr ho ⊢
  have hol : out.length ≤ 10 := by
    have := congrArg List.length ho
    rw [List.length_append] at this
    omega
  rcases Nat.eq_zero_or_pos r with h0 | h0
  · subst h0
    rw [mbs_zero, List.append_nil] at ho
    subst ho
    (repeat' (first | refine a_seq ?_ | refine a_ret ?_ | refine a_exit ?_ | refine a_region ?_ | refine l_nil ?_ | (apply w_q; (focus (first | exact Q_move (by conv => lhs; whnf) | exact Q_assign (by conv => lhs; whnf))); (focus exact rfl)) | (refine a_cond rfl ?_ ?_ <;> (intro h; (try (have hp := of_decide_eq_true h)); (try (have hp := of_decide_eq_false h)); (try contradiction); (try (exfalso; omega)))) | (((first | apply w_q); (focus exact Q_ugtr rfl rfl); (focus exact rfl))))); (try all_goals (try show retA _ _ _ _ _ _ _))
    refine ⟨[_], [], ⟨resV_tmp (by conv => lhs; whnf), trivial⟩, VwOs.mk (by decide) trivial, ?_, rfl⟩
    (repeat' (first | exact Vw.rowro _ _ _ _ rfl (by decide)))
  · obtain ⟨h1, h2, h3, h4⟩ := mbs_at hr h0
    have k := TZ_ac r hr h0
    (repeat' (first | refine a_seq ?_ | refine a_block ?_ | refine a_skip ?_ | refine a_region ?_ | refine l_nil ?_ | (apply w_q; (focus (first | exact Q_move (by conv => lhs; whnf) | exact Q_assign (by conv => lhs; whnf))); (focus exact rfl)) | (refine a_cond rfl ?_ ?_ <;> (intro h; (try (have hp := of_decide_eq_true h)); (try (have hp := of_decide_eq_false h)); (try contradiction); (try (exfalso; omega)))) | refine w_ap_nats rfl rfl rfl rfl KSl.h KMk.h (by simp; omega) (by first|(dsimp only[obA,obB,obD,obE,obF,obG,obI,List.map,AO.sh,AV.sh,AV.shl,Nat.reduceAdd];done)|exact rfl) (by first|(dsimp only[obA,obB,obD,obE,obF,obG,obI,List.map,AO.sh,AV.sh,AV.shl,Nat.reduceAdd];done)|exact rfl) rfl ?_ | refine w_lit_nat rfl KSl.h KMk.h (by first|(dsimp only[obA,obB,obD,obE,obF,obG,obI,List.map,AO.sh,AV.sh,AV.shl,Nat.reduceAdd];done)|exact rfl) (by first|(dsimp only[obA,obB,obD,obE,obF,obG,obI,List.map,AO.sh,AV.sh,AV.shl,Nat.reduceAdd];done)|exact rfl) rfl ?_ | (((first | apply w_q); (focus exact Q_ugtr rfl rfl); (focus exact rfl))) | (((first | apply w_q); (focus (refine Q_call (.inl ⟨rfl, rfl⟩) (k) ?_; ((repeat' (first | exact vwRL rfl)); done))); (focus exact rfl))) | (((first | apply w_q); (focus exact Q_usub (n := 1) rfl rfl (by omega) (by omega)); (focus exact rfl))) | (((first | apply w_q); (focus exact Q_uand rfl rfl (by omega) (by omega)); (focus exact rfl))))); (try all_goals (try show retA _ _ _ _ _ _ _))
    refine ⟨(r &&& (r - 1), out ++ [tzN r]), [2], ?_, ?_, ?_, rfl⟩ <;> (try dsimp only)
    · exact ⟨by omega, by rw [← ho, h3, List.append_assoc]; rfl⟩
    · exact h4
    · (refine St.le_mk rfl (VwOs.mk (by decide) ?_) ?_ <;> (repeat' (first | exact trivial | exact vwR rfl | exact Vw.own _ _ rfl | exact VwO.row _ _ _ | refine ⟨⟨_, rfl, ?_⟩, ?_⟩ | refine ⟨?_, ?_⟩ )))
end Go.Proofs.YtbgecpjlopdkfaaDoor
