import Derived.Test.YtgojkabjgagjcaaDoorEb
import Derived.Test.YtgojkabjgagjcaaDoorGr
import Derived.Test.YtgojkabjgagjcaaDoorCa
import Derived.Test.YtgojkabjgagjcaaDoorGc
import Derived.Test.YtgojkabjgagjcaaDoorFf
import Derived.Test.YtgojkabjgagjcaaDoorGd
import Derived.Test.YtgojkabjgagjcaaDoorEngZd
import Derived.Test.YtgojkabjgagjcaaDoorEngT
import Derived.Test.YtgojkabjgagjcaaDoorEk
import Derived.Test.YtgojkabjgagjcaaDoorCd
import Derived.Test.YtgojkabjgagjcaaDoorEngZzp
import Derived.ArgAppend
set_option linter.unusedSimpArgs false
set_option linter.unusedVariables false
set_option linter.unusedSectionVars false
set_option maxRecDepth 20000
namespace Go.Proofs.YtgojkabjgagjcaaDoor
attribute [local irreducible] QOp aL aC qL
theorem RowI.nd {n : Nat} {ns r : List Nat} (h : RowI n ns r) : r.Nodup := (full_perm h.len h.all).nodup_iff.2 List.nodup_range
theorem vldA {n : Nat} {ns : List Nat} (hv : Vld n ns) {a b : Nat} (h : lt ns a b = true) : a < n := lt_lt hv.2 h
section
variable {n : Nat} {ns ns' : List Nat}
/-- The points of a list in a row, by their places in the list. -/
def resL (M r : List Nat) : List Nat := (r.filter fun x => M.contains x).map fun x => M.idxOf x
end
end Go.Proofs.YtgojkabjgagjcaaDoor
set_option linter.unusedSimpArgs false
set_option linter.unusedVariables false
set_option linter.unusedSectionVars false
set_option maxRecDepth 20000
namespace Go.Proofs.YtgojkabjgagjcaaDoor
attribute [local irreducible] QOp aL aC qL
def tz64 : List Nat := [0, 1, 56, 2, 57, 49, 28, 3, 61, 58, 42, 50, 38, 29, 17, 4, 62, 47, 59, 36, 45, 43, 51, 22, 53, 39, 33, 30, 24, 18, 12, 5, 63, 55, 48, 27, 60, 41, 37, 16, 46, 35, 44, 21, 52, 32, 23, 11, 54, 26, 40, 15, 34, 20, 31, 10, 25, 14, 19, 9, 13, 8, 7, 6]
def tzi (x : Nat) : Nat := (x &&& (18446744073709551616 - x % 18446744073709551616) % 18446744073709551616) * 285870213051353865 % 18446744073709551616 / 2 ^ (58 : Int).toNat
def tzN (x : Nat) : Nat := tz64.getD (tzi x) 0
/-- The points of a set of ten at most, rising. -/
def mbs (s : Nat) : List Nat := (List.range 10).filter s.testBit
theorem mbs_all : ((List.range 1024).all fun x => x == 0 || (decide (tzi x < 64) && decide (tzN x < 64) && (mbs x == tzN x :: mbs (x &&& (x - 1))) && decide (x &&& (x - 1) < x))) = true := by kernel_rfl
theorem mbs_at {x : Nat} (h : x < 1024) (h0 : 0 < x) : tzi x < 64 ∧ tzN x < 64 ∧ mbs x = tzN x :: mbs (x &&& (x - 1)) ∧ x &&& (x - 1) < x := by
  have := List.all_eq_true.1 mbs_all x (List.mem_range.2 h)
  rw [Bool.or_eq_true] at this
  rcases this with h1 | h1
  · have := eq_of_beq h1; omega
  · simp only [Bool.and_eq_true, decide_eq_true_eq, beq_iff_eq] at h1
    exact ⟨h1.1.1.1, h1.1.1.2, h1.1.2, h1.2⟩
theorem mbs_zero : mbs 0 = [] := rfl
theorem mbs_mem {s p : Nat} (h : s < 1024) : p ∈ mbs s ↔ s.testBit p = true := by
  unfold mbs
  rw [List.mem_filter, List.mem_range]
  refine ⟨fun h => h.2, fun h1 => ⟨?_, h1⟩⟩
  rcases Nat.lt_or_ge p 10 with hp | hp
  · exact hp
  · rw [Nat.testBit_lt_two_pow (Nat.lt_of_lt_of_le h (Nat.pow_le_pow_right (n := 2) (by decide) hp))] at h1; cases h1
theorem tab_in : (1, tabN tz64) ∈ Tab := by unfold Tab; repeat (first | exact List.Mem.head _)
theorem tab_get {i : Nat} (h : i < 64) : (tabN tz64)[i]? = some (.int .u8 ((tz64.getD i 0 : Nat) : Int)) := by
  unfold tabN
  rw [List.getElem?_map, List.getElem?_eq_getElem (show i < tz64.length from h), List.getD_eq_getElem?_getD, List.getElem?_eq_getElem (show i < tz64.length from h)]; rfl
theorem TZ64_ac (x : Nat) (hx : x < 1024) (h0 : 0 < x) : AC Tryd.prog 140 [.val (.int .u64 x)] [] (.val (.int .i64 (tzN x : Nat))) [] := by
  obtain ⟨h1, h2, _, _⟩ := mbs_at hx h0
  have h3 := tab_get h1
  have h4 : tzi x = (x &&& (18446744073709551616 - x % 18446744073709551616) % 18446744073709551616) * 285870213051353865 % 18446744073709551616 / 2 ^ (58 : Int).toNat := rfl
  have h5 : (18446744073709551616 - x % 18446744073709551616) % 18446744073709551616 < 18446744073709551616 := Nat.mod_lt _ (by decide)
  have h6 : tz64.getD (tzi x) 0 = tzN x := rfl
  rw [h6] at h3
  rw [h4] at h1 h3
  refine AC.mk (n := 14) (fn := Tryd.f140) Tryd.func140 (by kernel_rfl) rfl rfl rfl rfl (fun cx => ?_); dsimp only [argv, Nat.reduceAdd]
  (repeat' (first | refine a_seq ?_ | refine a_skip ?_ | refine a_ret ?_ | refine a_region ?_ | refine l_nil ?_ | (apply w_q; (focus (first | exact Q_move (by conv => lhs; whnf) | exact Q_assign (by conv => lhs; whnf))); (focus exact rfl)) | (refine a_cond rfl ?_ ?_ <;> (intro h; (try (have hp := of_decide_eq_true h)); (try (have hp := of_decide_eq_false h)); (try contradiction); (try (exfalso; omega)))) | (((first | apply w_q); (focus exact Q_ueql rfl rfl); (focus exact rfl))) | (((first | apply w_q); (focus exact Q_uneg rfl); (focus exact rfl))) | (((first | apply w_q); (focus exact Q_uand rfl rfl (by omega) h5); (focus exact rfl))) | (((first | apply w_q); (focus exact Q_umul (n := 285870213051353865) rfl rfl); (focus exact rfl))) | (((first | apply w_q); (focus exact Q_ushrC rfl rfl (by omega)); (focus exact rfl))) | (((first | apply w_q); (focus exact Q_tabix rfl rfl KAr.h h1); (focus exact rfl))) | (((first | apply w_q); (focus exact Q_tabld rfl tab_in h3 KSc.h); (focus exact rfl))) | (((first | apply w_q); (focus exact Q_conv (n := ((tzN x : Nat) : Int)) rfl Tryd.underlying5 Tryd.underlying3 (IntWalk.i64_in _ (by omega))); (focus exact rfl))))); (try all_goals (try show retA _ _ _ _ _ _ _))
  refine ⟨[_], [], ⟨resV_tmp (by conv => lhs; whnf), trivial⟩, VwOs.mk (by decide) trivial, ?_, rfl⟩
  (repeat' (first | exact vwR rfl))
theorem TZ_ac (x : Nat) (hx : x < 1024) (h0 : 0 < x) : AC Tryd.prog 115 [.val (.int .u64 x)] [] (.val (.int .i64 (tzN x : Nat))) [] := by
  have k := TZ64_ac x hx h0
  refine AC.mk (n := 8) (fn := Tryd.f115) Tryd.func115 (by kernel_rfl) rfl rfl rfl rfl (fun cx => ?_); dsimp only [argv, Nat.reduceAdd]
  (repeat' (first | refine a_seq ?_ | refine a_skip ?_ | refine a_ret ?_ | refine a_region ?_ | refine l_nil ?_ | (apply w_q; (focus (first | exact Q_move (by conv => lhs; whnf) | exact Q_assign (by conv => lhs; whnf))); (focus exact rfl)) | (refine a_cond rfl ?_ ?_ <;> (intro h; (try (have hp := of_decide_eq_true h)); (try (have hp := of_decide_eq_false h)); (try contradiction); (try (exfalso; omega)))) | (((first | apply w_q); (focus (refine Q_call (.inl ⟨rfl, rfl⟩) (k) ?_; ((repeat' (first | exact vwRL rfl)); done))); (focus exact rfl))))); (try all_goals (try show retA _ _ _ _ _ _ _))
  refine ⟨[_], [], ⟨resV_tmp (by conv => lhs; whnf), trivial⟩, VwOs.mk (by decide) trivial, ?_, rfl⟩
  (repeat' (first | exact vwR rfl))
theorem mbs_len (s : Nat) : (mbs s).length ≤ 10 := by
  unfold mbs
  have := List.length_filter_le s.testBit (List.range 10)
  rw [List.length_range] at this
  exact this
theorem Members_ac (s : Nat) (hs : s < 1024) : AC Tryd.prog 84 [.val (.int .i64 s)] [] (ints (nl (mbs s))) [] := by
  have hml := mbs_len s
  refine AC.mk (n := 19) (fn := Tryd.f84) Tryd.func84 (by kernel_rfl) rfl rfl rfl rfl (fun cx => ?_); dsimp only [argv, Nat.reduceAdd]
  (repeat' (first | refine a_seq ?_ | refine a_block ?_ | refine a_region ?_ | refine l_nil ?_ | (apply w_q; (focus (first | exact Q_move (by conv => lhs; whnf) | exact Q_assign (by conv => lhs; whnf))); (focus exact rfl)) | (((first | apply w_q); (focus exact Q_conv (n := ((s : Nat) : Int)) rfl Tryd.underlying3 Tryd.underlying128 (IntWalk.u64_in _ (by omega))); (focus exact rfl))))); (try all_goals (try show retA _ _ _ _ _ _ _))
  refine w_nilownC 3 3 1 rfl (by first|(dsimp only[obA,obB,obD,obE,obF,obG,obI,List.map,AO.sh,AV.sh,AV.shl,Nat.reduceAdd];done)|exact rfl) rfl ?_
  refine w_loop (X := Nat × List Nat) [] (by simp only [keepv, getv_cons, Nat.reduceEqDiff, ↓reduceIte]; exact rfl) (fun x => [(3, .own 0), (4, .val (.int .u64 (x.1 : Nat)))]) (fun x => [.row 3 1 (intc (nl x.2))]) (fun x => x.1 < 1024 ∧ x.2 ++ mbs x.1 = mbs s) (fun x => x.1) ((s, [])) ([0]) ?_ ?_ rfl ?_ <;> (try dsimp only [List.cons_append, List.nil_append])
  · exact ⟨hs, rfl⟩
  · (refine St.le_mk rfl (VwOs.mk (by decide) ?_) ?_ <;> (repeat' (first | exact trivial | exact vwR rfl | exact Vw.own _ _ rfl | exact VwO.row _ _ _ | refine ⟨⟨_, rfl, ?_⟩, ?_⟩ | refine ⟨?_, ?_⟩ )))
  rintro ⟨r, out⟩ ⟨hr, ho⟩
  dsimp only at hr ho ⊢
  have hol : out.length ≤ 10 := by
    have := congrArg List.length ho
    rw [List.length_append] at this
    omega
  rcases Nat.eq_zero_or_pos r with h0 | h0
  · subst h0
    rw [mbs_zero, List.append_nil] at ho
    subst ho
    (repeat' (first | refine a_seq ?_ | refine a_ret ?_ | refine a_exit ?_ | refine a_region ?_ | refine l_nil ?_ | (apply w_q; (focus (first | exact Q_move (by conv => lhs; whnf) | exact Q_assign (by conv => lhs; whnf))); (focus exact rfl)) | (refine a_cond rfl ?_ ?_ <;> (intro h; (try (have hp := of_decide_eq_true h)); (try (have hp := of_decide_eq_false h)); (try contradiction); (try (exfalso; omega)))) | (((first | apply w_q); (focus exact Q_ugtr rfl rfl); (focus exact rfl))))); (try all_goals (try show retA _ _ _ _ _ _ _))
    refine ⟨[_], [], ⟨resV_tmp (by conv => lhs; whnf), trivial⟩, VwOs.mk (by decide) trivial, ?_, rfl⟩
    (repeat' (first | exact Vw.rowro _ _ _ _ rfl (by decide)))
  · obtain ⟨h1, h2, h3, h4⟩ := mbs_at hr h0
    have k := TZ_ac r hr h0
    (repeat' (first | refine a_seq ?_ | refine a_block ?_ | refine a_skip ?_ | refine a_region ?_ | refine l_nil ?_ | (apply w_q; (focus (first | exact Q_move (by conv => lhs; whnf) | exact Q_assign (by conv => lhs; whnf))); (focus exact rfl)) | (refine a_cond rfl ?_ ?_ <;> (intro h; (try (have hp := of_decide_eq_true h)); (try (have hp := of_decide_eq_false h)); (try contradiction); (try (exfalso; omega)))) | refine w_ap_nats rfl rfl rfl rfl KSl.h KMk.h (by simp; omega) (by first|(dsimp only[obA,obB,obD,obE,obF,obG,obI,List.map,AO.sh,AV.sh,AV.shl,Nat.reduceAdd];done)|exact rfl) (by first|(dsimp only[obA,obB,obD,obE,obF,obG,obI,List.map,AO.sh,AV.sh,AV.shl,Nat.reduceAdd];done)|exact rfl) rfl ?_ | refine w_lit_nat rfl KSl.h KMk.h (by first|(dsimp only[obA,obB,obD,obE,obF,obG,obI,List.map,AO.sh,AV.sh,AV.shl,Nat.reduceAdd];done)|exact rfl) (by first|(dsimp only[obA,obB,obD,obE,obF,obG,obI,List.map,AO.sh,AV.sh,AV.shl,Nat.reduceAdd];done)|exact rfl) rfl ?_ | (((first | apply w_q); (focus exact Q_ugtr rfl rfl); (focus exact rfl))) | (((first | apply w_q); (focus (refine Q_call (.inl ⟨rfl, rfl⟩) (k) ?_; ((repeat' (first | exact vwRL rfl)); done))); (focus exact rfl))) | (((first | apply w_q); (focus exact Q_usub (n := 1) rfl rfl (by omega) (by omega)); (focus exact rfl))) | (((first | apply w_q); (focus exact Q_uand rfl rfl (by omega) (by omega)); (focus exact rfl))))); (try all_goals (try show retA _ _ _ _ _ _ _))
    refine ⟨(r &&& (r - 1), out ++ [tzN r]), [2], ?_, ?_, ?_, rfl⟩ <;> (try dsimp only)
    · exact ⟨by omega, by rw [← ho, h3, List.append_assoc]; rfl⟩
    · exact h4
    · (refine St.le_mk rfl (VwOs.mk (by decide) ?_) ?_ <;> (repeat' (first | exact trivial | exact vwR rfl | exact Vw.own _ _ rfl | exact VwO.row _ _ _ | refine ⟨⟨_, rfl, ?_⟩, ?_⟩ | refine ⟨?_, ?_⟩ )))
end Go.Proofs.YtgojkabjgagjcaaDoor
set_option linter.unusedSimpArgs false
set_option linter.unusedVariables false
set_option linter.unusedSectionVars false
set_option maxRecDepth 20000
namespace Go.Proofs.YtgojkabjgagjcaaDoor
attribute [local irreducible] QOp aL aC qL
/-- Rows of bits, as far as the first i rows and k bits of the next one. -/
def ptB (m : Nat) (p : Nat → Nat → Bool) (i k : Nat) : List Nat := (List.range m).map fun j => bs (fun a => p a j) (if j < i then m else if j = i then k else 0)
/-- Points of a list: is the k-th one below the i-th. -/
def plP (ns L : List Nat) (k i : Nat) : Bool := lt ns (L.getD k 0) (L.getD i 0)
end Go.Proofs.YtgojkabjgagjcaaDoor
set_option linter.unusedSimpArgs false
set_option linter.unusedVariables false
set_option linter.unusedSectionVars false
set_option maxRecDepth 20000
namespace Go.Proofs.YtgojkabjgagjcaaDoor
attribute [local irreducible] QOp aL aC qL
/-! Turned over. -/
def dualP (ns : List Nat) (a b : Nat) : Bool := lt ns b a
def turnP (l : List (Nat × Nat)) (k : Nat) (a b : Nat) : Bool := (l.take k).contains (b, a)
end Go.Proofs.YtgojkabjgagjcaaDoor
set_option linter.unusedSimpArgs false
set_option linter.unusedVariables false
set_option linter.unusedSectionVars false
set_option maxRecDepth 20000
namespace Go.Proofs.YtgojkabjgagjcaaDoor
attribute [local irreducible] QOp aL aC qL
theorem Dim_bad (N : Int) (l : List Int) (e : Int) (he : e ≠ 0) (kC : AC Tryd.prog 44 [ordv N l] [] (.val (.int .i64 e)) []) : AC Tryd.prog 21 [ordv N l] [] (.tup [.val (.int .i64 0), rows [], .val (.int .i64 e)]) [] := by
  refine AC.mk (n := 29) (fn := Tryd.f21) Tryd.func21 (by kernel_rfl) rfl rfl rfl rfl (fun cx => ?_); dsimp only [argv, Nat.reduceAdd]
  (repeat' (first | refine a_seq ?_ | refine a_ret ?_ | refine a_region ?_ | refine l_nil ?_ | (apply w_q; (focus (first | exact Q_move (by conv => lhs; whnf) | exact Q_assign (by conv => lhs; whnf) | exact Q_load_all rfl rfl KAg.h | exact Q_neq rfl rfl)); (focus exact rfl)) | (refine a_cond rfl ?_ ?_ <;> (intro h; (try (have hp := of_decide_eq_true h)); (try (have hp := of_decide_eq_false h)); (try contradiction); (try (exfalso; omega)))) | refine w_box rfl rfl (by first|(dsimp only[obA,obB,obD,obE,obF,obG,obI,List.map,AO.sh,AV.sh,AV.shl,Nat.reduceAdd];done)|exact rfl) (by first|(dsimp only[obA,obB,obD,obE,obF,obG,obI,List.map,AO.sh,AV.sh,AV.shl,Nat.reduceAdd];done)|exact rfl) rfl ?_ | (((first | apply w_q); (focus (refine Q_call (.inl ⟨rfl, rfl⟩) (kC) ?_; ((repeat' (first | exact trivial | exact vwR rfl | exact Vw.ro _ | refine Vw.agg' ?_ | refine ⟨?_, ?_⟩ )); done))); (focus exact rfl))))); (try all_goals (try show retA _ _ _ _ _ _ _))
  all_goals first
    | (exfalso; omega)
    | (refine ⟨[_, _, _], [], ⟨resV_tmp (by conv => lhs; whnf), resV_tmp (by conv => lhs; whnf), resV_tmp (by conv => lhs; whnf), trivial⟩, VwOs.mk (by decide) trivial, ?_, rfl⟩; (repeat' (first | exact vwR rfl | exact vwRL rfl | exact Vw.nilro _ | refine Vw.tup' ?_ | refine ⟨?_, ?_⟩ )); done)
    | (all_goals trace_state); fail
/-- What is wrong with an order whose rows are looked for. -/
def chkR (N : Int) (l : List Int) : Int := if chk N l = 0 ∧ 7 < N then 2 else chk N l
theorem chkR_zero {N : Int} {l : List Int} (h : chkR N l = 0) : ∃ (n : Nat) (ns : List Nat), N = n ∧ l = nl ns ∧ n ≤ 7 ∧ Vld n ns ∧ okB n ns = true := by
  unfold chkR at h
  split at h
  · cases h
  · rename_i hq
    obtain ⟨n, ns, rfl, rfl, hn, hv, hok⟩ := chk_zero h
    exact ⟨n, ns, rfl, rfl, by rcases Nat.lt_or_ge 7 n with h7 | h7; exact absurd ⟨h, by omega⟩ hq; exact h7, hv, hok⟩
theorem chkR_ac (N : Int) (l : List Int) : AC Tryd.prog 44 [ordv N l] [] (.val (.int .i64 (chkR N l))) [] := by
  unfold chkR
  by_cases hz : chk N l = 0
  · obtain ⟨n, ns, rfl, rfl, hn, hv, hok⟩ := chk_zero hz
    by_cases h7 : 7 < n
    · rw [if_pos ⟨hz, by omega⟩]; exact checkR_many n ns hn h7 hv hok
    · rw [if_neg (fun h => h7 (by omega)), hz]; exact checkR_ok n ns (by omega) hv hok
  · rw [if_neg fun h => hz h.1]; exact checkR_err N l hz
theorem Dim_err (N : Int) (l : List Int) (h : chkR N l ≠ 0) : AC Tryd.prog 21 [ordv N l] [] (.tup [.val (.int .i64 0), rows [], .val (.int .i64 (chkR N l))]) [] := Dim_bad N l _ h (chkR_ac N l)
/-- The dimension (less one). -/
structure DimIs (n : Nat) (ns : List Nat) (k : Nat) (l : List (List Nat)) : Prop where
  some : covN n ns k (apL n ns) = .some l
  le : k ≤ (apL n ns).length
  least : ∀ j, j < k → covN n ns j (apL n ns) = none
theorem DimIs.ac {n : Nat} {ns : List Nat} {k : Nat} {l : List (List Nat)} (h : DimIs n ns k l) (hn : n ≤ 7) (hv : Vld n ns) (hok : okB n ns = true) :
    AC Tryd.prog 21 [ordv n (nl ns)] [] (.tup [.val (.int .i64 ((k + 1 : Nat))), rows (tn l), .val (.int .i64 0)]) [] := Dim_ok n ns hn hv hok k l h.some h.le h.least
theorem DimIs.low {n : Nat} {ns : List Nat} {k j : Nat} {l : List (List Nat)} (h : DimIs n ns k l) (hj : covN n ns j (apL n ns) ≠ none) : k ≤ j := by
  rcases Nat.lt_or_ge j k with h' | h'
  · exact absurd (h.least j h') hj
  · exact h'
theorem dimIs_ex {n : Nat} {ns : List Nat} (hv : Vld n ns) (hok : okB n ns = true) : ∃ k l, DimIs n ns k l := by
  obtain ⟨k, l, h1, h2, h3⟩ := dim_ex hv hok
  exact ⟨k, l, h1, h2, h3⟩
end Go.Proofs.YtgojkabjgagjcaaDoor
set_option linter.unusedSimpArgs false
set_option linter.unusedVariables false
set_option linter.unusedSectionVars false
namespace Go.Proofs.YtgojkabjgagjcaaDoor
open Go.RowKit
def capD (cs : List Dat) : FnD := ⟨fun w M v => Rd w M v (.sl 1 cs) ∧ v.oneCell' = true ∧ ∃ a, v = .slice a cs.length cs.length, fun _ _ _ h => h.2.1, fun _ _ _ _ _ hs hM h => ⟨h.1.mono hs hM, h.2⟩⟩
end Go.Proofs.YtgojkabjgagjcaaDoor
set_option linter.unusedSimpArgs false
set_option linter.unusedVariables false
set_option linter.unusedSectionVars false
namespace Go.Proofs.YtgojkabjgagjcaaDoor
open Go.RowKit
def capP (cs : List Dat) : FnD := ⟨fun w M v => Rd w M v (.sl 2 cs) ∧ v.oneCell' = true ∧ ∃ a n, v = .slice a n n ∧ n * 2 = cs.length, fun _ _ _ h => h.2.1, fun _ _ _ _ _ hs hM h => ⟨h.1.mono hs hM, h.2⟩⟩
theorem pairc_tk (l : List (Int × Int)) (k : Nat) : pairc (l.take k) = (pairc l).take (k * 2) := by
  induction l generalizing k with
  | nil => simp [pairc]
  | cons a t ih =>
    cases k with
    | zero => simp [pairc]
    | succ k =>
      have e : (k + 1) * 2 = k * 2 + 2 := by omega
      rw [List.take_succ_cons, e]
      have h := ih k
      show Dat.val _ :: Dat.val _ :: pairc (t.take k) = Dat.val _ :: Dat.val _ :: (pairc t).take (k * 2)
      rw [h]
section
variable {P : Program} {st : St} {d : Option Tmp} {ty : TypeId} {pos : String} {af : Array Edge} {g : Option (Nat × Bool)}
theorem P_slice3P {x hi mx : Operand} {T e : TypeId} {l : List (Int × Int)} {i : Int} {k : Nat} (hx : st.ev x = pairs l) (hi' : st.ev hi = .val (.int .i64 i)) (hm' : st.ev mx = .val (.int .i64 i)) (hk : i = (k : Int)) (hkl : k ≤ l.length) (ht : SlT P T e 2) :
    POp P ⟨d, .slice T x none (some hi) (some mx), ty, pos, af, g⟩ st (.ro (.fn (capP (pairc (l.take k))))) := fun _ ρ w a hr => by
    have hg := hr.ev x
    rw [hx] at hg
    have hrd : Rd w (Ban ρ st.objs) (a.eval x) (.sl 2 (pairc l)) := hg.ro_inv
    have hn : (pairc l).length = l.length * 2 := pairc_len l
    have htk : pairc (l.take k) = (pairc l).take (k * 2) := pairc_tk l k
    have htl : (pairc (l.take k)).length = k * 2 := by rw [htk, List.length_take]; omega
    obtain ⟨h1, h2⟩ := slT_elem ht
    rw [htk] at htl ⊢
    generalize pairc l = cs at *
    obtain ⟨u, hu⟩ : ∃ u, a.eval x = u := ⟨_, rfl⟩
    rw [hu] at hrd
    subst hk
    cases hrd with
    | nil _ =>
      rw [List.length_nil] at hn
      have hk0 : k = 0 := by omega
      subst hk0
      refine ⟨.slice none 0 0, .ro _ _ (.fn _ _ ⟨by rw [List.take_nil]; exact .nil 2, rfl, none, 0, rfl, by rw [List.take_nil]; rfl⟩), fun w1 => ?_⟩
      have hz : (sizeOf (P.elem T)).run P w1 = .ok 2 w1 := by rw [h1]; exact ht.2.run w1
      simp only [execOp, hu, hr.evv hi', hr.evv hm', Option.map, run_sliceAt_slice w1 T _ _ _ _ h2, Sem.run_bind, run_slice_hm w1 T none 0 0 h2 .i64 .i64 ((0 : Nat) : Int) ((0 : Nat) : Int) (by omega) (by omega) (by omega), hz, Result.andThen_ok, Sem.run_pure]
      rfl
    | sl ad n' cap _ _ us hn' hsp hM hc hd =>
      have hnn : l.length = n' := by omega
      have hz : ∀ w1, (sizeOf (P.elem T)).run P w1 = .ok 2 w1 := fun w1 => by rw [h1]; exact ht.2.run w1
      refine ⟨.slice (if k = 0 then some ad else some (ad.add 0)) k k, .ro _ _ (.fn _ _ ⟨?_, rfl, _, k, rfl, by rw [htl]⟩), fun w1 => ?_⟩
      · by_cases hck : k = 0
        · rw [if_pos hck]
          subst hck
          rw [Nat.zero_mul, List.take_zero]
          exact .sl ad 0 0 2 [] us rfl (Nat.le_refl _) (fun j hj => absurd hj (Nat.not_lt_zero j)) (fun j d hj => by simp at hj) (fun j d hj => by simp at hj)
        · rw [if_neg hck]
          have hb' : (ad.add 0).block = ad.block := by unfold Addr.add; split <;> rfl
          refine .sl (ad.add 0) k k 2 _ us (by rw [htl]) (Nat.le_refl _) (fun j hj => by rw [hb']; exact hM j (by omega)) (fun j dt hj => ?_) (fun j dt hj => ?_)
          · rw [List.getElem?_take] at hj
            split at hj
            · rw [add_add', Nat.zero_add]; exact hc j dt hj
            · cases hj
          · rw [List.getElem?_take] at hj
            split at hj
            · exact hd j dt hj
            · cases hj
      · simp only [execOp, hu, hr.evv hi', hr.evv hm', Option.map, run_sliceAt_slice w1 T _ _ _ _ h2, Sem.run_bind, run_slice_hm w1 T (some ad) n' cap h2 .i64 .i64 ((k : Nat) : Int) ((k : Nat) : Int) (by omega) (by omega) (by omega), hz, Result.andThen_ok, Sem.run_pure, sliced]
        simp
theorem POp.q {o : Oper} {av : AV} (h : POp P o st av) : QOp P o st av := .run fun ρ w a hr => by
  obtain ⟨v, h1, h2⟩ := h _ ρ w a hr
  exact ⟨v, h1, fun w1 _ => h2 w1⟩
/-- s[:len(s):len(s)] of a slice of pairs. -/
theorem Q_clipP {x hi mx : Operand} {T e : TypeId} {l : List (Int × Int)} {i : Int} (hx : st.ev x = pairs l) (hi' : st.ev hi = .val (.int .i64 i)) (hm' : st.ev mx = .val (.int .i64 i)) (hk : i = (l.length : Int)) (ht : SlT P T e 2) :
    QOp P ⟨d, .slice T x none (some hi) (some mx), ty, pos, af, g⟩ st (.ro (.fn (capP (pairc l)))) := by
  have h := P_slice3P (P := P) (d := d) (ty := ty) (pos := pos) (af := af) (g := g) hx hi' hm' hk (Nat.le_refl _) ht
  rw [List.take_length] at h
  exact h.q
end
section
variable {P : Program} {k : Nat} {cx : Cx k} {ops : Array Oper} {Q : Exit → St → Prop} {st : St} {rest : List Oper} {ty : TypeId} {pos : String} {af : Array Edge}
/-- append(s[:k:k], xs...), s only read, xs not empty: a new row. -/
theorem l_apcapP [Zs] {d : Tmp} {T e : TypeId} {by' : Nat} {z : Value} {x y : Operand} {cs cs2 : List Dat} {l1 l2 : Nat} {cl : Callee} {ats : Array TypeId} (hcl : cl = .builtin .append) (hats : ats = #[T, T]) (hx : st.ev x = .ro (.fn (capP cs)))
    (hy : SrcD st 2 (st.ev y) cs2) (ht : SlT P T e 2) (hm : MkT P e z 2 by') (hz : z.cells.size = 2) (hc1 : cs.length = l1 * 2) (hc2' : cs2.length = l2 * 2) (h0 : 0 < l2) (hone : ∀ dt ∈ cs2, dt.one = true)
    (hpos : 0 < by') (hbig : (l1 + l2) * by' ≤ 140737488355328) (hd : Nat.blt d st.n = true)
    (hk : aL P cx ops Q rest ((st.add (.row e 2 (cs ++ cs2))).put d (.own st.objs.length))) : aL P cx ops Q (⟨some d, .call ⟨cl, #[x, y], ats⟩, ty, pos, af, none⟩ :: rest) st := by
  subst hcl; subst hats
  refine l_step (st2 := st.add (.row e 2 (cs ++ cs2))) (av := .own st.objs.length) hd rfl ?_ rfl hk
  intro ρ w a hb
  obtain ⟨i, hi, hz1, hsz1, hby1⟩ := hm.info
  have hg := hb.ev x
  rw [hx] at hg
  obtain ⟨hrd, _, a0, n0, ha0, hn0⟩ := hg.ro_inv.fn_inv rfl
  have hsmall : l1 + l2 ≤ 140737488355328 := Nat.le_trans (Nat.le_mul_of_pos_right _ hpos) hbig
  have hres : ∃ v' w' us', (Builtin.append_ #[T, T] ty #[a.eval x, a.eval y]).run P w = .ok v' w' ∧ w'.ownsRow 0 e 2 v' (l1 + l2) us' ∧ w.grownBy w' none ∧ us'.length = (cs ++ cs2).length ∧ (∀ b, ablk v' = some b → w.heap.size ≤ b) ∧
      v'.oneCell' = true ∧ ∀ (i : Nat) (dt : Dat), (cs ++ cs2)[i]? = some dt → ∃ u, us'[i]? = some u ∧ Rd w (Ban ρ st.objs) u dt := by
    rcases src_vals hb hy with ⟨_, rfl⟩ | ⟨ad, m', c, us2, hy1, hm3, hl2, hc2, hr2⟩
    · exact absurd h0 (by simp at hc2'; omega)
    · have hmm : l2 = m' := by omega
      subst hmm
      have h1c : ∀ u ∈ us2, u.oneCell' = true := by
        intro u hu
        obtain ⟨j, hj, rfl⟩ := List.getElem_of_mem hu
        obtain ⟨u', hu', hr', _⟩ := hr2 j _ (List.getElem?_eq_getElem (by omega))
        rw [List.getElem?_eq_getElem hj] at hu'
        obtain rfl := Option.some.inj hu'
        exact hr'.one (hone _ (List.getElem_mem _))
      obtain ⟨u, hu⟩ : ∃ u, a.eval x = u := ⟨_, rfl⟩
      rw [hu] at hrd ha0 ⊢
      rw [hy1]
      cases hrd with
      | nil _ =>
        obtain ⟨v', w', hrun, how, hgr, _⟩ := run_append_own (P := P) w 0 T ty e i z 2 by' ht.1 hi hz1 hsz1 hby1 hz (by decide) (.slice none 0 0) 0 [] ⟨rfl, .inl ⟨rfl, rfl⟩⟩ ad l2 c us2 (by rw [hl2, hc2']) hc2 h1c (by unfold maxLen; omega) (by rw [Nat.zero_add]; exact Nat.le_trans (Nat.mul_le_mul_right _ (Nat.le_add_left _ _)) hbig) (Nat.zero_le _)
        obtain rfl : l1 = 0 := by simp at hc1; omega
        refine ⟨v', w', us2, hrun, by simpa using how, hgr, by simpa using hl2, fun b hb' => ?_, ?_, fun j dt hj => ?_⟩
        · have h5 := run_append_nil (P := P) w T ty e i z ht.1 hi hz1 ad l2 c us2 (by rw [hl2, hsz1, hc2']) hc2 h0 (by omega) (by rw [hby1]; simp at hbig; omega)
          rw [hrun] at h5
          simp only [Result.ok.injEq] at h5
          obtain ⟨rfl, _⟩ := h5
          cases hb'
          exact Nat.le_refl _
        · rcases how.2 with ⟨rfl, _⟩ | ⟨b', cap, cur, rfl, _⟩ <;> rfl
        · rw [List.nil_append] at hj
          obtain ⟨u, hu, _, hr⟩ := hr2 _ dt hj
          exact ⟨u, hu, hr⟩
      | sl ad0 n' cap _ _ us hn' hsp hM hc hr =>
        have hcap : l1 = n' ∧ l1 = cap := by
          cases ha0; exact ⟨by omega, by omega⟩
        obtain ⟨rfl, rfl⟩ := hcap
        have hol : ((List.range cs.length).map us).length = l1 * 2 := by simp [hc1]
        obtain ⟨v', w', hrun, how, hgr⟩ := run_append_arg_grows (P := P) (w := w) T ty e i z 2 by' ht.1 hi hz1 hsz1 hby1 hz (by decide) ad0 l1 l1 ((List.range cs.length).map us) hol (fun j v hv => by
          simp only [List.getElem?_map, Option.map_eq_some_iff] at hv
          obtain ⟨j', h1, rfl⟩ := hv
          have hj : j < cs.length := by simpa using (List.getElem?_eq_some_iff.1 h1).1
          obtain rfl : j = j' := by simpa [hj] using h1
          exact hc j _ (List.getElem?_eq_getElem hj)) ad l2 c us2 (by rw [hl2, hc2']) hc2 (by omega) (by unfold maxLen; omega) hbig
        have hnew : ∀ b, ablk v' = some b → w.heap.size ≤ b := fun b hb' => by
          rcases how.2 with ⟨rfl, _⟩ | ⟨b', cap, cur, rfl, hbase, _⟩
          · cases hb'
          · cases hb'; exact hbase
        refine ⟨v', w', _, hrun, ⟨how.1, ?_⟩, hgr, by simp [hl2], hnew, ?_, fun j dt hj => ?_⟩
        · rcases how.2 with h | ⟨b', cap, cur, h1, _, h2⟩
          · exact .inl h
          · exact .inr ⟨b', cap, cur, h1, Nat.zero_le _, h2⟩
        · rcases how.2 with ⟨rfl, _⟩ | ⟨b', cap, cur, rfl, _⟩ <;> rfl
        · by_cases hlt : j < cs.length
          · rw [List.getElem?_append_left hlt] at hj
            exact ⟨us j, by rw [List.getElem?_append_left (by simpa using hlt)]; simp [hlt], hr j dt hj⟩
          · rw [List.getElem?_append_right (by omega)] at hj
            obtain ⟨u, hu, _, hr⟩ := hr2 _ dt hj
            exact ⟨u, by rw [List.getElem?_append_right (by simpa using Nat.le_of_not_lt hlt)]; simpa using hu, hr⟩
  obtain ⟨v', w', us', hrun, how, hgr, hlen, hblk, hone', hrd'⟩ := hres
  have hbel : Below w.heap.size w w' := ⟨hgr.os, hgr.tape, hgr.output, hgr.size, fun k hk => hgr.block k hk (by simp)⟩
  have happ := app_one hb.good (o := .row e 2 (cs ++ cs2)) (v := v') hbel hblk fun hnew hM =>
    sat_row hnew how hlen fun j dt hj => by
      obtain ⟨u, hu, hr⟩ := hrd' j dt hj
      exact ⟨u, hu, hr.mono (Same.of_below hbel (Own ρ st.objs)).ban (Ban.mono hM)⟩
  refine ⟨v', w', _, ?_, happ.1, happ.2.1, happ.2.2.1, happ.2.2.2, .own _ _ [] (new_id hb.good.len _) hone'⟩
  simp [execOp, resolve, invoke, builtin, hrun]
end
section
variable {P : Program} {k : Nat} {cx : Cx k} {ops : Array Oper} {Q : Exit → St → Prop} {rest : List Oper} {ty : TypeId} {pos : String} {af : Array Edge} {n : Nat} {vars : List (Nat × AV)} {objs objs' : List AO} {d m : Nat}
theorem w_apcapP [Zs] {T e : TypeId} {x y : Operand} {id2 : Nat} {l r : List (Int × Int)} {e2 : TypeId} (hx : (⟨n, vars, objs⟩ : St).ev x = .ro (.fn (capP (pairc l)))) (hy : (⟨n, vars, objs⟩ : St).ev y = .own id2) (hob2 : objs[id2]? = some (.row e2 2 (pairc r))) (h0 : 0 < r.length)
    (ht : SlT P T e 2) (hmk : MkT P e (.agg #[.int .i64 0, .int .i64 0]) 2 16) (hbig : l.length + r.length ≤ 1000000000) (ho : objs ++ [.row e 2 (pairc (l ++ r))] = objs') (hm : objs.length = m) (hd : Nat.blt d n = true)
    (hk : aL P cx ops Q rest ⟨n, (d, .own m) :: vars, objs'⟩) : aL P cx ops Q (⟨some d, .call ⟨.builtin .append, #[x, y], #[T, T]⟩, ty, pos, af, none⟩ :: rest) ⟨n, vars, objs⟩ := by
  subst ho; subst hm
  refine l_apcapP (by' := 16) (l1 := l.length) (l2 := r.length) rfl rfl hx (.inr (.inl ⟨id2, e2, hy, hob2⟩)) ht hmk rfl (pairc_len l) (pairc_len r) h0 (pairc_one r) (by decide) (by omega) hd ?_
  rw [pairc_app]
  exact hk
end
end Go.Proofs.YtgojkabjgagjcaaDoor
