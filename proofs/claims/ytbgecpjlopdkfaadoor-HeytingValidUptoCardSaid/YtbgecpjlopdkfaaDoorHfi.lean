import Derived.Test.YtbgecpjlopdkfaaDoorHfe
import Derived.Test.YtbgecpjlopdkfaaDoorHfg
import Derived.Test.YtbgecpjlopdkfaaDoorHfh
set_option linter.unusedSimpArgs false
set_option linter.unusedVariables false
set_option linter.unusedSectionVars false
set_option maxRecDepth 20000
namespace Go.Proofs.YtbgecpjlopdkfaaDoor
attribute [local irreducible] QOp aL aC qL
def skP (n : Nat) (t : Tr) (j : Nat) : Bool := (decide (0 < j / n / n) && !t.hv ((0 : Nat) : Int)) || (decide (0 < j / n % n) && !t.hv ((1 : Nat) : Int)) || (decide (0 < j % n) && !t.hv ((2 : Nat) : Int))
def surB (n : Nat) (M J : List (List Nat)) (d : Nat) (t : Tr) : Bool := (List.range (n * n * n)).all fun j => skP n t j || decide (fvF n M J (vsK n j) d t = endE (ta J) n)
/-- What is not its own may be nought. -/
theorem sur_val {n : Nat} {M J : List (List Nat)} {d : Nat} {t : Tr} (hd : t.dep ≤ d) (hf : t.ffm = 0) : surB n M J d t = valB n M J d t := by
  rw [Bool.eq_iff_iff]
  constructor
  · intro h
    refine List.all_eq_true.2 fun j hj => decide_eq_true ?_
    have hj := List.mem_range.1 hj
    have h0 : 0 < n := by
      rcases Nat.eq_zero_or_pos n with e | e
      · subst e; simp at hj
      · exact e
    obtain ⟨_, hv⟩ := vsK_ok hj
    have g0 : j / n / n < n := hv 0 (by decide)
    have g1 : j / n % n < n := hv 1 (by decide)
    have g2 : j % n < n := hv 2 (by decide)
    obtain ⟨a, ha, ha1⟩ : ∃ a, a < n ∧ ((t.hv ((0 : Nat) : Int) = true ∧ a = j / n / n) ∨ (t.hv ((0 : Nat) : Int) = false ∧ a = 0)) := by
      cases hb : t.hv ((0 : Nat) : Int)
      · exact ⟨0, h0, .inr ⟨rfl, rfl⟩⟩
      · exact ⟨_, g0, .inl ⟨rfl, rfl⟩⟩
    obtain ⟨b, hb, hb1⟩ : ∃ b, b < n ∧ ((t.hv ((1 : Nat) : Int) = true ∧ b = j / n % n) ∨ (t.hv ((1 : Nat) : Int) = false ∧ b = 0)) := by
      cases hb : t.hv ((1 : Nat) : Int)
      · exact ⟨0, h0, .inr ⟨rfl, rfl⟩⟩
      · exact ⟨_, g1, .inl ⟨rfl, rfl⟩⟩
    obtain ⟨c, hc, hc1⟩ : ∃ c, c < n ∧ ((t.hv ((2 : Nat) : Int) = true ∧ c = j % n) ∨ (t.hv ((2 : Nat) : Int) = false ∧ c = 0)) := by
      cases hb : t.hv ((2 : Nat) : Int)
      · exact ⟨0, h0, .inr ⟨rfl, rfl⟩⟩
      · exact ⟨_, g2, .inl ⟨rfl, rfl⟩⟩
    have m1 : ∀ x y, y < n → (x * n + y) % n = y := fun x y hy => by rw [Nat.mul_comm, Nat.mul_add_mod, Nat.mod_eq_of_lt hy]
    have m2 : ∀ x y, y < n → (x * n + y) / n = x := fun x y hy => by rw [Nat.mul_comm, Nat.mul_add_div h0, Nat.div_eq_of_lt hy, Nat.add_zero]
    have hk : (a * n + b) * n + c < n * n * n := by
      have e1 : a * n + b < n * n := by
        have : (a + 1) * n ≤ n * n := Nat.mul_le_mul_right n ha
        rw [Nat.add_mul] at this; omega
      have : (a * n + b + 1) * n ≤ n * n * n := Nat.mul_le_mul_right n e1
      rw [Nat.add_mul] at this; omega
    have ev : vsK n ((a * n + b) * n + c) = [a, b, c] := by
      unfold vsK
      rw [m2 (a * n + b) c hc, m2 a b hb, m1 a b hb, m1 _ c hc]
    have hs := List.all_eq_true.1 h _ (List.mem_range.2 hk)
    have hsk : skP n t ((a * n + b) * n + c) = false := by
      unfold skP
      rw [m2 (a * n + b) c hc, m2 a b hb, m1 a b hb, m1 _ c hc]
      rw [Bool.or_eq_false_iff, Bool.or_eq_false_iff, Bool.and_eq_false_iff, Bool.and_eq_false_iff, Bool.and_eq_false_iff]
      refine ⟨⟨?_, ?_⟩, ?_⟩
      · rcases ha1 with ⟨h1, _⟩ | ⟨_, h1⟩
        · right; rw [h1]; rfl
        · left; exact decide_eq_false (by omega)
      · rcases hb1 with ⟨h1, _⟩ | ⟨_, h1⟩
        · right; rw [h1]; rfl
        · left; exact decide_eq_false (by omega)
      · rcases hc1 with ⟨h1, _⟩ | ⟨_, h1⟩
        · right; rw [h1]; rfl
        · left; exact decide_eq_false (by omega)
    rw [hsk, Bool.false_or, decide_eq_true_eq, ev] at hs
    rw [← hs]
    refine fv_own d t hd hf fun i hi hvi => ?_
    rcases (show i = 0 ∨ i = 1 ∨ i = 2 by omega) with rfl | rfl | rfl
    · rcases ha1 with ⟨_, h1⟩ | ⟨h1, _⟩
      · show j / n / n = a; exact h1.symm
      · rw [h1] at hvi; cases hvi
    · rcases hb1 with ⟨_, h1⟩ | ⟨h1, _⟩
      · show j / n % n = b; exact h1.symm
      · rw [h1] at hvi; cases hvi
    · rcases hc1 with ⟨_, h1⟩ | ⟨h1, _⟩
      · show j % n = c; exact h1.symm
      · rw [h1] at hvi; cases hvi
  · intro h
    refine List.all_eq_true.2 fun j hj => ?_
    rw [List.all_eq_true.1 h j hj, Bool.or_true]
set_option maxRecDepth 20000 in
set_option maxHeartbeats 4000000 in
theorem Sure_ac {n : Nat} {M J : List (List Nat)} (hL : La n M J) (hD : DisP n (ta M) (ta J)) (h16 : n ≤ 16) (k v : Int) (l : List Tr) (hs : (Tr.mk k v l).sml) (hf : (Tr.mk k v l).ffm = 0) :
    AC Tryd.prog 44 [latA n (tn M) (tn J), ta3 k v l] [] (.val (.bool (surB n M J (1 + kdep l) (.mk k v l)))) [] := by
  have kl := LatLeast_ac n M J hL.n1 hL.n2 hL.sM
  rw [(low_end hL).2] at kl
  have h0 : 0 < n := hL.n1
  have kv := fun (j : Nat) (hj : j < n * n * n) => ValueOf_ac hL hD (vsK_ok hj) (1 + kdep l) k v l (Nat.le_refl _) hf
  have kh0 : AC Tryd.prog 94 [ta3 k v l, .val (.int .i64 0)] [] (.val (.bool ((Tr.mk k v l).hv ((0 : Nat) : Int)))) [] := HasVar_ac 0 (1 + kdep l) k v l (Nat.le_refl _) hs
  have kh1 : AC Tryd.prog 94 [ta3 k v l, .val (.int .i64 1)] [] (.val (.bool ((Tr.mk k v l).hv ((1 : Nat) : Int)))) [] := HasVar_ac 1 (1 + kdep l) k v l (Nat.le_refl _) hs
  have kh2 : AC Tryd.prog 94 [ta3 k v l, .val (.int .i64 2)] [] (.val (.bool ((Tr.mk k v l).hv ((2 : Nat) : Int)))) [] := HasVar_ac 2 (1 + kdep l) k v l (Nat.le_refl _) hs
  have hyes : (∀ j, j < n * n * n → skP n (.mk k v l) j = true ∨ fvF n M J (vsK n j) (1 + kdep l) (.mk k v l) = endE (ta J) n) → surB n M J (1 + kdep l) (.mk k v l) = true := fun h => List.all_eq_true.2 fun j hj => by
    rcases h j (List.mem_range.1 hj) with e | e
    · rw [e]; rfl
    · rw [decide_eq_true e, Bool.or_true]
  have hno : ∀ j, j < n * n * n → skP n (.mk k v l) j = false → fvF n M J (vsK n j) (1 + kdep l) (.mk k v l) ≠ endE (ta J) n → surB n M J (1 + kdep l) (.mk k v l) = false := fun j hj h1 h => by
    rw [Bool.eq_false_iff]
    intro hq
    have := List.all_eq_true.1 hq j (List.mem_range.2 hj)
    rw [h1, Bool.false_or] at this
    exact h (of_decide_eq_true this)
  have hsk : ∀ j, skP n (.mk k v l) j = ((decide (0 < j / n / n) && !(Tr.mk k v l).hv ((0 : Nat) : Int)) || (decide (0 < j / n % n) && !(Tr.mk k v l).hv ((1 : Nat) : Int)) || (decide (0 < j % n) && !(Tr.mk k v l).hv ((2 : Nat) : Int))) := fun _ => rfl
  have hdv : ∀ j, j < n * n * n → j / n ≤ j := fun j _ => Nat.div_le_self j n
  have hm1 : (n : Int) * (n : Int) = ((n * n : Nat) : Int) := (Int.natCast_mul n n).symm
  have hm2 : ((n * n : Nat) : Int) * (n : Int) = ((n * n * n : Nat) : Int) := (Int.natCast_mul (n * n) n).symm
  have hnn : n * n ≤ 256 := Nat.mul_le_mul h16 h16
  have hNN : n * n * n ≤ 4096 := Nat.mul_le_mul hnn h16
  generalize surB n M J (1 + kdep l) (.mk k v l) = SB at *
  generalize hgV : (fun j => fvF n M J (vsK n j) (1 + kdep l) (.mk k v l)) = gV at *
  have hg : ∀ j, fvF n M J (vsK n j) (1 + kdep l) (.mk k v l) = gV j := fun j => by rw [← hgV]
  simp only [hg] at kv hyes hno
  generalize hgS : (fun j => skP n (.mk k v l) j) = gS at *
  have hgs : ∀ j, skP n (.mk k v l) j = gS j := fun j => by rw [← hgS]
  simp only [hgs] at hyes hno hsk
  clear hgV hg hgS hgs
  unfold vsK nl at kv
  dsimp only [List.map] at kv
  generalize (Tr.mk k v l).hv ((0 : Nat) : Int) = b0 at *
  generalize (Tr.mk k v l).hv ((1 : Nat) : Int) = b1 at *
  generalize (Tr.mk k v l).hv ((2 : Nat) : Int) = b2 at *
  generalize n * n * n = NN at *
  generalize n * n = n2 at *
  clear hL hD hf hs
  generalize endE (ta J) n = hi at *
  generalize lowR (ta M) n = lo at *
  generalize tn M = MM at *
  generalize tn J = JJ at *
  unfold ta3 tks at *
  refine AC.mk (n := 82) (fn := Tryd.f44) Tryd.func44 (by kernel_rfl) rfl rfl rfl rfl (fun cx => ?_); dsimp only [argv, Nat.reduceAdd]
  (repeat' (first | refine a_seq ?_ | refine a_region ?_ | refine l_nil ?_ | (apply w_q; (focus (first | exact Q_assign (by conv => lhs; whnf))); (focus exact rfl)) | refine w_box rfl rfl (by first|(dsimp only[obA,obB,obD,obE,obF,obG,obI,List.map,AO.sh,AV.sh,AV.shl,Nat.reduceAdd];done)|exact rfl) (by first|(dsimp only[obA,obB,obD,obE,obF,obG,obI,List.map,AO.sh,AV.sh,AV.shl,Nat.reduceAdd];done)|exact rfl) rfl ?_)); (try all_goals (try show retA _ _ _ _ _ _ _))
  refine w_freezeB 0 [.val (.int .i64 n), .sl 1 (rowc MM), .sl 1 (rowc JJ)] rfl rfl (by simp only [fbv_nil, fbv_cons, fbl_nil, fbl_cons, fbo_nil, fbo_cons, fbo_box, fbo_row, fbo_gone, fb_own, fb_val, fb_ro, fb_rpt, fb_ptr, fb_ept, fb_agg, fb_tup, fb_clo, fb_ints, fb_rows, fb_pairs, fb_ords, Nat.reduceEqDiff, ↓reduceIte, List.set_cons_zero, List.set_cons_succ]; exact rfl) (by simp only [fbv_nil, fbv_cons, fbl_nil, fbl_cons, fbo_nil, fbo_cons, fbo_box, fbo_row, fbo_gone, fb_own, fb_val, fb_ro, fb_rpt, fb_ptr, fb_ept, fb_agg, fb_tup, fb_clo, fb_ints, fb_rows, fb_pairs, fb_ords, Nat.reduceEqDiff, ↓reduceIte, List.set_cons_zero, List.set_cons_succ]; exact rfl) ?_
  refine w_freezeB 1 [.val (.int .i64 k), .val (.int .i64 v), .sl 3 (kdc l)] rfl rfl (by simp only [fbv_nil, fbv_cons, fbl_nil, fbl_cons, fbo_nil, fbo_cons, fbo_box, fbo_row, fbo_gone, fb_own, fb_val, fb_ro, fb_rpt, fb_ptr, fb_ept, fb_agg, fb_tup, fb_clo, fb_ints, fb_rows, fb_pairs, fb_ords, Nat.reduceEqDiff, ↓reduceIte, List.set_cons_zero, List.set_cons_succ]; exact rfl) (by simp only [fbv_nil, fbv_cons, fbl_nil, fbl_cons, fbo_nil, fbo_cons, fbo_box, fbo_row, fbo_gone, fb_own, fb_val, fb_ro, fb_rpt, fb_ptr, fb_ept, fb_agg, fb_tup, fb_clo, fb_ints, fb_rows, fb_pairs, fb_ords, Nat.reduceEqDiff, ↓reduceIte, List.set_cons_zero, List.set_cons_succ]; exact rfl) ?_
  (repeat' (first | refine a_seq ?_ | refine a_block ?_ | refine a_region ?_ | refine l_nil ?_ | (apply w_q; (focus (first | exact Q_move (by conv => lhs; whnf) | exact Q_assign (by conv => lhs; whnf) | exact Q_ld_rpa rfl KAg.h rfl rfl (by first | (dsimp only [List.drop_zero, List.drop_succ_cons, List.take_succ_cons, List.take_zero, List.map, ofD]; done) | exact rfl) | exact Q_extract rfl (by conv => lhs; whnf))); (focus exact rfl)) | ((refine w_callV (.inl ⟨rfl, rfl⟩) (kl) ?_ (by first | (dsimp only [AV.sh, AV.shl, sh_ints, sh_rows, sh_pairs, sh_ords]; done) | exact rfl) rfl ?_; rotate_left 0; (focus ((repeat' (first | exact trivial | exact Vs.val _ | exact Vs.ro _ | refine Vs.agg' ?_ | refine ⟨?_, ?_⟩)); done)); rotate_left 1; all_goals (try (skip)))))); (try all_goals (try show retA _ _ _ _ _ _ _))
  clear kl
  refine w_loop (X := Nat) [2, 3, 6] (by simp only [keepv, getv_cons, Nat.reduceEqDiff, ↓reduceIte]; exact rfl) (fun j => [(7, .val (.int .i64 (j : Nat)))]) (fun _ => [.gone, .gone]) (fun j => j ≤ NN ∧ ∀ i, i < j → gS i = true ∨ gV i = hi) (fun j => NN - j) (0) ([0, 1]) ?_ ?_ rfl ?_ <;> (try dsimp only [List.cons_append, List.nil_append])
  · exact ⟨Nat.zero_le _, fun _ h => by omega⟩
  · (refine St.le_mk rfl (VwOs.mk (by decide) ?_) ?_ <;> (repeat' (first | exact trivial | exact vwR rfl | exact VwO.gone _ | refine ⟨⟨_, rfl, ?_⟩, ?_⟩ | refine ⟨?_, ?_⟩ )))
  rintro j ⟨hj, hall⟩
  by_cases hjN : j < NN
  · have q := kv j hjN
    have hq1 := hdv j hjN
    have hskj := hsk j
    clear kv hsk hdv
    (repeat' (first | refine a_seq ?_ | refine a_block ?_ | refine a_skip ?_ | refine a_region ?_ | refine l_nil ?_ | (apply w_q; (focus (first | exact Q_move (by conv => lhs; whnf) | exact Q_fieldAddr_rpt rfl KFl.h | exact Q_lss rfl rfl | exact Q_ld_rv rfl rfl KSc.h)); (focus exact rfl)) | (refine a_cond rfl ?_ ?_ <;> (intro h; (try (have hp := of_decide_eq_true h)); (try (have hp := of_decide_eq_false h)); (try contradiction); (try (exfalso; omega)))) | (((first | apply w_q); (focus exact Q_mulE rfl rfl (by omega) hm1); (focus exact rfl))) | (((first | apply w_q); (focus exact Q_mulE rfl rfl (by omega) hm2); (focus exact rfl))))); (try all_goals (try show retA _ _ _ _ _ _ _))
    all_goals first
      | (exfalso; omega)
      | skip
    clear hm1 hm2
    (repeat' (first | (refine a_holdRN (id := 5) (by kernel_rfl) rfl ?_; apply rw_first 1 rfl (by kernel_rfl); (focus (first | exact R_fieldAddr_rpt rfl KFl.h)); (focus exact rfl); apply rw_first 2 rfl (by kernel_rfl); (focus (first | exact R_ld_rv rfl rfl KSc.h)); (focus exact rfl); apply rw_first 4 rfl (by kernel_rfl); (focus (first | exact R_fieldAddr_rpt rfl KFl.h)); (focus exact rfl); apply rw_first 5 rfl (by kernel_rfl); (focus (first | exact R_ld_rv rfl rfl KSc.h)); (focus exact rfl); apply rw_first 8 rfl (by kernel_rfl); (focus (first | exact R_fieldAddr_rpt rfl KFl.h)); (focus exact rfl); apply rw_first 9 rfl (by kernel_rfl); (focus (first | exact R_ld_rv rfl rfl KSc.h)); (focus exact rfl); apply rw_first 11 rfl (by kernel_rfl); (focus (first | exact R_fieldAddr_rpt rfl KFl.h)); (focus exact rfl); apply rw_first 12 rfl (by kernel_rfl); (focus (first | exact R_ld_rv rfl rfl KSc.h)); (focus exact rfl); apply rw_first 15 rfl (by kernel_rfl); (focus (first | exact R_fieldAddr_rpt rfl KFl.h)); (focus exact rfl); apply rw_first 16 rfl (by kernel_rfl); (focus (first | exact R_ld_rv rfl rfl KSc.h)); (focus exact rfl); refine rw_frame (fun _ _ => ?_)) | (apply xw_first (listed := [false, true, true, false, true, true, false, false, true, true, false, true, true, false, false, true, true, false, false, false]) 0 rfl (by kernel_rfl); (focus (first | exact P_move (by conv => lhs; whnf))); (focus exact rfl)) | (apply xw_first (listed := [true, true, true, false, true, true, false, false, true, true, false, true, true, false, false, true, true, false, false, false]) 3 rfl (by kernel_rfl); (focus (first | exact P_quoN rfl rfl (by omega) (by omega))); (focus exact rfl)) | (apply xw_first (listed := [true, true, true, true, true, true, false, false, true, true, false, true, true, false, false, true, true, false, false, false]) 6 rfl (by kernel_rfl); (focus (first | exact P_quoN rfl rfl (by omega) (by omega))); (focus exact rfl)) | (apply xw_first (listed := [true, true, true, true, true, true, true, false, true, true, false, true, true, false, false, true, true, false, false, false]) 7 rfl (by kernel_rfl); (focus (first | exact P_move (by conv => lhs; whnf))); (focus exact rfl)) | (apply xw_first (listed := [true, true, true, true, true, true, true, true, true, true, false, true, true, false, false, true, true, false, false, false]) 10 rfl (by kernel_rfl); (focus (first | exact P_quoN rfl rfl (by omega) (by omega))); (focus exact rfl)) | (apply xw_first (listed := [true, true, true, true, true, true, true, true, true, true, true, true, true, false, false, true, true, false, false, false]) 13 rfl (by kernel_rfl); (focus (first | exact P_remN rfl rfl (by omega))); (focus exact rfl)) | (apply xw_first (listed := [true, true, true, true, true, true, true, true, true, true, true, true, true, true, false, true, true, false, false, false]) 14 rfl (by kernel_rfl); (focus (first | exact P_move (by conv => lhs; whnf))); (focus exact rfl)) | (apply xw_first (listed := [true, true, true, true, true, true, true, true, true, true, true, true, true, true, true, true, true, false, false, false]) 17 rfl (by kernel_rfl); (focus (first | exact P_remN rfl rfl (by omega))); (focus exact rfl)) | refine xh_step (listed := [true, true, true, true, true, true, true, true, true, true, true, true, true, true, true, true, true, true, false, false]) (i := 18) (is := []) (by kernel_rfl) ⟨⟨_, rfl, ?_⟩, trivial⟩ | (apply xw_first (listed := [true, true, true, true, true, true, true, true, true, true, true, true, true, true, true, true, true, true, true, false]) 19 rfl (by kernel_rfl); (focus (first | exact P_assign (by conv => lhs; whnf))); (focus exact rfl)) | refine xh_done (listed := [true, true, true, true, true, true, true, true, true, true, true, true, true, true, true, true, true, true, true, true]) (by kernel_rfl) ?_ | refine a_seq ?_ | refine a_region ?_ | refine l_nil ?_ | ((first | apply w_q); (focus (first | exact Q_move (by conv => lhs; whnf))); (focus exact rfl)) | refine w_lit_i3 rfl rfl rfl KSl.h KMk.h (by first|(dsimp only[obA,obB,obD,obE,obF,obG,obI,List.map,AO.sh,AV.sh,AV.shl,Nat.reduceAdd];done)|exact rfl) (by first|(dsimp only[obA,obB,obD,obE,obF,obG,obI,List.map,AO.sh,AV.sh,AV.shl,Nat.reduceAdd];done)|exact rfl) rfl ?_)); (try all_goals (try show retA _ _ _ _ _ _ _))
    refine w_freezeA 2 rfl (by simp only [frv_nil, frv_cons, frl_nil, frl_cons, fro_nil, fro_cons, fro_box, fro_row, fro_gone, fr_own, fr_val, fr_ro, fr_rpt, fr_ptr, fr_ept, fr_agg, fr_tup, fr_clo, fr_ints, fr_rows, fr_pairs, fr_ords, Nat.reduceEqDiff, ↓reduceIte, List.set_cons_zero, List.set_cons_succ]; exact rfl) (by simp only [frv_nil, frv_cons, frl_nil, frl_cons, fro_nil, fro_cons, fro_box, fro_row, fro_gone, fr_own, fr_val, fr_ro, fr_rpt, fr_ptr, fr_ept, fr_agg, fr_tup, fr_clo, fr_ints, fr_rows, fr_pairs, fr_ords, Nat.reduceEqDiff, ↓reduceIte, List.set_cons_zero, List.set_cons_succ]; exact rfl) ?_
    generalize hr : gV j = r at q
    generalize j / n / n = a at *
    generalize j / n % n = b at *
    generalize j % n = c at *
    generalize j / n = jn at *
    have hI : ∀ x y z : Nat, [((x : Nat) : Int), ((y : Nat) : Int), ((z : Nat) : Int)].length = 3 := fun _ _ _ => rfl
    have hno1 := hno j hjN
    rw [hr] at hno1
    clear hno
    cases b0 <;> cases b1 <;> cases b2
    all_goals
      simp only [Bool.not_false, Bool.not_true, Bool.and_true, Bool.and_false, Bool.or_false, Bool.false_or] at hskj
      by_cases hrt : r = hi
      all_goals
        (repeat' (first | refine a_seq ?_ | refine a_skip ?_ | refine a_ret ?_ | refine a_exit ?_ | refine a_region ?_ | refine l_nil ?_ | (apply w_q; (focus (first | exact Q_move (by conv => lhs; whnf) | exact Q_assign (by conv => lhs; whnf) | exact Q_gtr rfl rfl | exact Q_neq rfl rfl | exact Q_add rfl rfl (by omega) | exact Q_ld_rpa rfl KAg.h rfl rfl (by first | (dsimp only [List.drop_zero, List.drop_succ_cons, List.take_succ_cons, List.take_zero, List.map, ofD]; done) | exact rfl) | exact Q_ld_rv rfl rfl KSc.h | exact Q_not rfl | exact Q_pick_t rfl (by assumption) (by conv => lhs; whnf) | exact Q_pick_f rfl (by assumption) (by conv => lhs; whnf) | exact Q_pick_t rfl rfl (by conv => lhs; whnf) | exact Q_pick_f rfl rfl (by conv => lhs; whnf))); (focus exact rfl)) | (refine a_cond rfl ?_ ?_ <;> (intro h; (try (have hp := of_decide_eq_true h)); (try (have hp := of_decide_eq_false h)); (try contradiction); (try (exfalso; omega)))) | refine w_guard_u rfl rfl rfl ?_ | refine w_guard_y rfl rfl rfl (by first | assumption | rfl) ?_ | refine w_guard_n rfl rfl rfl (by first | assumption | rfl) ?_ | (refine w_guard rfl rfl rfl ?_ ?_ <;> (intro h; (try (have hp := of_decide_eq_true h)); (try (have hp := of_decide_eq_false h)); (try contradiction); (try (exfalso; omega)))) | (((first | apply w_q); (focus exact Q_ix_ints (o := 0) rfl rfl rfl KSl.h (by rw [hI]; decide)); (focus exact rfl))) | (((first | apply w_q); (focus exact Q_ix_ints (o := 1) rfl rfl rfl KSl.h (by rw [hI]; decide)); (focus exact rfl))) | (((first | apply w_q); (focus exact Q_ix_ints (o := 2) rfl rfl rfl KSl.h (by rw [hI]; decide)); (focus exact rfl))) | (((first | apply w_q); (focus (refine Q_call (.inl ⟨rfl, rfl⟩) (kh0) ?_; ((repeat' (first | exact trivial | exact vwRL rfl | refine Vw.agg' ?_ | refine ⟨?_, ?_⟩ )); done))); (focus exact rfl))) | (((first | apply w_q); (focus (refine Q_call (.inl ⟨rfl, rfl⟩) (kh1) ?_; ((repeat' (first | exact trivial | exact vwRL rfl | refine Vw.agg' ?_ | refine ⟨?_, ?_⟩ )); done))); (focus exact rfl))) | (((first | apply w_q); (focus (refine Q_call (.inl ⟨rfl, rfl⟩) (kh2) ?_; ((repeat' (first | exact vwRL rfl | refine Vw.agg' ?_ | refine ⟨?_, ?_⟩ )); done))); (focus exact rfl))) | (((first | apply w_q); (focus (refine Q_call (.inl ⟨rfl, rfl⟩) (q) ?_; ((repeat' (first | exact trivial | exact vwR rfl | exact vwRL rfl | exact Vw.ro _ | refine Vw.agg' ?_ | refine ⟨?_, ?_⟩ )); done))); (focus exact rfl))))); (try all_goals (try show retA _ _ _ _ _ _ _))
    all_goals first
      | (exfalso; omega)
      | (exfalso; simp_all; done)
      | (exfalso; simp_all; omega)
      | (try dsimp only [thenA, blockA]
         refine ⟨j + 1, [0, 1], ?_, ?_, ?_, rfl⟩ <;> (try dsimp only)
         · refine ⟨by omega, fun i hi => ?_⟩
           by_cases hij : i = j
           · subst hij
             first
               | (right; rw [hr]; assumption)
               | (left; rw [hskj]; simp_all; done)
               | (left; rw [hskj]; simp_all; omega)
           · exact hall i (by omega)
         · omega
         · (refine St.le_mk rfl (VwOs.mk (by decide) ?_) ?_ <;> (repeat' (first | exact trivial | exact vwR rfl | exact VwO.gone _ | refine ⟨⟨_, rfl, ?_⟩, ?_⟩ | refine ⟨?_, ?_⟩ ))))
      | (rw [hno1 hskj hrt]; refine ⟨[_], [], ⟨resV_tmp (by conv => lhs; whnf), trivial⟩, VwOs.mk (by decide) trivial, ?_, rfl⟩; (repeat' (first | exact vwR rfl)); done)
      | (rw [hno1 (hskj.trans (by simp; omega)) hrt]; refine ⟨[_], [], ⟨resV_tmp (by conv => lhs; whnf), trivial⟩, VwOs.mk (by decide) trivial, ?_, rfl⟩; (repeat' (first | exact vwR rfl)); done)
      | (all_goals trace_state); fail
  · rw [hyes fun i hi => hall i (by omega)]
    (repeat' (first | refine a_seq ?_ | refine a_ret ?_ | refine a_exit ?_ | refine a_region ?_ | refine l_nil ?_ | (apply w_q; (focus (first | exact Q_move (by conv => lhs; whnf) | exact Q_assign (by conv => lhs; whnf) | exact Q_fieldAddr_rpt rfl KFl.h | exact Q_lss rfl rfl | exact Q_ld_rv rfl rfl KSc.h)); (focus exact rfl)) | (refine a_cond rfl ?_ ?_ <;> (intro h; (try (have hp := of_decide_eq_true h)); (try (have hp := of_decide_eq_false h)); (try contradiction); (try (exfalso; omega)))) | (((first | apply w_q); (focus exact Q_mulE rfl rfl (by omega) hm1); (focus exact rfl))) | (((first | apply w_q); (focus exact Q_mulE rfl rfl (by omega) hm2); (focus exact rfl))))); (try all_goals (try show retA _ _ _ _ _ _ _))
    all_goals first
      | (exfalso; omega)
      | (refine ⟨[_], [], ⟨resV_tmp (by conv => lhs; whnf), trivial⟩, VwOs.mk (by decide) trivial, ?_, rfl⟩; (repeat' (first | exact vwR rfl)); done)
      | (all_goals trace_state); fail
end Go.Proofs.YtbgecpjlopdkfaaDoor
