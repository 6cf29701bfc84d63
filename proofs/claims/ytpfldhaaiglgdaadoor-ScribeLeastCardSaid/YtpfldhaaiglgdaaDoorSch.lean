import Derived.Test.YtpfldhaaiglgdaaDoorScg
import Derived.Test.YtpfldhaaiglgdaaDoorFg
set_option linter.unusedSimpArgs false
set_option linter.unusedVariables false
set_option linter.unusedSectionVars false
set_option maxRecDepth 20000
namespace Go.Proofs.YtpfldhaaiglgdaaDoor
attribute [local irreducible] QOp aL aC qL
/-- Where the digits end. -/
def dE (s : ByteArray) : Nat → Nat → Nat
  | 0, p => p
  | f + 1, p => if p < s.size ∧ 48 ≤ bt s p ∧ bt s p ≤ 57 then dE s f (p + 1) else p
theorem dE_dg {s : ByteArray} : ∀ (f p : Nat), s.size - p ≤ f → p ≤ s.size → Dg s p (dE s f p)
  | 0, p, hf, hp => ⟨Nat.le_refl _, hp, fun i h1 h2 => by have : i < p := h2; omega, fun h => by have : p < s.size := h; omega⟩
  | f + 1, p, hf, hp => by
    by_cases h : p < s.size ∧ 48 ≤ bt s p ∧ bt s p ≤ 57
    · have e : dE s (f + 1) p = dE s f (p + 1) := if_pos h
      obtain ⟨h1, h2, h3, h4⟩ := dE_dg (s := s) f (p + 1) (by omega) (by omega)
      rw [e]
      refine ⟨by omega, h2, fun i hi1 hi2 => ?_, h4⟩
      by_cases hi : i = p
      · subst hi; exact h.2
      · exact h3 i (by omega) hi2
    · have e : dE s (f + 1) p = p := if_neg h
      rw [e]
      exact ⟨Nat.le_refl _, hp, fun i h1 h2 => by omega, fun hq hd => h ⟨hq, hd⟩⟩
/-- A number from p on: its value and where it ends, or a fault. -/
def numR (s : ByteArray) (p : Nat) (most er : Int) : Sum (Int × Nat) (Nat × Nat) :=
  if dE s s.size p = p then .inl (1, p) else if bt s p = 48 ∧ p + 1 < dE s s.size p then .inl (1, p + 1) else
  if most < ((cv s p (dE s s.size p - p) : Nat) : Int) then .inl (er, p) else .inr (cv s p (dE s s.size p - p), dE s s.size p)
theorem numR_end {s : ByteArray} {p v e : Nat} {most er : Int} (hp : p ≤ s.size) (h : numR s p most er = .inr (v, e)) : p < e ∧ e ≤ s.size ∧ v ≤ 11 ∧ (v : Int) ≤ most := by
  have hd := dE_dg (s := s) s.size p (by omega) hp
  unfold numR at h
  split at h
  · cases h
  · split at h
    · cases h
    · split at h
      · cases h
      · cases h
        have := hd.le
        have := cv_le s p (dE s s.size p - p)
        have := hd.end'
        exact ⟨by omega, by omega, by omega, by omega⟩
theorem number_r {s : ByteArray} {p v e : Nat} {most er : Int} (hs : s.size ≤ 2000) (hp : p ≤ s.size) (h : numR s p most er = .inr (v, e)) :
    AC Tryd.prog 59 [.ptr 0 0, .val (.int .i64 most), .val (.int .i64 er)] [.box [.val (.string s), .val (.int .i64 (p : Nat))]] (.val (.int .i64 (v : Nat))) [.box [.val (.string s), .val (.int .i64 (e : Nat))]] := by
  have hd := dE_dg (s := s) s.size p (by omega) hp
  unfold numR at h
  split at h
  · cases h
  · rename_i h1
    split at h
    · cases h
    · rename_i h2
      split at h
      · cases h
      · rename_i h3
        cases h
        have := hd.le
        exact number_ok s p _ most er hs hd (by omega) (fun hb => by
          apply Classical.byContradiction
          intro hne
          exact h2 ⟨hb, by omega⟩) (by omega)
theorem number_l {s : ByteArray} {p q : Nat} {most er c : Int} (hs : s.size ≤ 2000) (hp : p ≤ s.size) (h : numR s p most er = .inl (c, q)) :
    APn Tryd.prog 59 [.ptr 0 0, .val (.int .i64 most), .val (.int .i64 er)] [.box [.val (.string s), .val (.int .i64 (p : Nat))]] (flt c q) := by
  have hd := dE_dg (s := s) s.size p (by omega) hp
  unfold numR at h
  split at h
  · rename_i h1
    cases h
    rw [h1] at hd
    exact number_none s _ most er hs hd
  · rename_i h1
    split at h
    · rename_i h2
      cases h
      exact number_zero s p _ most er hs hd h2.1 h2.2
    · rename_i h2
      split at h
      · rename_i h3
        cases h
        have := hd.le
        exact number_big s _ _ most _ hs hd (by omega) (fun hb => by
          apply Classical.byContradiction
          intro hne
          exact h2 ⟨hb, by omega⟩) h3
      · cases h
theorem need_r (s : ByteArray) (p c : Nat) (hs : s.size ≤ 2000) (h1 : p < s.size) (hc : bt s p = c) : AC Tryd.prog 60 [.ptr 0 0, .val (.int .u8 (c : Nat))] [.box [.val (.string s), .val (.int .i64 (p : Nat))]] (.tup []) [.box [.val (.string s), .val (.int .i64 ((p + 1 : Nat) : Int))]] := need_ok s p c hs h1 hc
/-- The pairs from p on, or a fault. -/
def prR (s : ByteArray) (n : Nat) : Nat → Nat → List (Nat × Nat) → Sum (Int × Nat) (List (Nat × Nat))
  | 0, _, L => .inr L
  | f + 1, p, L => if p < s.size then (if bt s p = 32 then (match numR s (p + 1) ((n : Int) - 1) 3 with
      | .inl x => .inl x
      | .inr (a, e) => if e < s.size ∧ bt s e = 60 then (match numR s (e + 1) ((n : Int) - 1) 3 with
        | .inl x => .inl x
        | .inr (b, e2) => prR s n f e2 (L ++ [(a, b)])) else .inl (1, e)) else .inl (1, p)) else .inr L
/-- A text: how many points, and which pairs; or a fault. -/
def rdR (s : ByteArray) : Sum (Int × Nat) (Nat × List (Nat × Nat)) :=
  if 2000 < s.size then .inl (2, 0) else (match numR s 0 10 2 with
    | .inl x => .inl x
    | .inr (n, e) => if e < s.size ∧ bt s e = 58 then (match prR s n (s.size - e) (e + 1) [] with
      | .inl x => .inl x
      | .inr L => .inr (n, L)) else .inl (1, e))
theorem panD_intro {v : Value} {n o1 o2 : Nat} {c1 c2 : List AV} {st : St} (h : st.le ⟨n, [(o1, .ptr 0 0), (o2, .ptr 1 0)], [.box c1, .box c2]⟩ [0, 1]) : panD v n o1 o2 c1 c2 (.panic (pan v)) st := ⟨rfl, h⟩
section
variable {P : Program} {k : Nat} {cx : Cx k} {D : List Deferred} {Q : Exit → St → Prop} {n m : Nat} {vars : List (Nat × AV)} {objs objs' : List AO}
theorem k_nilownC [Zs] {c : Code} (t : Nat) (e : TypeId) (sz : Nat) (h : (⟨n, vars, objs⟩ : St).get t = .val (.slice none 0 0)) (ho : objs ++ [.row e sz []] = objs') (hm : objs.length = m) (hk : aK P cx D c Q ⟨n, (t, .own m) :: vars, objs'⟩) : aK P cx D c Q ⟨n, vars, objs⟩ := by
  subst ho; subst hm
  exact fun a w hr => hk a w (rel_nilown t e sz h hr)
end
theorem toN_pnZ (L : List (Nat × Nat)) : toN (pn L) = L := by simp [toN, pn, Function.comp_def]
set_option maxRecDepth 20000 in
set_option maxHeartbeats 2000000 in
theorem Read_ok (s : ByteArray) (n : Nat) (L : List (Nat × Nat)) (hr : rdR s = .inr (n, L)) (hm : mkE n (pn L) = 0) : AC Tryd.prog 15 [.val (.string s)] [] (.tup [.agg [.val (.int .i64 (n : Nat)), .own 0], .agg [.val (.int .i64 0), .val (.int .i64 0)]]) [.row 3 1 (intc (nl (clos n L)))] := by
  skip
  refine AC.mkD (n := 57) (fn := Tryd.f15) (vars0 := [(3, .ptr 1 0), (2, .ptr 0 0), (0, .val (.string s))]) (c1 := zc1) (c2 := zc2) Tryd.func15 (by kernel_rfl) rfl rfl rfl rfl rfl (fun cx => ?_) rfl rfl read_idle (fun cx D => ?_)
  · dsimp only [argv, Nat.reduceAdd]
    (repeat' (first | refine a_region ?_ | refine l_nil ?_ | refine w_alloc KMk.h (by first|(dsimp only[obA,obB,obD,obE,obF,obG,obI,List.map,AO.sh,AV.sh,AV.shl,Nat.reduceAdd];done)|exact rfl) rfl (by first|(dsimp only[obA,obB,obD,obE,obF,obG,obI,List.map,AO.sh,AV.sh,AV.shl,Nat.reduceAdd];done)|exact rfl) (by first|(dsimp only[obA,obB,obD,obE,obF,obG,obI,List.map,AO.sh,AV.sh,AV.shl,Nat.reduceAdd];done)|exact rfl) rfl ?_)); (try all_goals (try show retA _ _ _ _ _ _ _))
    all_goals first
      | exact rfl
      | (all_goals trace_state); fail
  · have hrd := hr
    unfold rdR at hr
    split at hr
    · cases hr
    rename_i h2000
    have hs : s.size ≤ 2000 := by omega
    split at hr
    · cases hr
    rename_i n' e0 hnum
    split at hr
    rotate_left 1
    · cases hr
    rename_i hcol
    split at hr
    · cases hr
    rename_i L' hprs
    cases hr
    obtain ⟨he0, hs0⟩ := hcol
    have b0 := numR_end (Nat.zero_le _) hnum
    have k1 := number_r hs (Nat.zero_le _) hnum
    rw [show ((0 : Nat) : Int) = 0 from rfl] at k1
    have k2 := need_r s e0 58 hs he0 hs0
    clear hrd hnum
    (repeat' (first | refine k_seq ?_ | refine k_block ?_ | refine k_skip ?_ | refine k_region (by kernel_rfl) (fun _ h => h) ?_ | refine l_nil ?_ | (apply w_q; (focus (first | exact Q_move (by conv => lhs; whnf) | exact Q_assign (by conv => lhs; whnf) | exact Q_gtr rfl rfl | exact Q_build1 KBd.h (by conv => lhs; whnf) (by conv => lhs; whnf) rfl rfl rfl (by simp only [List.map_cons, List.map_nil, List.take_succ_cons, List.take_zero, List.drop_succ_cons, List.drop_zero, List.drop_nil, List.nil_append, List.cons_append, List.append_nil, List.length_cons, List.length_nil, Nat.reduceAdd, Nat.reduceMul]; exact rfl))); (focus exact rfl)) | (refine k_cond rfl ?_ ?_ <;> (intro h; (try (have hp := of_decide_eq_true h)); (try (have hp := of_decide_eq_false h)); (try contradiction); (try (exfalso; omega)))) | refine w_box rfl rfl (by first|(dsimp only[obA,obB,obD,obE,obF,obG,obI,List.map,AO.sh,AV.sh,AV.shl,Nat.reduceAdd];done)|exact rfl) (by first|(dsimp only[obA,obB,obD,obE,obF,obG,obI,List.map,AO.sh,AV.sh,AV.shl,Nat.reduceAdd];done)|exact rfl) rfl ?_ | (((first | apply w_q); (focus exact Q_slen rfl (by kernel_rfl)); (focus exact rfl))) | ((refine w_callW (res := .val (.int .i64 (n : Nat))) (news := [.box [.val (.string s), .val (.int .i64 (e0 : Nat))]]) [2] (.inl ⟨rfl, rfl⟩) (k1) ?_ ?_ rfl rfl (by decide) ?_ rfl rfl ?_ (by first | (dsimp only [List.map, putL, AO.rn, AV.rn, AV.rnl, rn_ints, rn_rows, rn_pairs, List.map_cons, List.map_nil, List.set_cons_zero, List.set_cons_succ, List.getD_cons_zero, List.getD_cons_succ]; done) | exact rfl) (by first | (dsimp only [List.map, putL, AO.rn, AV.rn, AV.rnl, rn_ints, rn_rows, rn_pairs, List.map_cons, List.map_nil, List.set_cons_zero, List.set_cons_succ, List.getD_cons_zero, List.getD_cons_succ]; done) | exact rfl) rfl ?_; rotate_left 0; (focus exact rfl); (focus exact rfl); (focus exact rfl); (focus exact rfl); rotate_left 1; all_goals (try (skip)))) | ((refine w_callW (res := .tup []) (news := [.box [.val (.string s), .val (.int .i64 ((e0 + 1 : Nat) : Int))]]) [2] (.inl ⟨rfl, rfl⟩) (k2) ?_ ?_ rfl rfl (by decide) ?_ rfl rfl ?_ (by first | (dsimp only [List.map, putL, AO.rn, AV.rn, AV.rnl, rn_ints, rn_rows, rn_pairs, List.map_cons, List.map_nil, List.set_cons_zero, List.set_cons_succ, List.getD_cons_zero, List.getD_cons_succ]; done) | exact rfl) (by first | (dsimp only [List.map, putL, AO.rn, AV.rn, AV.rnl, rn_ints, rn_rows, rn_pairs, List.map_cons, List.map_nil, List.set_cons_zero, List.set_cons_succ, List.getD_cons_zero, List.getD_cons_succ]; done) | exact rfl) rfl ?_; rotate_left 0; (focus exact rfl); (focus exact rfl); (focus exact rfl); (focus exact rfl); rotate_left 1; all_goals (try (skip)))))); (try all_goals (try show retA _ _ _ _ _ _ _))
    all_goals first
      | (exfalso; omega)
      | skip
    refine k_nilownC 6 86 2 rfl (by first|(dsimp only[obA,obB,obD,obE,obF,obG,obI,List.map,AO.sh,AV.sh,AV.shl,Nat.reduceAdd];done)|exact rfl) rfl ?_
    (repeat' (first | fail)); (try all_goals (try show retA _ _ _ _ _ _ _))
    refine k_wloop (X := Nat × List (Nat × Nat) × Nat) [0, 2, 3, 4, 5] (by simp only [keepv, getv_cons, Nat.reduceEqDiff, ↓reduceIte]; exact rfl) (fun _ => [(6, .own 3)]) (fun x => [.box zc1, .box zc2, .box [.val (.string s), .val (.int .i64 (x.1 : Nat))], .row 86 2 (pairc (pn x.2.1))]) (fun x => prR s n x.2.2 x.1 x.2.1 = .inr L ∧ x.1 ≤ s.size ∧ s.size < x.1 + x.2.2 ∧ x.2.1.length ≤ x.1) (fun x => x.2.2) ((e0 + 1, [], s.size - e0)) ([0, 1, 2, 3]) ?_ ?_ rfl ?_ <;> (try dsimp only [List.cons_append, List.nil_append])
    · exact ⟨hprs, by omega, by show s.size < e0 + 1 + (s.size - e0); omega, Nat.zero_le _⟩
    · (refine St.le_mk rfl (VwOs.mk (by decide) ?_) ?_ <;> (repeat' (first | exact trivial | exact vwR rfl | exact Vw.own _ _ rfl | exact Vw.ptr _ _ _ rfl | exact VwO.row _ _ _ | refine VwO.box' ?_ | refine ⟨⟨_, rfl, ?_⟩, ?_⟩ | refine ⟨?_, ?_⟩ )))
    rintro ⟨p, M, f⟩ ⟨i1, i2, i3, i4⟩
    dsimp only at i1 i2 i3 i4 ⊢
    rcases f with _ | f
    · omega
    by_cases hpl : p < s.size
    · unfold prR at i1
      rw [if_pos hpl] at i1
      split at i1
      rotate_left 1
      · cases i1
      rename_i hsp
      split at i1
      · cases i1
      rename_i a e1 hn1
      split at i1
      rotate_left 1
      · cases i1
      rename_i hlt
      split at i1
      · cases i1
      rename_i b e2 hn2
      obtain ⟨hl1, hl2⟩ := hlt
      have c1 := numR_end (by omega) hn1
      have c2 := numR_end (by omega) hn2
      have k3 := need_r s p 32 hs hpl hsp
      have k4 := number_r hs (by omega) hn1
      have k5 := need_r s e1 60 hs hl1 hl2
      have k6 := number_r hs (by omega) hn2
      have e7 : pn M ++ [((a : Int), (b : Int))] = pn (M ++ [(a, b)]) := by simp [pn]
      have hML := pn_len M
      clear hn1 hn2 hprs k1 k2
      (repeat' (first | refine k_seq ?_ | refine k_block ?_ | refine k_skip ?_ | refine k_region (by kernel_rfl) (fun _ h => h) ?_ | refine l_nil ?_ | (apply w_q; (focus (first | exact Q_move (by conv => lhs; whnf) | exact Q_assign (by conv => lhs; whnf) | exact Q_fieldAddr_ptr rfl KFl.h | exact Q_load_ptr rfl rfl rfl KSc.h | exact Q_lss rfl rfl | exact Q_sub rfl rfl (by omega) | exact Q_build2 KBd.h (by conv => lhs; whnf) (by conv => lhs; whnf) rfl rfl rfl (by simp only [List.map_cons, List.map_nil, List.take_succ_cons, List.take_zero, List.drop_succ_cons, List.drop_zero, List.drop_nil, List.nil_append, List.cons_append, List.append_nil, List.length_cons, List.length_nil, Nat.reduceAdd, Nat.reduceMul]; exact rfl) (by conv => lhs; whnf) (by conv => lhs; whnf) rfl rfl rfl (by simp only [List.map_cons, List.map_nil, List.take_succ_cons, List.take_zero, List.drop_succ_cons, List.drop_zero, List.drop_nil, List.nil_append, List.cons_append, List.append_nil, List.length_cons, List.length_nil, Nat.reduceAdd, Nat.reduceMul]; exact rfl) | exact Q_nilCheck rfl)); (focus exact rfl)) | (refine k_cond rfl ?_ ?_ <;> (intro h; (try (have hp := of_decide_eq_true h)); (try (have hp := of_decide_eq_false h)); (try contradiction); (try (exfalso; omega)))) | refine w_lit_pair rfl KSl.h KMk.h (by first|(dsimp only[obA,obB,obD,obE,obF,obG,obI,List.map,AO.sh,AV.sh,AV.shl,Nat.reduceAdd];done)|exact rfl) (by first|(dsimp only[obA,obB,obD,obE,obF,obG,obI,List.map,AO.sh,AV.sh,AV.shl,Nat.reduceAdd];done)|exact rfl) rfl ?_ | refine w_ap_pairs rfl rfl rfl rfl KSl.h KMk.h (by simp; omega) (by first|(dsimp only[obA,obB,obD,obE,obF,obG,obI,List.map,AO.sh,AV.sh,AV.shl,Nat.reduceAdd];done)|exact rfl) (by first|(dsimp only[obA,obB,obD,obE,obF,obG,obI,List.map,AO.sh,AV.sh,AV.shl,Nat.reduceAdd];done)|exact rfl) rfl ?_ | (((first | apply w_q); (focus exact Q_slen rfl (by kernel_rfl)); (focus exact rfl))) | ((refine w_callW (res := .tup []) (news := [.box [.val (.string s), .val (.int .i64 ((p + 1 : Nat) : Int))]]) [2] (.inl ⟨rfl, rfl⟩) (k3) ?_ ?_ rfl rfl (by decide) ?_ rfl rfl ?_ (by first | (dsimp only [List.map, putL, AO.rn, AV.rn, AV.rnl, rn_ints, rn_rows, rn_pairs, List.map_cons, List.map_nil, List.set_cons_zero, List.set_cons_succ, List.getD_cons_zero, List.getD_cons_succ]; done) | exact rfl) (by first | (dsimp only [List.map, putL, AO.rn, AV.rn, AV.rnl, rn_ints, rn_rows, rn_pairs, List.map_cons, List.map_nil, List.set_cons_zero, List.set_cons_succ, List.getD_cons_zero, List.getD_cons_succ]; done) | exact rfl) rfl ?_; rotate_left 0; (focus exact rfl); (focus exact rfl); (focus exact rfl); (focus exact rfl); rotate_left 1; all_goals (try (skip)))) | ((refine w_callW (res := .val (.int .i64 (a : Nat))) (news := [.box [.val (.string s), .val (.int .i64 (e1 : Nat))]]) [2] (.inl ⟨rfl, rfl⟩) (k4) ?_ ?_ rfl rfl (by decide) ?_ rfl rfl ?_ (by first | (dsimp only [List.map, putL, AO.rn, AV.rn, AV.rnl, rn_ints, rn_rows, rn_pairs, List.map_cons, List.map_nil, List.set_cons_zero, List.set_cons_succ, List.getD_cons_zero, List.getD_cons_succ]; done) | exact rfl) (by first | (dsimp only [List.map, putL, AO.rn, AV.rn, AV.rnl, rn_ints, rn_rows, rn_pairs, List.map_cons, List.map_nil, List.set_cons_zero, List.set_cons_succ, List.getD_cons_zero, List.getD_cons_succ]; done) | exact rfl) rfl ?_; rotate_left 0; (focus exact rfl); (focus exact rfl); (focus exact rfl); (focus exact rfl); rotate_left 1; all_goals (try (skip)))) | ((refine w_callW (res := .tup []) (news := [.box [.val (.string s), .val (.int .i64 ((e1 + 1 : Nat) : Int))]]) [2] (.inl ⟨rfl, rfl⟩) (k5) ?_ ?_ rfl rfl (by decide) ?_ rfl rfl ?_ (by first | (dsimp only [List.map, putL, AO.rn, AV.rn, AV.rnl, rn_ints, rn_rows, rn_pairs, List.map_cons, List.map_nil, List.set_cons_zero, List.set_cons_succ, List.getD_cons_zero, List.getD_cons_succ]; done) | exact rfl) (by first | (dsimp only [List.map, putL, AO.rn, AV.rn, AV.rnl, rn_ints, rn_rows, rn_pairs, List.map_cons, List.map_nil, List.set_cons_zero, List.set_cons_succ, List.getD_cons_zero, List.getD_cons_succ]; done) | exact rfl) rfl ?_; rotate_left 0; (focus exact rfl); (focus exact rfl); (focus exact rfl); (focus exact rfl); rotate_left 1; all_goals (try (skip)))) | ((refine w_callW (res := .val (.int .i64 (b : Nat))) (news := [.box [.val (.string s), .val (.int .i64 (e2 : Nat))]]) [2] (.inl ⟨rfl, rfl⟩) (k6) ?_ ?_ rfl rfl (by decide) ?_ rfl rfl ?_ (by first | (dsimp only [List.map, putL, AO.rn, AV.rn, AV.rnl, rn_ints, rn_rows, rn_pairs, List.map_cons, List.map_nil, List.set_cons_zero, List.set_cons_succ, List.getD_cons_zero, List.getD_cons_succ]; done) | exact rfl) (by first | (dsimp only [List.map, putL, AO.rn, AV.rn, AV.rnl, rn_ints, rn_rows, rn_pairs, List.map_cons, List.map_nil, List.set_cons_zero, List.set_cons_succ, List.getD_cons_zero, List.getD_cons_succ]; done) | exact rfl) rfl ?_; rotate_left 0; (focus exact rfl); (focus exact rfl); (focus exact rfl); (focus exact rfl); rotate_left 1; all_goals (try (skip)))))); (try all_goals (try show retA _ _ _ _ _ _ _))
      all_goals first
        | (exfalso; omega)
        | (rw [e7]
           try dsimp only [thenA, blockA]
           refine ⟨(e2, M ++ [(a, b)], f), [0, 1, 2, 5], ?_, ?_, ?_, rfl⟩ <;> (try dsimp only)
           · refine ⟨i1, c2.2.1, by show s.size < e2 + f; omega, ?_⟩
             show (M ++ [(a, b)]).length ≤ e2
             rw [List.length_append]; show M.length + 1 ≤ e2
             omega
           · show f < f + 1
             omega
           · (refine St.le_mk rfl (VwOs.mk (by decide) ?_) ?_ <;> (repeat' (first | exact trivial | exact vwR rfl | exact Vw.own _ _ rfl | exact Vw.ptr _ _ _ rfl | exact VwO.row _ _ _ | refine VwO.box' ?_ | refine ⟨⟨_, rfl, ?_⟩, ?_⟩ | refine ⟨?_, ?_⟩ ))))
        | (all_goals trace_state); fail
    · unfold prR at i1
      rw [if_neg hpl] at i1
      cases i1
      have hL : (pn L).length ≤ 9223372036854775807 := by rw [pn_len]; omega
      have kM : AC Tryd.prog 61 [.val (.int .i64 (n : Nat)), pairs (pn L)] [] (.tup [.agg [.val (.int .i64 (n : Nat)), .own 0], .val (.int .i64 0)]) [.row 3 1 (intc (nl (clos n L)))] := by
        have := Make_ac n (pn L) hL 0 hm
        have e2 : toN (pn L) = L := toN_pnZ L
        unfold mkA mkO at this
        rw [e2] at this
        exact this
      clear hprs k1 k2
      generalize clos n L = C at *
      (repeat' (first | refine k_seq ?_ | refine k_skip ?_ | refine k_ret ?_ | refine k_exit ?_ | refine k_region (by kernel_rfl) (fun _ h => h) ?_ | refine l_nil ?_ | (apply w_q; (focus (first | exact Q_move (by conv => lhs; whnf) | exact Q_assign (by conv => lhs; whnf) | exact Q_fieldAddr_ptr rfl KFl.h | exact Q_load_ptr rfl rfl rfl KSc.h | exact Q_load_all rfl rfl KAg.h | exact Q_lss rfl rfl | exact Q_neq rfl rfl | exact Q_build0 KBd.h (by simp only [List.map_cons, List.map_nil, List.take_succ_cons, List.take_zero, List.drop_succ_cons, List.drop_zero, List.drop_nil, List.nil_append, List.cons_append, List.append_nil, List.length_cons, List.length_nil, Nat.reduceAdd, Nat.reduceMul]; exact rfl) | exact Q_extract rfl (by conv => lhs; whnf) | exact Q_nilCheck rfl)); (focus exact rfl)) | (refine k_cond rfl ?_ ?_ <;> (intro h; (try (have hp := of_decide_eq_true h)); (try (have hp := of_decide_eq_false h)); (try contradiction); (try (exfalso; omega)))) | refine w_store_all rfl rfl rfl rfl rfl KSz.h (by first|(dsimp only[obA,obB,obD,obE,obF,obG,obI,List.map,AO.sh,AV.sh,AV.shl,Nat.reduceAdd];done)|exact rfl) ?_ | (((first | apply w_q); (focus exact Q_slen rfl (by kernel_rfl)); (focus exact rfl))) | ((refine w_callR (res := .tup [.agg [.val (.int .i64 (n : Nat)), .own 0], .val (.int .i64 0)]) (news := [.row 3 1 (intc (nl C))]) (.inl ⟨rfl, rfl⟩) (kM) ?_ ?_ ?_ rfl (by repeat' (first | exact trivial | exact flat_ints _ _ | refine ⟨?_, ?_⟩)) (by first|(dsimp only[obA,obB,obD,obE,obF,obG,obI,List.map,AO.sh,AV.sh,AV.shl,Nat.reduceAdd];done)|exact rfl) (by first|(dsimp only[obA,obB,obD,obE,obF,obG,obI,List.map,AO.sh,AV.sh,AV.shl,Nat.reduceAdd];done)|exact rfl) rfl ?_; rotate_left 0; (focus exact rfl); (focus exact rfl); (focus ((repeat' (first | exact trivial | exact vwR rfl | exact Vw.rowro _ _ _ _ rfl (by decide) | refine ⟨?_, ?_⟩ )); done)); rotate_left 1; all_goals (try (skip)))))); (try all_goals (try show retA _ _ _ _ _ _ _))
      all_goals first
        | (exfalso; omega)
        | (refine ⟨[_, _], [4], ⟨resV_cell rfl rfl KAg.h, resV_cell rfl rfl KAg.h, trivial⟩, VwOs.mk (by decide) ⟨⟨_, rfl, .row _ _ _⟩, trivial⟩, ?_, rfl⟩; (repeat' (first | exact trivial | exact vwR rfl | exact vwRL rfl | exact Vw.own _ _ rfl | refine Vw.agg' ?_ | refine Vw.tup' ?_ | refine ⟨?_, ?_⟩ )); done)
        | (all_goals trace_state); fail
end Go.Proofs.YtpfldhaaiglgdaaDoor
