import Derived.Test.YtpfldhaaiglgdaaDoorEngZzw
import Derived.Test.YtpfldhaaiglgdaaDoorEngZzu
import Derived.Test.YtpfldhaaiglgdaaDoorEngZf
import Derived.Test.YtpfldhaaiglgdaaDoorScd
set_option linter.unusedSimpArgs false
set_option linter.unusedVariables false
set_option linter.unusedSectionVars false
set_option maxRecDepth 20000
namespace Go.Proofs.YtpfldhaaiglgdaaDoor
attribute [local irreducible] QOp aL aC qL
/-- The byte of a text at a place. -/
def bt (s : ByteArray) (i : Nat) : Nat := if h : i < s.size then (s[i]'h).toNat else 0
theorem bt_lt (s : ByteArray) (i : Nat) : bt s i < 256 := by
  unfold bt
  split
  · exact (s[i]).toNat_lt
  · omega
section
variable {P : Program} {st : St} {d : Option Tmp} {ty : TypeId} {pos : String} {af : Array Edge} {g : Option (Nat × Bool)} {T T' : TypeId} {x y : Operand} {m n : Int}
theorem Q_sidx {s : ByteArray} {u : Int} {j : Nat} (hx : st.ev x = .val (.string s)) (hi : st.ev y = .val (.int .i64 u)) (hu : u = (j : Int)) (ht : P.underlying T = some .string) (h : j < s.size) : QOp P ⟨d, .index T x y, ty, pos, af, g⟩ st (.val (.int .u8 (bt s j : Nat))) :=
  .run fun _ _ a hr => ⟨_, .val _, fun w1 _ => by
    subst hu
    have e := run_index_string (P := P) w1 T s .i64 (j : Int) ht
    rw [dif_pos (by omega)] at e
    have e2 : bt s j = (s[(j : Int).toNat]'(by simpa using h)).toNat := by unfold bt; rw [dif_pos h]; rfl
    simp [execOp, hr.evv hx, hr.evv hi, e, e2]⟩
theorem Q_neq8 (hx : st.ev x = .val (.int .u8 m)) (hy : st.ev y = .val (.int .u8 n)) : QOp P ⟨d, .binOp .neq T x y T', ty, pos, af, g⟩ st (.val (.bool (decide (m ≠ n)))) := Q_bin hx hy fun _ => by rw [← bne_dec]; rfl
theorem Q_geq8 (hx : st.ev x = .val (.int .u8 m)) (hy : st.ev y = .val (.int .u8 n)) : QOp P ⟨d, .binOp .geq T x y T', ty, pos, af, g⟩ st (.val (.bool (decide (n ≤ m)))) := Q_bin hx hy fun _ => rfl
theorem Q_leq8 (hx : st.ev x = .val (.int .u8 m)) (hy : st.ev y = .val (.int .u8 n)) : QOp P ⟨d, .binOp .leq T x y T', ty, pos, af, g⟩ st (.val (.bool (decide (m ≤ n)))) := Q_bin hx hy fun _ => rfl
theorem Q_eql8 (hx : st.ev x = .val (.int .u8 m)) (hy : st.ev y = .val (.int .u8 n)) : QOp P ⟨d, .binOp .eql T x y T', ty, pos, af, g⟩ st (.val (.bool (decide (m = n)))) := Q_bin hx hy fun _ => by rw [← beq_dec]; rfl
theorem Q_sub8 (hx : st.ev x = .val (.int .u8 m)) (hy : st.ev y = .val (.int .u8 n)) (h : 0 ≤ m - n ∧ m - n < 256) : QOp P ⟨d, .binOp .sub T x y T', ty, pos, af, g⟩ st (.val (.int .u8 (m - n))) := Q_bin hx hy fun _ => by
  show Result.ok (Value.int .u8 (IntKind.u8.wrap (m - n))) _ = _
  have : IntKind.u8.wrap (m - n) = m - n := by
    unfold IntKind.wrap
    simp [IntKind.bits, IntKind.signed]
    omega
  rw [this]
end
/-- A fault, as it is thrown. -/
def flt (e at' : Int) : Value := .iface 33 (.agg #[.int .i64 e, .int .i64 at'])
theorem fail_ap (e at' : Int) : APn Tryd.prog 58 [.val (.int .i64 e), .val (.int .i64 at')] [] (flt e at') := by
  refine ⟨⟨_, Tryd.func58, by kernel_rfl, by kernel_rfl⟩, ?_⟩
  intro _ ρ w vs hg hsz hargs
  match vs, hsz, hargs with
  | ⟨[v0, v1]⟩, _, hargs =>
    have h0 := (hargs 0 _ v0 rfl rfl).val_inv
    have h1 := (hargs 1 _ v1 rfl rfl).val_inv
    subst h0 h1
    refine calls_of_wp Tryd.func58 rfl ?_
    refine wp_region_lit (l := _) ?_
    simp [wpList, Oper.wp, go_sem, Region.wanted, Act.eval, execOp, bodyPost, run_panic_iface, Oper.upon, pan, flt, Same.refl]
set_option maxRecDepth 20000 in
theorem need_ok (s : ByteArray) (p c : Nat) (hs : s.size ≤ 2000) (h1 : p < s.size) (hc : bt s p = c) : AC Tryd.prog 60 [.ptr 0 0, .val (.int .u8 (c : Nat))] [.box [.val (.string s), .val (.int .i64 (p : Nat))]] (.tup []) [.box [.val (.string s), .val (.int .i64 ((p : Int) + 1))]] := by
  refine AC.mk (n := 39) (fn := Tryd.f60) Tryd.func60 (by kernel_rfl) rfl rfl rfl rfl (fun cx => ?_); dsimp only [argv, Nat.reduceAdd]
  (repeat' (first | refine a_seq ?_ | refine a_skip ?_ | refine a_region ?_ | refine l_nil ?_ | refine q_nil ?_ | ((first | apply w_q | apply w_qq); (focus (first | exact Q_move (by conv => lhs; whnf) | exact Q_fieldAddr_ptr rfl KFl.h | exact Q_load_ptr rfl rfl rfl KSc.h | exact Q_eql rfl rfl | exact Q_add rfl rfl (by omega) | exact Q_pick_f rfl (by assumption) (by conv => lhs; whnf) | exact Q_nilCheck rfl)); (focus exact rfl)) | (refine a_cond rfl ?_ ?_ <;> (intro h; (try (have hp := of_decide_eq_true h)); (try (have hp := of_decide_eq_false h)); (try contradiction); (try (exfalso; omega)))) | refine w_qguard_y rfl rfl rfl (by first | assumption | rfl) ?_ | ((first | refine w_qguard rfl rfl rfl ?_ ?_) <;> (intro h; (try (have hp := of_decide_eq_true h)); (try (have hp := of_decide_eq_false h)); (try contradiction); (try (exfalso; omega)))) | refine a_draw (by kernel_rfl) (by kernel_rfl) ?_ | refine w_store rfl rfl rfl (by conv => lhs; whnf) rfl KSz.h (by first|(dsimp only[obA,obB,obD,obE,obF,obG,obI,List.map,AO.sh,AV.sh,AV.shl,Nat.reduceAdd];done)|exact rfl) (by first|(dsimp only[obA,obB,obD,obE,obF,obG,obI,List.map,AO.sh,AV.sh,AV.shl,Nat.reduceAdd];done)|exact rfl) ?_ | (((first | apply w_qq); (focus exact Q_slen rfl (by kernel_rfl)); (focus exact rfl))) | (((first | apply w_qq); (focus exact Q_sidx (j := p) rfl rfl rfl (by kernel_rfl) h1); (focus exact rfl))) | (((first | apply w_qq); (focus exact Q_neq8 rfl rfl); (focus exact rfl))))); (try all_goals (try show retA _ _ _ _ _ _ _))
  all_goals first
    | (exfalso; omega)
    | (refine ⟨[], [0], trivial, VwOs.mk (by decide) ⟨⟨_, rfl, .box' ⟨.val _, .val _, trivial⟩⟩, trivial⟩, ?_, rfl⟩; (repeat' (first | exact trivial | refine Vw.tup' ?_)); done)
    | (all_goals trace_state); fail
set_option maxRecDepth 20000 in
theorem need_bad (s : ByteArray) (p c : Nat) (hs : s.size ≤ 2000) (h1 : p ≤ s.size) (hc : p = s.size ∨ bt s p ≠ c) : APn Tryd.prog 60 [.ptr 0 0, .val (.int .u8 (c : Nat))] [.box [.val (.string s), .val (.int .i64 (p : Nat))]] (flt 1 p) := by
  refine APn.mk (n := 39) (fn := Tryd.f60) Tryd.func60 (by kernel_rfl) rfl rfl rfl (fun cx => ?_); dsimp only [argv, Nat.reduceAdd]
  rcases hc with hc | hc
  · (repeat' (first | refine a_seq ?_ | refine a_region ?_ | refine q_nil ?_ | ((first | apply w_q | apply w_qq); (focus (first | exact Q_move (by conv => lhs; whnf) | exact Q_fieldAddr_ptr rfl KFl.h | exact Q_load_ptr rfl rfl rfl KSc.h | exact Q_eql rfl rfl | exact Q_pick_t rfl (by assumption) (by conv => lhs; whnf) | exact Q_nilCheck rfl)); (focus exact rfl)) | (refine a_cond rfl ?_ ?_ <;> (intro h; (try (have hp := of_decide_eq_true h)); (try (have hp := of_decide_eq_false h)); (try contradiction); (try (exfalso; omega)))) | refine w_qguard_n rfl rfl rfl (by first | assumption | rfl) ?_ | ((first | refine w_qguard rfl rfl rfl ?_ ?_) <;> (intro h; (try (have hp := of_decide_eq_true h)); (try (have hp := of_decide_eq_false h)); (try contradiction); (try (exfalso; omega)))) | refine a_draw (by kernel_rfl) (by kernel_rfl) ?_ | (((first | apply w_q | apply w_qq); (focus exact Q_slen rfl (by kernel_rfl)); (focus exact rfl))) | ((refine l_callP0 (vs := [.int .i64 1, .int .i64 (p : Nat)]) (fail_ap 1 p) rfl rfl ?_; exact rfl)))); (try all_goals (try show retA _ _ _ _ _ _ _))
    all_goals first
      | (exfalso; omega)
      | (all_goals trace_state); fail
  · by_cases h2 : p = s.size
    · (repeat' (first | refine a_seq ?_ | refine a_region ?_ | refine q_nil ?_ | ((first | apply w_q | apply w_qq); (focus (first | exact Q_move (by conv => lhs; whnf) | exact Q_fieldAddr_ptr rfl KFl.h | exact Q_load_ptr rfl rfl rfl KSc.h | exact Q_eql rfl rfl | exact Q_pick_t rfl (by assumption) (by conv => lhs; whnf) | exact Q_nilCheck rfl)); (focus exact rfl)) | (refine a_cond rfl ?_ ?_ <;> (intro h; (try (have hp := of_decide_eq_true h)); (try (have hp := of_decide_eq_false h)); (try contradiction); (try (exfalso; omega)))) | refine w_qguard_n rfl rfl rfl (by first | assumption | rfl) ?_ | ((first | refine w_qguard rfl rfl rfl ?_ ?_) <;> (intro h; (try (have hp := of_decide_eq_true h)); (try (have hp := of_decide_eq_false h)); (try contradiction); (try (exfalso; omega)))) | refine a_draw (by kernel_rfl) (by kernel_rfl) ?_ | (((first | apply w_q | apply w_qq); (focus exact Q_slen rfl (by kernel_rfl)); (focus exact rfl))) | ((refine l_callP0 (vs := [.int .i64 1, .int .i64 (p : Nat)]) (fail_ap 1 p) rfl rfl ?_; exact rfl)))); (try all_goals (try show retA _ _ _ _ _ _ _))
      all_goals first
        | (exfalso; omega)
        | (all_goals trace_state); fail
    · have h3 : p < s.size := by omega
      (repeat' (first | refine a_seq ?_ | refine a_region ?_ | refine q_nil ?_ | ((first | apply w_q | apply w_qq); (focus (first | exact Q_move (by conv => lhs; whnf) | exact Q_fieldAddr_ptr rfl KFl.h | exact Q_load_ptr rfl rfl rfl KSc.h | exact Q_eql rfl rfl | exact Q_pick_f rfl (by assumption) (by conv => lhs; whnf) | exact Q_nilCheck rfl)); (focus exact rfl)) | (refine a_cond rfl ?_ ?_ <;> (intro h; (try (have hp := of_decide_eq_true h)); (try (have hp := of_decide_eq_false h)); (try contradiction); (try (exfalso; omega)))) | refine w_qguard_y rfl rfl rfl (by first | assumption | rfl) ?_ | ((first | refine w_qguard rfl rfl rfl ?_ ?_) <;> (intro h; (try (have hp := of_decide_eq_true h)); (try (have hp := of_decide_eq_false h)); (try contradiction); (try (exfalso; omega)))) | refine a_draw (by kernel_rfl) (by kernel_rfl) ?_ | (((first | apply w_q | apply w_qq); (focus exact Q_slen rfl (by kernel_rfl)); (focus exact rfl))) | (((first | apply w_q | apply w_qq); (focus exact Q_sidx (j := p) rfl rfl rfl (by kernel_rfl) h3); (focus exact rfl))) | (((first | apply w_q | apply w_qq); (focus exact Q_neq8 rfl rfl); (focus exact rfl))) | ((refine l_callP0 (vs := [.int .i64 1, .int .i64 (p : Nat)]) (fail_ap 1 p) rfl rfl ?_; exact rfl)))); (try all_goals (try show retA _ _ _ _ _ _ _))
      all_goals first
        | (exfalso; omega)
        | (all_goals trace_state); fail
/-! A number. -/
def isD (c : Nat) : Bool := decide (48 ≤ c) && decide (c ≤ 57)
/-- The value of k digits, up to 11. -/
def cv (s : ByteArray) (p : Nat) : Nat → Nat
  | 0 => 0
  | k + 1 => min (cv s p k * 10 + (bt s (p + k) - 48)) 11
theorem cv_le (s : ByteArray) (p : Nat) : ∀ k, cv s p k ≤ 11
  | 0 => Nat.zero_le _
  | k + 1 => Nat.min_le_right _ _
theorem cv_pos {s : ByteArray} {p : Nat} (h : 48 < bt s p) : ∀ k, 1 ≤ cv s p (k + 1)
  | 0 => by
    show 1 ≤ min (0 * 10 + (bt s (p + 0) - 48)) 11
    rw [Nat.add_zero]
    omega
  | k + 1 => by
    have := cv_pos h k
    show 1 ≤ min (cv s p (k + 1) * 10 + (bt s (p + (k + 1)) - 48)) 11
    omega
/-- Digits stand from p up to e, and no further. -/
structure Dg (s : ByteArray) (p e : Nat) : Prop where
  le : p ≤ e
  end' : e ≤ s.size
  dig : ∀ i, p ≤ i → i < e → 48 ≤ bt s i ∧ bt s i ≤ 57
  stop : e < s.size → ¬ (48 ≤ bt s e ∧ bt s e ≤ 57)
theorem Dg.ex {s : ByteArray} : ∀ (f p : Nat), s.size - p = f → p ≤ s.size → ∃ e, Dg s p e
  | 0, p, hf, hp => ⟨p, Nat.le_refl _, hp, fun i h1 h2 => by omega, fun h => by omega⟩
  | f + 1, p, hf, hp => by
    by_cases h : 48 ≤ bt s p ∧ bt s p ≤ 57
    · obtain ⟨e, h1, h2, h3, h4⟩ := Dg.ex (s := s) f (p + 1) (by omega) (by omega)
      refine ⟨e, by omega, h2, fun i hi1 hi2 => ?_, h4⟩
      by_cases hi : i = p
      · subst hi; exact h
      · exact h3 i (by omega) hi2
    · exact ⟨p, Nat.le_refl _, hp, fun i h1 h2 => by omega, fun _ => h⟩
set_option maxRecDepth 20000 in
set_option maxHeartbeats 2000000 in
theorem number_ok (s : ByteArray) (p e : Nat) (most er : Int) (hs : s.size ≤ 2000) (hd : Dg s p e) (hne : p < e) (hz : bt s p = 48 → e = p + 1) (hm : ((cv s p (e - p) : Nat) : Int) ≤ most) :
    AC Tryd.prog 59 [.ptr 0 0, .val (.int .i64 most), .val (.int .i64 er)] [.box [.val (.string s), .val (.int .i64 (p : Nat))]] (.val (.int .i64 (cv s p (e - p) : Nat))) [.box [.val (.string s), .val (.int .i64 (e : Nat))]] := by
  obtain ⟨d1, d2, d3, d4⟩ := hd
  refine AC.mk (n := 102) (fn := Tryd.f59) Tryd.func59 (by kernel_rfl) rfl rfl rfl rfl (fun cx => ?_); dsimp only [argv, Nat.reduceAdd]
  (repeat' (first | refine a_seq ?_ | refine a_block ?_ | refine a_region ?_ | refine l_nil ?_ | ((first | apply w_q); (focus (first | exact Q_move (by conv => lhs; whnf) | exact Q_assign (by conv => lhs; whnf) | exact Q_fieldAddr_ptr rfl KFl.h | exact Q_load_ptr rfl rfl rfl KSc.h | exact Q_nilCheck rfl)); (focus exact rfl)))); (try all_goals (try show retA _ _ _ _ _ _ _))
  rw [show ((p : Nat) : Int) = ((p + 0 : Nat) : Int) from rfl]
  refine w_loop (X := Nat) [0, 1, 2, 7] (by simp only [keepv, getv_cons, Nat.reduceEqDiff, ↓reduceIte]; exact rfl) (fun k => [(8, .val (.int .i64 (cv s p k : Nat)))]) (fun k => [.box [.val (.string s), .val (.int .i64 ((p + k : Nat) : Int))]]) (fun k => k ≤ e - p) (fun k => e - p - k) (0) ([0]) ?_ ?_ rfl ?_ <;> (try dsimp only [List.cons_append, List.nil_append])
  · exact Nat.zero_le _
  · (refine St.le_mk rfl (VwOs.mk (by decide) ?_) ?_ <;> (repeat' (first | exact trivial | exact vwR rfl | exact Vw.ptr _ _ _ rfl | refine VwO.box' ?_ | refine ⟨⟨_, rfl, ?_⟩, ?_⟩ | refine ⟨?_, ?_⟩ )))
  rintro k hk
  have hcv := cv_le s p k
  by_cases hkl : k < e - p
  · have e1 := d3 (p + k) (by omega) (by omega)
    have e2 : p + k < s.size := by omega
    have e4 : cv s p (k + 1) = min (cv s p k * 10 + (bt s (p + k) - 48)) 11 := rfl
    have e5 : 1 ≤ k → 1 ≤ cv s p k := fun h => by
      obtain ⟨j, rfl⟩ := Nat.exists_eq_add_of_le h
      rw [Nat.add_comm]
      refine cv_pos ?_ j
      have := d3 p (Nat.le_refl _) hne
      by_cases hb : bt s p = 48
      · have := hz hb; omega
      · omega
    have e6 : min (((cv s p k : Nat) : Int) * 10 + (((bt s (p + k) : Nat) : Int) - 48)) 11 = ((cv s p (k + 1) : Nat) : Int) := by omega
    have e7 : ((p + k : Nat) : Int) + 1 = ((p + (k + 1) : Nat) : Int) := by omega
    clear e4
    (repeat' (first | refine a_seq ?_ | refine a_block ?_ | refine a_skip ?_ | refine a_region ?_ | refine l_nil ?_ | refine q_nil ?_ | ((first | apply w_q | apply w_qq); (focus (first | exact Q_move (by conv => lhs; whnf) | exact Q_assign (by conv => lhs; whnf) | exact Q_fieldAddr_ptr rfl KFl.h | exact Q_load_ptr rfl rfl rfl KSc.h | exact Q_lss rfl rfl | exact Q_gtr rfl rfl | exact Q_eql rfl rfl | exact Q_add rfl rfl (by omega) | exact Q_pick_t rfl (by assumption) (by conv => lhs; whnf) | exact Q_pick_f rfl (by assumption) (by conv => lhs; whnf) | exact Q_min rfl rfl rfl | exact Q_nilCheck rfl)); (focus exact rfl)) | (refine a_cond rfl ?_ ?_ <;> (intro h; (try (have hp := of_decide_eq_true h)); (try (have hp := of_decide_eq_false h)); (try contradiction); (try (exfalso; omega)))) | refine w_guard_y rfl rfl rfl (by first | assumption | rfl) ?_ | refine w_guard_n rfl rfl rfl (by first | assumption | rfl) ?_ | refine w_qguard_y rfl rfl rfl (by first | assumption | rfl) ?_ | ((first | refine w_guard rfl rfl rfl ?_ ?_ | refine w_qguard rfl rfl rfl ?_ ?_) <;> (intro h; (try (have hp := of_decide_eq_true h)); (try (have hp := of_decide_eq_false h)); (try contradiction); (try (exfalso; omega)))) | refine a_draw (by kernel_rfl) (by kernel_rfl) ?_ | refine w_store rfl rfl rfl (by conv => lhs; whnf) rfl KSz.h (by first|(dsimp only[obA,obB,obD,obE,obF,obG,obI,List.map,AO.sh,AV.sh,AV.shl,Nat.reduceAdd];done)|exact rfl) (by first|(dsimp only[obA,obB,obD,obE,obF,obG,obI,List.map,AO.sh,AV.sh,AV.shl,Nat.reduceAdd];done)|exact rfl) ?_ | (((first | apply w_qq); (focus exact Q_slen rfl (by kernel_rfl)); (focus exact rfl))) | (((first | apply w_qq); (focus exact Q_sidx (j := p + k) rfl rfl rfl (by kernel_rfl) e2); (focus exact rfl))) | (((first | apply w_qq); (focus exact Q_geq8 rfl rfl); (focus exact rfl))) | (((first | apply w_qq); (focus exact Q_leq8 rfl rfl); (focus exact rfl))) | (((first | apply w_qq); (focus exact Q_sub8 rfl rfl (by omega)); (focus exact rfl))) | (((first | apply w_qq); (focus exact Q_mul rfl rfl (by omega)); (focus exact rfl))) | (((first | apply w_qq); (focus exact Q_conv (n := ((bt s (p + k) : Nat) : Int) - 48) rfl Tryd.underlying5 Tryd.underlying3 (IntWalk.i64_in _ (by omega))); (focus exact rfl))))); (try all_goals (try show retA _ _ _ _ _ _ _))
    all_goals first
      | (exfalso; omega)
      | (rw [e6, e7]; refine ⟨k + 1, [0], ?_, ?_, ?_, rfl⟩ <;> (try dsimp only)
         · omega
         · omega
         · (refine St.le_mk rfl (VwOs.mk (by decide) ?_) ?_ <;> (repeat' (first | exact trivial | exact vwR rfl | exact Vw.ptr _ _ _ rfl | refine VwO.box' ?_ | refine ⟨⟨_, rfl, ?_⟩, ?_⟩ | refine ⟨?_, ?_⟩ ))))
      | (all_goals trace_state); fail
  · obtain rfl : k = e - p := by omega
    have e8 : p + (e - p) = e := by omega
    rw [e8]
    by_cases e2 : e < s.size
    · have d5 := d4 e2
      by_cases d6 : 48 ≤ bt s e
      · (repeat' (first | refine a_seq ?_ | refine a_skip ?_ | refine a_ret ?_ | refine a_exit ?_ | refine a_region ?_ | refine l_nil ?_ | refine q_nil ?_ | ((first | apply w_q | apply w_qq); (focus (first | exact Q_move (by conv => lhs; whnf) | exact Q_assign (by conv => lhs; whnf) | exact Q_fieldAddr_ptr rfl KFl.h | exact Q_load_ptr rfl rfl rfl KSc.h | exact Q_lss rfl rfl | exact Q_gtr rfl rfl | exact Q_eql rfl rfl | exact Q_pick_t rfl (by assumption) (by conv => lhs; whnf) | exact Q_nilCheck rfl)); (focus exact rfl)) | (refine a_cond rfl ?_ ?_ <;> (intro h; (try (have hp := of_decide_eq_true h)); (try (have hp := of_decide_eq_false h)); (try contradiction); (try (exfalso; omega)))) | refine w_qguard_y rfl rfl rfl (by first | assumption | rfl) ?_ | ((first | refine w_qguard rfl rfl rfl ?_ ?_) <;> (intro h; (try (have hp := of_decide_eq_true h)); (try (have hp := of_decide_eq_false h)); (try contradiction); (try (exfalso; omega)))) | refine a_draw (by kernel_rfl) (by kernel_rfl) ?_ | (((first | apply w_qq); (focus exact Q_slen rfl (by kernel_rfl)); (focus exact rfl))) | (((first | apply w_qq); (focus exact Q_sidx (j := e) rfl rfl rfl (by kernel_rfl) e2); (focus exact rfl))) | (((first | apply w_qq); (focus exact Q_geq8 rfl rfl); (focus exact rfl))) | (((first | apply w_qq); (focus exact Q_leq8 rfl rfl); (focus exact rfl))))); (try all_goals (try show retA _ _ _ _ _ _ _))
        all_goals first
          | (exfalso; omega)
          | (refine ⟨[_], [0], ⟨resV_tmp (by conv => lhs; whnf), trivial⟩, VwOs.mk (by decide) ⟨⟨_, rfl, .box' ⟨.val _, .val _, trivial⟩⟩, trivial⟩, ?_, rfl⟩; (repeat' (first | exact vwR rfl)); done)
          | (all_goals trace_state); fail
      · (repeat' (first | refine a_seq ?_ | refine a_skip ?_ | refine a_ret ?_ | refine a_exit ?_ | refine a_region ?_ | refine l_nil ?_ | refine q_nil ?_ | ((first | apply w_q | apply w_qq); (focus (first | exact Q_move (by conv => lhs; whnf) | exact Q_assign (by conv => lhs; whnf) | exact Q_fieldAddr_ptr rfl KFl.h | exact Q_load_ptr rfl rfl rfl KSc.h | exact Q_lss rfl rfl | exact Q_gtr rfl rfl | exact Q_eql rfl rfl | exact Q_pick_t rfl (by assumption) (by conv => lhs; whnf) | exact Q_pick_f rfl (by assumption) (by conv => lhs; whnf) | exact Q_nilCheck rfl)); (focus exact rfl)) | (refine a_cond rfl ?_ ?_ <;> (intro h; (try (have hp := of_decide_eq_true h)); (try (have hp := of_decide_eq_false h)); (try contradiction); (try (exfalso; omega)))) | refine w_qguard_y rfl rfl rfl (by first | assumption | rfl) ?_ | refine w_qguard_n rfl rfl rfl (by first | assumption | rfl) ?_ | ((first | refine w_qguard rfl rfl rfl ?_ ?_) <;> (intro h; (try (have hp := of_decide_eq_true h)); (try (have hp := of_decide_eq_false h)); (try contradiction); (try (exfalso; omega)))) | refine a_draw (by kernel_rfl) (by kernel_rfl) ?_ | (((first | apply w_qq); (focus exact Q_slen rfl (by kernel_rfl)); (focus exact rfl))) | (((first | apply w_qq); (focus exact Q_sidx (j := e) rfl rfl rfl (by kernel_rfl) e2); (focus exact rfl))) | (((first | apply w_qq); (focus exact Q_geq8 rfl rfl); (focus exact rfl))))); (try all_goals (try show retA _ _ _ _ _ _ _))
        all_goals first
          | (exfalso; omega)
          | (refine ⟨[_], [0], ⟨resV_tmp (by conv => lhs; whnf), trivial⟩, VwOs.mk (by decide) ⟨⟨_, rfl, .box' ⟨.val _, .val _, trivial⟩⟩, trivial⟩, ?_, rfl⟩; (repeat' (first | exact vwR rfl)); done)
          | (all_goals trace_state); fail
    · (repeat' (first | refine a_seq ?_ | refine a_skip ?_ | refine a_ret ?_ | refine a_exit ?_ | refine a_region ?_ | refine l_nil ?_ | refine q_nil ?_ | ((first | apply w_q | apply w_qq); (focus (first | exact Q_move (by conv => lhs; whnf) | exact Q_assign (by conv => lhs; whnf) | exact Q_fieldAddr_ptr rfl KFl.h | exact Q_load_ptr rfl rfl rfl KSc.h | exact Q_lss rfl rfl | exact Q_gtr rfl rfl | exact Q_eql rfl rfl | exact Q_pick_f rfl (by assumption) (by conv => lhs; whnf) | exact Q_pick_f rfl rfl (by conv => lhs; whnf) | exact Q_nilCheck rfl)); (focus exact rfl)) | (refine a_cond rfl ?_ ?_ <;> (intro h; (try (have hp := of_decide_eq_true h)); (try (have hp := of_decide_eq_false h)); (try contradiction); (try (exfalso; omega)))) | refine w_qguard_n rfl rfl rfl (by first | assumption | rfl) ?_ | ((first | refine w_qguard rfl rfl rfl ?_ ?_) <;> (intro h; (try (have hp := of_decide_eq_true h)); (try (have hp := of_decide_eq_false h)); (try contradiction); (try (exfalso; omega)))) | refine a_draw (by kernel_rfl) (by kernel_rfl) ?_ | (((first | apply w_qq); (focus exact Q_slen rfl (by kernel_rfl)); (focus exact rfl))))); (try all_goals (try show retA _ _ _ _ _ _ _))
      all_goals first
        | (exfalso; omega)
        | (refine ⟨[_], [0], ⟨resV_tmp (by conv => lhs; whnf), trivial⟩, VwOs.mk (by decide) ⟨⟨_, rfl, .box' ⟨.val _, .val _, trivial⟩⟩, trivial⟩, ?_, rfl⟩; (repeat' (first | exact vwR rfl)); done)
        | (all_goals trace_state); fail
end Go.Proofs.YtpfldhaaiglgdaaDoor
