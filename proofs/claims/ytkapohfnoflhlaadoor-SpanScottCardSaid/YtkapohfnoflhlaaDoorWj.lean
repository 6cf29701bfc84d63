import Derived.Test.YtkapohfnoflhlaaDoorWi
import Derived.Test.YtkapohfnoflhlaaDoorEngZzc
set_option linter.unusedSimpArgs false
set_option linter.unusedVariables false
set_option linter.unusedSectionVars false
set_option maxRecDepth 20000
namespace Go.Proofs.YtkapohfnoflhlaaDoor
attribute [local irreducible] QOp aL aC qL
/-! Plain. -/
def qdF (p : Nat → Bool) : Nat → Option Nat
  | 0 => none
  | k + 1 => match qdF p k with
    | some a => some a
    | none => if p k = true then some k else none
theorem qdF_none {p : Nat → Bool} : ∀ {k : Nat}, (∀ i, i < k → p i = false) → qdF p k = none
  | 0, _ => rfl
  | k + 1, h => by rw [qdF, qdF_none fun i hi => h i (by omega)]; show (if p k = true then some k else none) = none; rw [h k (by omega)]; rfl
theorem qdF_some {p : Nat → Bool} {i : Nat} (h1 : ∀ j, j < i → p j = false) (h2 : p i = true) : ∀ {k : Nat}, i < k → qdF p k = some i
  | k + 1, h => by
    by_cases hik : i = k
    · subst hik
      rw [qdF, qdF_none h1]; show (if p i = true then some i else none) = some i; rw [h2]; rfl
    · rw [qdF, qdF_some h1 h2 (by omega)]
theorem qdF_all {p : Nat → Bool} {i : Nat} : ∀ {k : Nat}, qdF p k = some i → i < k ∧ p i = true ∧ ∀ j, j < i → p j = false
  | 0, h => by cases h
  | k + 1, h => by
    rw [qdF] at h
    cases hf : qdF p k with
    | some a =>
      rw [hf] at h
      obtain rfl := Option.some.inj h
      obtain ⟨h1, h2, h3⟩ := qdF_all hf
      exact ⟨by omega, h2, h3⟩
    | none =>
      rw [hf] at h
      change (if p k = true then some k else none) = some i at h
      split at h
      · obtain rfl := Option.some.inj h
        rename_i hp
        refine ⟨by omega, hp, fun j hj => ?_⟩
        cases hb : p j with
        | false => rfl
        | true =>
          exfalso
          have : ∀ {m : Nat}, qdF p m = none → ∀ x, x < m → p x = false := fun {m} => by
            induction m with
            | zero => exact fun _ x hx => by omega
            | succ m ih =>
              intro h x hx
              rw [qdF] at h
              cases hm : qdF p m with
              | some a => rw [hm] at h; cases h
              | none =>
                rw [hm] at h
                change (if p m = true then some m else none) = none at h
                by_cases hxm : x = m
                · subst hxm
                  cases hq : p x with
                  | false => rfl
                  | true => rw [hq, if_pos rfl] at h; cases h
                · exact ih hm x (by omega)
          rw [this hf j hj] at hb; cases hb
      · cases h
def qdL (n k : Nat) : List Nat := [k / (n * n * n), k / (n * n) % n, k / n % n, k % n]
def qdD (a b c d : Nat) : Bool := decide (a ≠ b ∧ a ≠ c ∧ a ≠ d ∧ b ≠ c ∧ b ≠ d ∧ c ≠ d)
def qdB (n : Nat) (q : Nat → Nat → Nat → Nat → Bool) (k : Nat) : Bool := qdD (k / (n * n * n)) (k / (n * n) % n) (k / n % n) (k % n) && q (k / (n * n * n)) (k / (n * n) % n) (k / n % n) (k % n)
def qdR (n : Nat) (q : Nat → Nat → Nat → Nat → Bool) : List Nat := match qdF (qdB n q) (n * n * n * n) with
  | some k => qdL n k
  | none => []
def qdY (n : Nat) (q : Nat → Nat → Nat → Nat → Bool) : Bool := (qdF (qdB n q) (n * n * n * n)).isSome
theorem qd_hit {n : Nat} {q : Nat → Nat → Nat → Nat → Bool} {k : Nat} (hk : k < n * n * n * n) (h1 : ∀ j, j < k → qdB n q j = false) (h2 : qdB n q k = true) : qdR n q = qdL n k ∧ qdY n q = true := by
  unfold qdR qdY
  rw [qdF_some h1 h2 hk]
  exact ⟨rfl, rfl⟩
theorem qd_miss {n : Nat} {q : Nat → Nat → Nat → Nat → Bool} (h1 : ∀ j, j < n * n * n * n → qdB n q j = false) : qdR n q = [] ∧ qdY n q = false := by
  unfold qdR qdY
  rw [qdF_none h1]
  exact ⟨rfl, rfl⟩
theorem dst_drop {l r : List Int} (h : ∀ x, x ∈ l ↔ x ∈ r) : dst l = dst r := dst_eq (dst_rise r) fun x => (dst_mem r x).trans (h x).symm
theorem qd_dst (a b c d : Nat) : ((dst (nl [a, b, c, d])).length : Int) = 4 ↔ qdD a b c d = true := by
  unfold qdD
  rw [decide_eq_true_eq]
  have small : ∀ x y z : Nat, ((dst (nl [x, y, z])).length : Int) = 4 → False := fun x y z h => by
    have := dst_len (nl [x, y, z])
    rw [nl_len] at this
    simp at this
    omega
  constructor
  · intro h
    refine ⟨?_, ?_, ?_, ?_, ?_, ?_⟩ <;> rintro rfl
    · exact small a c d (by rw [← h, dst_drop (l := nl [a, c, d]) (r := nl [a, a, c, d]) (fun x => by simp [nl])])
    · exact small a b d (by rw [← h, dst_drop (l := nl [a, b, d]) (r := nl [a, b, a, d]) (fun x => by simp [nl]; constructor <;> (intro h; omega))])
    · exact small a b c (by rw [← h, dst_drop (l := nl [a, b, c]) (r := nl [a, b, c, a]) (fun x => by simp [nl]; constructor <;> (intro h; omega))])
    · exact small a b d (by rw [← h, dst_drop (l := nl [a, b, d]) (r := nl [a, b, b, d]) (fun x => by simp [nl])])
    · exact small a b c (by rw [← h, dst_drop (l := nl [a, b, c]) (r := nl [a, b, c, b]) (fun x => by simp [nl]; constructor <;> (intro h; omega))])
    · exact small a b c (by rw [← h, dst_drop (l := nl [a, b, c]) (r := nl [a, b, c, c]) (fun x => by simp [nl])])
  · rintro ⟨h1, h2, h3, h4, h5, h6⟩
    have hs : (srl (nl [a, b, c, d])).Pairwise (· < ·) := by
      have e1 := srl_sorted (nl [a, b, c, d])
      have e2 : (srl (nl [a, b, c, d])).Nodup := (srl_perm _).nodup_iff.2 (by simp [nl]; omega)
      exact (e1.and e2).imp fun ⟨x, y⟩ => by omega
    have : dst (nl [a, b, c, d]) = srl (nl [a, b, c, d]) := dst_eq hs fun x => (srl_perm _).mem_iff
    rw [this, srl_len]
    rfl
set_option maxHeartbeats 2000000 in
theorem spanfour_ac (n : Nat) (q : Nat → Nat → Nat → Nat → Bool) (hn : n ≤ 10) {g : FuncId} {caps : List AV} [VwRL caps] (hro : roL caps = true) (hg : ∀ a b c d, a < n → b < n → c < n → d < n → AC Tryd.prog g (.val (.int .i64 a) :: .val (.int .i64 b) :: .val (.int .i64 c) :: .val (.int .i64 d) :: caps) [] (.val (.bool (q a b c d))) []) :
    AC Tryd.prog 40 [.val (.int .i64 n), .clo g caps] [] (.tup [ints (nl (qdR n q)), .val (.bool (qdY n q))]) [] := by
  have hcl := isFn_clo g caps
  have m2 : n * n ≤ 10 * 10 := Nat.mul_le_mul hn hn
  have m3 : n * n * n ≤ 10 * 10 * 10 := Nat.mul_le_mul m2 hn
  have m4 : n * n * n * n ≤ 10 * 10 * 10 * 10 := Nat.mul_le_mul m3 hn
  have e2 : (n : Int) * (n : Int) = ((n * n : Nat) : Int) := by simp
  have e3 : ((n * n : Nat) : Int) * (n : Int) = ((n * n * n : Nat) : Int) := by simp
  have e4 : ((n * n * n : Nat) : Int) * (n : Int) = ((n * n * n * n : Nat) : Int) := by simp
  have hhit := fun k => qd_hit (n := n) (q := q) (k := k)
  have hmiss := qd_miss (n := n) (q := q)
  have hqB : ∀ k, qdB n q k = (qdD (k / (n * n * n)) (k / (n * n) % n) (k / n % n) (k % n) && q (k / (n * n * n)) (k / (n * n) % n) (k / n % n) (k % n)) := fun _ => rfl
  have hqL : ∀ k, qdL n k = [k / (n * n * n), k / (n * n) % n, k / n % n, k % n] := fun _ => rfl
  have hlt : ∀ k, k < n * n * n * n → 0 < n ∧ 0 < n * n ∧ 0 < n * n * n ∧ k / (n * n * n) < n := fun k hk => by
    have h0 : 0 < n := by
      rcases Nat.eq_zero_or_pos n with h | h
      · subst h; simp at hk
      · exact h
    have h1 := Nat.mul_pos h0 h0
    have h2 := Nat.mul_pos h1 h0
    exact ⟨h0, h1, h2, Nat.div_lt_of_lt_mul hk⟩
  have d3 : ∀ k : Nat, (k : Int) / ((n * n * n : Nat) : Int) = ((k / (n * n * n) : Nat) : Int) := fun k => by simp
  have d2 : ∀ k : Nat, (k : Int) / ((n * n : Nat) : Int) = ((k / (n * n) : Nat) : Int) := fun k => by simp
  have d1 : ∀ k : Nat, (k : Int) / (n : Int) = ((k / n : Nat) : Int) := fun k => by simp
  have r1 : ∀ k : Nat, (k : Int) % (n : Int) = ((k % n : Nat) : Int) := fun k => by simp
  generalize qdR n q = R at *
  generalize qdY n q = Y at *
  generalize n * n * n * n = N4 at *
  generalize n * n * n = N3 at *
  generalize n * n = N2 at *
  refine AC.mk (n := 69) (fn := Tryd.f40) Tryd.func40 (by kernel_rfl) rfl rfl rfl rfl (fun cx => ?_); dsimp only [argv, Nat.reduceAdd]
  (repeat' (first | refine a_seq ?_ | refine a_block ?_ | refine a_skip ?_ | refine a_ret ?_ | refine a_exit ?_ | refine a_region ?_ | refine l_nil ?_ | (apply w_q; (focus (first | exact Q_move (by conv => lhs; whnf) | exact Q_assign (by conv => lhs; whnf))); (focus exact rfl)) | (refine a_cond rfl ?_ ?_ <;> (intro h; (try (have hp := of_decide_eq_true h)); (try (have hp := of_decide_eq_false h)); (try contradiction); (try (exfalso; omega)))) | (((first | apply w_q | apply w_qq); (focus exact Q_mulE rfl rfl (by omega) e2); (focus exact rfl))) | (((first | apply w_q | apply w_qq); (focus exact Q_mulE rfl rfl (by omega) e3); (focus exact rfl))) | (((first | apply w_q | apply w_qq); (focus exact Q_mulE rfl rfl (by omega) e4); (focus exact rfl))))); (try all_goals (try show retA _ _ _ _ _ _ _))
  refine w_loop (X := Nat) [0, 1, 15] (by simp only [keepv, getv_cons, Nat.reduceEqDiff, ↓reduceIte]; exact rfl) (fun k => [(16, .val (.int .i64 (k : Nat)))]) (fun _ => []) (fun k => k ≤ N4 ∧ ∀ j, j < k → qdB n q j = false) (fun k => N4 - k) (0) ([]) ?_ ?_ rfl ?_ <;> (try dsimp only [List.cons_append, List.nil_append])
  · exact ⟨Nat.zero_le _, fun j h => by omega⟩
  · (refine St.le_mk rfl (VwOs.mk (by decide) ?_) ?_ <;> (repeat' (first | exact trivial | exact vwR rfl | exact Vw.val _ | exact Vw.ro _ | exact Vw.any _ | exact Vw.own _ _ rfl | exact Vw.ptr _ _ _ rfl | exact Vw.rpt _ _ | exact Vw.valro _ | exact Vw.nilro _ | exact Vw.rowro _ _ _ _ rfl (by decide) | (refine Vw.int' ?_; first | rfl | omega | (simp; done)) | (refine Vw.bool' ?_; first | rfl | (simp; done)) | refine Vw.agg' ?_ | refine Vw.tup' ?_ | refine Vw.clo' ?_ | exact VwO.row _ _ _ | refine VwO.box' ?_ | exact VwO.gone _ | exact VwO.mp _ | exact VwO.mat _ _ _ | refine ⟨⟨_, rfl, ?_⟩, ?_⟩ | refine ⟨?_, ?_⟩ )))
  rintro k ⟨hk, hall⟩
  by_cases hkN : k < N4
  · obtain ⟨p1, p2, p3, p4⟩ := hlt k hkN
    have hr := fun x : Nat => Nat.mod_lt x p1
    have hit := hhit k hkN hall
    rw [hqL k] at hit
    have hB := hqB k
    have x1 := d3 k
    have x2 := d2 k
    have x3 := d1 k
    have x4 := r1 k
    have x5 := r1 (k / N2)
    have x6 := r1 (k / n)
    have b1 := hr (k / N2)
    have b2 := hr (k / n)
    have b3 := hr k
    have k0 := Nat.div_le_self k N2
    have k1 := Nat.div_le_self k n
    generalize k / N3 = a at *
    generalize k / N2 = t1 at *
    generalize k / n = t2 at *
    generalize t1 % n = b at *
    generalize t2 % n = c at *
    generalize k % n = d at *
    have kH := hg a b c d p4 b1 b2 b3
    have kV := Values_ac (nl [a, b, c, d])
    have kS := Sorted_ac (nl [a, b, c, d]) (by rw [nl_len]; simp) (gm := 59) (caps := [.rpt [.sl 1 (intc (nl [a, b, c, d]))] 0]) rfl (Values1_iter (nl [a, b, c, d]) (by rw [nl_len]; simp))
    have kP := Compact_ac (srl (nl [a, b, c, d])) (by rw [srl_len, nl_len]; simp)
    rw [show Go.Lib.compact (srl (nl [a, b, c, d])) = dst (nl [a, b, c, d]) from rfl] at kP
    have hD := qd_dst a b c d
    have hDl := dst_len (nl [a, b, c, d])
    rw [nl_len, show [a, b, c, d].length = 4 from rfl] at hDl
    generalize dst (nl [a, b, c, d]) = D at *
    generalize srl (nl [a, b, c, d]) = S at *
    (repeat' (first | refine a_seq ?_ | refine a_block ?_ | refine a_skip ?_ | refine a_ret ?_ | refine a_exit ?_ | refine a_region ?_ | refine l_nil ?_ | refine q_nil ?_ | ((first | apply w_q | apply w_qq); (focus (first | exact Q_move (by conv => lhs; whnf) | exact Q_assign (by conv => lhs; whnf) | exact Q_lss rfl rfl | exact Q_rem2 rfl rfl)); (focus exact rfl)) | (refine a_cond rfl ?_ ?_ <;> (intro h; (try (have hp := of_decide_eq_true h)); (try (have hp := of_decide_eq_false h)); (try contradiction); (try (exfalso; omega)))) | refine a_drawT (id := 4) 22 (by kernel_rfl) (by kernel_rfl) (by simp only [List.take_succ_cons, List.take_zero, List.drop_succ_cons, List.drop_zero]; exact rfl) (by simp only [List.take_succ_cons, List.take_zero, List.drop_succ_cons, List.drop_zero]; exact rfl) ?_ | refine a_draw (by kernel_rfl) (by kernel_rfl) ?_ | refine w_lit_nat rfl KSl.h KMk.h (by first|(dsimp only[obA,obB,obD,obE,obF,obG,obI,List.map,AO.sh,AV.sh,AV.shl,Nat.reduceAdd];done)|exact rfl) (by first|(dsimp only[obA,obB,obD,obE,obF,obG,obI,List.map,AO.sh,AV.sh,AV.shl,Nat.reduceAdd];done)|exact rfl) rfl ?_ | refine w_lit_int rfl KSl.h KMk.h (by first|(dsimp only[obA,obB,obD,obE,obF,obG,obI,List.map,AO.sh,AV.sh,AV.shl,Nat.reduceAdd];done)|exact rfl) (by first|(dsimp only[obA,obB,obD,obE,obF,obG,obI,List.map,AO.sh,AV.sh,AV.shl,Nat.reduceAdd];done)|exact rfl) rfl ?_ | refine w_lit_ord rfl KSl.h KMk.h (by first|(dsimp only[obA,obB,obD,obE,obF,obG,obI,List.map,AO.sh,AV.sh,AV.shl,Nat.reduceAdd];done)|exact rfl) (by first|(dsimp only[obA,obB,obD,obE,obF,obG,obI,List.map,AO.sh,AV.sh,AV.shl,Nat.reduceAdd];done)|exact rfl) rfl ?_ | refine w_lit_r1 rfl KSl.h KMk.h (by first|(dsimp only[obA,obB,obD,obE,obF,obG,obI,List.map,AO.sh,AV.sh,AV.shl,Nat.reduceAdd];done)|exact rfl) (by first|(dsimp only[obA,obB,obD,obE,obF,obG,obI,List.map,AO.sh,AV.sh,AV.shl,Nat.reduceAdd];done)|exact rfl) rfl ?_ | refine w_lit_r1o rfl rfl KSl.h KMk.h (by first|(dsimp only[obA,obB,obD,obE,obF,obG,obI,List.map,AO.sh,AV.sh,AV.shl,Nat.reduceAdd];done)|exact rfl) (by first|(dsimp only[obA,obB,obD,obE,obF,obG,obI,List.map,AO.sh,AV.sh,AV.shl,Nat.reduceAdd];done)|exact rfl) (by first|(dsimp only[obA,obB,obD,obE,obF,obG,obI,List.map,AO.sh,AV.sh,AV.shl,Nat.reduceAdd];done)|exact rfl) rfl ?_ | refine w_lit_r2 rfl rfl KSl.h KMk.h (by first|(dsimp only[obA,obB,obD,obE,obF,obG,obI,List.map,AO.sh,AV.sh,AV.shl,Nat.reduceAdd];done)|exact rfl) (by first|(dsimp only[obA,obB,obD,obE,obF,obG,obI,List.map,AO.sh,AV.sh,AV.shl,Nat.reduceAdd];done)|exact rfl) rfl ?_ | refine w_lit_r3 rfl rfl rfl KSl.h KMk.h (by first|(dsimp only[obA,obB,obD,obE,obF,obG,obI,List.map,AO.sh,AV.sh,AV.shl,Nat.reduceAdd];done)|exact rfl) (by first|(dsimp only[obA,obB,obD,obE,obF,obG,obI,List.map,AO.sh,AV.sh,AV.shl,Nat.reduceAdd];done)|exact rfl) rfl ?_ | refine w_lit_r4 rfl rfl rfl rfl KSl.h KMk.h (by first|(dsimp only[obA,obB,obD,obE,obF,obG,obI,List.map,AO.sh,AV.sh,AV.shl,Nat.reduceAdd];done)|exact rfl) (by first|(dsimp only[obA,obB,obD,obE,obF,obG,obI,List.map,AO.sh,AV.sh,AV.shl,Nat.reduceAdd];done)|exact rfl) rfl ?_ | refine w_lit_i2 rfl rfl KSl.h KMk.h (by first|(dsimp only[obA,obB,obD,obE,obF,obG,obI,List.map,AO.sh,AV.sh,AV.shl,Nat.reduceAdd];done)|exact rfl) (by first|(dsimp only[obA,obB,obD,obE,obF,obG,obI,List.map,AO.sh,AV.sh,AV.shl,Nat.reduceAdd];done)|exact rfl) rfl ?_ | refine w_lit_i3 rfl rfl rfl KSl.h KMk.h (by first|(dsimp only[obA,obB,obD,obE,obF,obG,obI,List.map,AO.sh,AV.sh,AV.shl,Nat.reduceAdd];done)|exact rfl) (by first|(dsimp only[obA,obB,obD,obE,obF,obG,obI,List.map,AO.sh,AV.sh,AV.shl,Nat.reduceAdd];done)|exact rfl) rfl ?_ | refine w_lit_i4 rfl rfl rfl rfl KSl.h KMk.h (by first|(dsimp only[obA,obB,obD,obE,obF,obG,obI,List.map,AO.sh,AV.sh,AV.shl,Nat.reduceAdd];done)|exact rfl) (by first|(dsimp only[obA,obB,obD,obE,obF,obG,obI,List.map,AO.sh,AV.sh,AV.shl,Nat.reduceAdd];done)|exact rfl) rfl ?_ | refine w_lit_ord2 rfl rfl KSl.h KMk.h (by first|(dsimp only[obA,obB,obD,obE,obF,obG,obI,List.map,AO.sh,AV.sh,AV.shl,Nat.reduceAdd];done)|exact rfl) (by first|(dsimp only[obA,obB,obD,obE,obF,obG,obI,List.map,AO.sh,AV.sh,AV.shl,Nat.reduceAdd];done)|exact rfl) rfl ?_ | refine w_lit_p2 rfl rfl KSl.h KMk.h (by first|(dsimp only[obA,obB,obD,obE,obF,obG,obI,List.map,AO.sh,AV.sh,AV.shl,Nat.reduceAdd];done)|exact rfl) (by first|(dsimp only[obA,obB,obD,obE,obF,obG,obI,List.map,AO.sh,AV.sh,AV.shl,Nat.reduceAdd];done)|exact rfl) rfl ?_ | refine w_lit_pair rfl KSl.h KMk.h (by first|(dsimp only[obA,obB,obD,obE,obF,obG,obI,List.map,AO.sh,AV.sh,AV.shl,Nat.reduceAdd];done)|exact rfl) (by first|(dsimp only[obA,obB,obD,obE,obF,obG,obI,List.map,AO.sh,AV.sh,AV.shl,Nat.reduceAdd];done)|exact rfl) rfl ?_ | (((first | apply w_q | apply w_qq); (focus exact Q_mulE rfl rfl (by omega) e2); (focus exact rfl))) | (((first | apply w_q | apply w_qq); (focus exact Q_mulE rfl rfl (by omega) e3); (focus exact rfl))) | (((first | apply w_q | apply w_qq); (focus exact Q_quoE rfl rfl (by omega) x1); (focus exact rfl))) | (((first | apply w_q | apply w_qq); (focus exact Q_quoE rfl rfl (by omega) x2); (focus exact rfl))) | (((first | apply w_q | apply w_qq); (focus exact Q_quoE rfl rfl (by omega) x3); (focus exact rfl))) | (((first | apply w_q | apply w_qq); (focus exact Q_remE rfl rfl (by omega) x4); (focus exact rfl))) | (((first | apply w_q | apply w_qq); (focus exact Q_remE rfl rfl (by omega) x5); (focus exact rfl))) | (((first | apply w_q | apply w_qq); (focus exact Q_remE rfl rfl (by omega) x6); (focus exact rfl))))); (try all_goals (try show retA _ _ _ _ _ _ _))
    all_goals first
      | (exfalso; omega)
      | skip
    refine w_freezeA 0 rfl (by simp only [frv_nil, frv_cons, frl_nil, frl_cons, fro_nil, fro_cons, fro_box, fro_row, fro_gone, fr_own, fr_val, fr_ro, fr_rpt, fr_ptr, fr_ept, fr_agg, fr_tup, fr_clo, fr_ints, fr_rows, fr_pairs, fr_ords, Nat.reduceEqDiff, ↓reduceIte, List.set_cons_zero, List.set_cons_succ]; exact rfl) (by simp only [frv_nil, frv_cons, frl_nil, frl_cons, fro_nil, fro_cons, fro_box, fro_row, fro_gone, fr_own, fr_val, fr_ro, fr_rpt, fr_ptr, fr_ept, fr_agg, fr_tup, fr_clo, fr_ints, fr_rows, fr_pairs, fr_ords, Nat.reduceEqDiff, ↓reduceIte, List.set_cons_zero, List.set_cons_succ]; exact rfl) ?_
    simp only [roL_frl _ _ _ hro]
    (repeat' (first | refine a_seq ?_ | refine a_block ?_ | refine a_skip ?_ | refine a_ret ?_ | refine a_exit ?_ | refine a_region ?_ | refine l_nil ?_ | (apply w_q; (focus (first | exact Q_move (by conv => lhs; whnf) | exact Q_assign (by conv => lhs; whnf))); (focus exact rfl)) | (refine a_cond rfl ?_ ?_ <;> (intro h; (try (have hp := of_decide_eq_true h)); (try (have hp := of_decide_eq_false h)); (try contradiction); (try (exfalso; omega)))) | ((refine w_callV (.inl ⟨rfl, rfl⟩) (kV) ?_ (by first | (dsimp only [AV.sh, AV.shl, sh_ints, sh_rows, sh_pairs, sh_ords]; done) | exact rfl) rfl ?_; rotate_left 0; (focus ((repeat' (first | exact trivial | exact Vs.val _ | exact Vs.ro _ | exact Vs.rpt _ _ | exact Vs.valro _ | exact Vs.nilro _ | exact Vs.any _ | refine Vs.agg' ?_ | refine Vs.tup' ?_ | refine Vs.clo' ?_ | refine ⟨?_, ?_⟩)); done)); rotate_left 1; all_goals (try (skip)))) | ((refine w_callR (res := .own 0) (news := [.row 3 1 (intc S)]) (.inl ⟨rfl, rfl⟩) (kS) ?_ ?_ ?_ rfl (by repeat' (first | exact trivial | exact flat_ints _ _ | exact flat_bools _ _ | exact flat_pairs _ _ | exact flat_box _ rfl | exact FlatO.gone | exact FlatO.mp _ | refine ⟨?_, ?_⟩)) (by first|(dsimp only[obA,obB,obD,obE,obF,obG,obI,List.map,AO.sh,AV.sh,AV.shl,Nat.reduceAdd];done)|exact rfl) (by first|(dsimp only[obA,obB,obD,obE,obF,obG,obI,List.map,AO.sh,AV.sh,AV.shl,Nat.reduceAdd];done)|exact rfl) rfl ?_; rotate_left 0; (focus exact rfl); (focus exact rfl); (focus ((repeat' (first | exact trivial | exact vwR rfl | exact vwRL rfl | exact Vw.val _ | exact Vw.ro _ | exact Vw.any _ | exact Vw.valro _ | exact Vw.own _ _ rfl | exact Vw.ptr _ _ _ rfl | exact Vw.rpt _ _ | exact Vw.nilro _ | exact Vw.rowro _ _ _ _ rfl (by decide) | exact Vw.rowro2 rfl (by decide) (by with_unfolding_all exact rfl) | refine Vw.agg' ?_ | refine Vw.tup' ?_ | refine Vw.clo' ?_ | refine Vw.boxrpt' rfl (by decide) ?_ | exact Nat.le_of_ble_eq_true rfl | refine ⟨?_, ?_⟩ )); done)); rotate_left 1; all_goals (try (skip)))))); (try all_goals (try show retA _ _ _ _ _ _ _))
    have hDi : ((D.length : Int) = ([(a : Int), (b : Int), (c : Int), (d : Int)].length : Nat)) ↔ qdD a b c d = true := by rw [← hD]; rfl
    refine a_holdN (id := 6) (by kernel_rfl) rfl ?_
    apply xw_first 0 rfl (by kernel_rfl); (focus (first | exact P_move (by conv => lhs; whnf) | exact P_assign (by conv => lhs; whnf) | exact P_extract rfl (by conv => lhs; whnf))); (focus exact rfl)
    apply xw_first 3 rfl (by kernel_rfl); (focus (first | exact P_move (by conv => lhs; whnf) | exact P_assign (by conv => lhs; whnf) | exact P_extract rfl (by conv => lhs; whnf))); (focus exact rfl)
    apply xw_first 4 rfl (by kernel_rfl); (focus exact P_lenI rfl KSl.h); (focus exact rfl)
    refine xh_step (i := 1) (is := []) (by kernel_rfl) ⟨⟨_, rfl, ?_⟩, trivial⟩
    (refine w_callW (res := ints D) (news := [.gone]) [1] (.inl ⟨rfl, rfl⟩) (kP) ?_ ?_ rfl rfl (by decide) ?_ rfl rfl ?_ (by first | (dsimp only [putL, AO.rn, AV.rn, AV.rnl, rn_ints, rn_rows, rn_pairs, List.map_cons, List.map_nil, List.set_cons_zero, List.set_cons_succ, List.getD_cons_zero, List.getD_cons_succ]; done) | exact rfl) (by first | (dsimp only [putL, AO.rn, AV.rn, AV.rnl, rn_ints, rn_rows, rn_pairs, List.map_cons, List.map_nil, List.set_cons_zero, List.set_cons_succ, List.getD_cons_zero, List.getD_cons_succ]; done) | exact rfl) rfl ?_; rotate_left 0; (focus exact rfl); (focus exact rfl); (focus exact rfl); (focus exact rfl); rotate_left 1; all_goals (try (skip)))
    refine l_nil ?_
    apply xw_first 2 rfl (by kernel_rfl); (focus exact P_lenI rfl KSl.h); (focus exact rfl)
    refine xh_step (i := 5) (is := []) (by kernel_rfl) ⟨⟨_, rfl, ?_⟩, trivial⟩
    (first | (apply w_q; (focus (first | exact Q_eql rfl rfl | exact Q_eqlB rfl rfl KBo.h | exact Q_eqlP rfl rfl inferInstance)); (focus exact rfl)))
    refine l_nil ?_
    apply xw_first 6 rfl (by kernel_rfl); (focus (first | exact P_move (by conv => lhs; whnf) | exact P_assign (by conv => lhs; whnf) | exact P_extract rfl (by conv => lhs; whnf))); (focus exact rfl)
    refine xh_quiet 7 (by kernel_rfl) rfl rfl ?_
    have hf : decide ((D.length : Int) = ([(a : Int), (b : Int), (c : Int), (d : Int)].length : Nat)) = qdD a b c d := by rw [Bool.eq_iff_iff, decide_eq_true_eq]; exact hDi
    rw [hf]
    simp only [putL, AO.rn, List.map_cons, List.map_nil, List.set_cons_zero, List.set_cons_succ]
    clear hf hDi hD
    cases hDD : qdD a b c d with
    | false =>
      rw [hDD, Bool.false_and] at hB
      (repeat' (first | refine a_seq ?_ | refine a_block ?_ | refine a_skip ?_ | refine a_ret ?_ | refine a_exit ?_ | refine a_region ?_ | refine l_nil ?_ | refine q_nil ?_ | ((first | apply w_q | apply w_qq); (focus (first | exact Q_move (by conv => lhs; whnf) | exact Q_load_ptr rfl rfl rfl KSc.h | exact Q_load_all rfl rfl KAg.h | exact Q_eql rfl rfl | exact Q_eqlB rfl rfl KBo.h | exact Q_add rfl rfl (by omega) | exact Q_ix_nats rfl rfl rfl KSl.h (by omega) | exact Q_ix_ints rfl rfl rfl KSl.h (by omega) | exact Q_ix_ownN rfl rfl rfl rfl KSl.h (by omega) | exact Q_ix_own rfl rfl rfl rfl KSl.h (by omega) | exact Q_ix_rows rfl rfl rfl KSl.h (by omega) | exact Q_ix_pairsN rfl rfl rfl KSl.h (by omega) | exact Q_ix_pairs rfl rfl rfl KSl.h (by omega) | exact Q_ix_ords rfl rfl rfl KSl.h (by omega) | exact Q_ix_ownb rfl rfl rfl rfl KSl.h (by omega) | exact Q_ix_arr rfl rfl rfl KAr.h (by first | decide | omega) | exact Q_ix_arp rfl rfl rfl KAr.h (by first | decide | omega) | exact Q_ld_rpa rfl KAg.h rfl rfl (by first | (dsimp only [List.drop_zero, List.drop_succ_cons, List.take_succ_cons, List.take_zero, List.map, ofD]; done) | exact rfl) | exact Q_ld_rv rfl rfl KSc.h | exact Q_ld_rs rfl rfl KSc.h | exact Q_ld_nats rfl (by omega) KSc.h | exact Q_ld_ints rfl (by omega) KSc.h | exact Q_ld_ownN rfl rfl (by omega) KSc.h | exact Q_ld_own rfl rfl (by omega) KSc.h | exact Q_ld_rows rfl (by omega) KSc.h | exact Q_ld_pair1N rfl (by omega) KSc.h | exact Q_ld_pair2N rfl (by omega) KSc.h | exact Q_ld_pair1 rfl (by omega) KSc.h | exact Q_ld_pair2 rfl (by omega) KSc.h | exact Q_ld_pairN rfl (by omega) KAg.h | exact Q_ld_pair rfl (by omega) KAg.h | exact Q_eqlP rfl rfl inferInstance | exact Q_ld_ord rfl (by omega) KAg.h | exact Q_ld_ownb rfl rfl (by omega) KSc.h | exact Q_len_nats rfl KSl.h | exact Q_len_ints rfl KSl.h | exact Q_len_ownN rfl rfl KSl.h | exact Q_len_own' rfl rfl KSl.h | exact Q_len_rows rfl KSl.h | exact Q_len_pairsN rfl KSl.h | exact Q_len_pairs rfl KSl.h | exact Q_len_ords rfl KSl.h | exact Q_len_nil' rfl KSl.h | exact Q_len_ownp rfl rfl KSl.h | exact Q_pick_t rfl (by assumption) (by conv => lhs; whnf) | exact Q_pick_f rfl (by assumption) (by conv => lhs; whnf) | exact Q_pick_t rfl rfl (by conv => lhs; whnf) | exact Q_pick_f rfl rfl (by conv => lhs; whnf))); (focus exact rfl)) | (refine a_cond rfl ?_ ?_ <;> (intro h; (try (have hp := of_decide_eq_true h)); (try (have hp := of_decide_eq_false h)); (try contradiction); (try (exfalso; omega)))) | refine w_guard_u rfl rfl rfl ?_ | refine w_qguard_u rfl rfl rfl ?_ | refine w_guard_y rfl rfl rfl (by first | assumption | rfl) ?_ | refine w_guard_n rfl rfl rfl (by first | assumption | rfl) ?_ | refine w_qguard_y rfl rfl rfl (by first | assumption | rfl) ?_ | refine w_qguard_n rfl rfl rfl (by first | assumption | rfl) ?_ | ((first | refine w_guard rfl rfl rfl ?_ ?_ | refine w_qguard rfl rfl rfl ?_ ?_) <;> (intro h; (try (have hp := of_decide_eq_true h)); (try (have hp := of_decide_eq_false h)); (try contradiction); (try (exfalso; omega)))) | refine a_draw (by kernel_rfl) (by kernel_rfl) ?_)); (try all_goals (try show retA _ _ _ _ _ _ _))
      all_goals first
        | (exfalso; omega)
        | (refine ⟨k + 1, [], ?_, ?_, ?_, rfl⟩ <;> (try dsimp only)
           · refine ⟨by omega, fun j hj => ?_⟩
             by_cases hq : j = k
             · subst hq; exact hB
             · exact hall j (by omega)
           · omega
           · (refine St.le_mk rfl (VwOs.mk (by decide) ?_) ?_ <;> (repeat' (first | exact trivial | exact vwR rfl | exact Vw.val _ | exact Vw.ro _ | exact Vw.any _ | exact Vw.own _ _ rfl | exact Vw.ptr _ _ _ rfl | exact Vw.rpt _ _ | exact Vw.valro _ | exact Vw.nilro _ | exact Vw.rowro _ _ _ _ rfl (by decide) | (refine Vw.int' ?_; first | rfl | omega | (simp; done)) | (refine Vw.bool' ?_; first | rfl | (simp; done)) | refine Vw.agg' ?_ | refine Vw.tup' ?_ | refine Vw.clo' ?_ | exact VwO.row _ _ _ | refine VwO.box' ?_ | exact VwO.gone _ | exact VwO.mp _ | exact VwO.mat _ _ _ | refine ⟨⟨_, rfl, ?_⟩, ?_⟩ | refine ⟨?_, ?_⟩ ))))
        | (all_goals trace_state); fail
    | true =>
      rw [hDD, Bool.true_and] at hB
      cases hq : q a b c d with
      | false =>
        rw [hq] at kH hB
        (repeat' (first | refine a_seq ?_ | refine a_block ?_ | refine a_skip ?_ | refine a_ret ?_ | refine a_exit ?_ | refine a_region ?_ | refine l_nil ?_ | refine q_nil ?_ | ((first | apply w_q | apply w_qq); (focus (first | exact Q_move (by conv => lhs; whnf) | exact Q_load_ptr rfl rfl rfl KSc.h | exact Q_load_all rfl rfl KAg.h | exact Q_eql rfl rfl | exact Q_eqlB rfl rfl KBo.h | exact Q_add rfl rfl (by omega) | exact Q_ix_nats rfl rfl rfl KSl.h (by omega) | exact Q_ix_ints rfl rfl rfl KSl.h (by omega) | exact Q_ix_ownN rfl rfl rfl rfl KSl.h (by omega) | exact Q_ix_own rfl rfl rfl rfl KSl.h (by omega) | exact Q_ix_rows rfl rfl rfl KSl.h (by omega) | exact Q_ix_pairsN rfl rfl rfl KSl.h (by omega) | exact Q_ix_pairs rfl rfl rfl KSl.h (by omega) | exact Q_ix_ords rfl rfl rfl KSl.h (by omega) | exact Q_ix_ownb rfl rfl rfl rfl KSl.h (by omega) | exact Q_ix_arr rfl rfl rfl KAr.h (by first | decide | omega) | exact Q_ix_arp rfl rfl rfl KAr.h (by first | decide | omega) | exact Q_ld_rpa rfl KAg.h rfl rfl (by first | (dsimp only [List.drop_zero, List.drop_succ_cons, List.take_succ_cons, List.take_zero, List.map, ofD]; done) | exact rfl) | exact Q_ld_rv rfl rfl KSc.h | exact Q_ld_rs rfl rfl KSc.h | exact Q_ld_nats rfl (by omega) KSc.h | exact Q_ld_ints rfl (by omega) KSc.h | exact Q_ld_ownN rfl rfl (by omega) KSc.h | exact Q_ld_own rfl rfl (by omega) KSc.h | exact Q_ld_rows rfl (by omega) KSc.h | exact Q_ld_pair1N rfl (by omega) KSc.h | exact Q_ld_pair2N rfl (by omega) KSc.h | exact Q_ld_pair1 rfl (by omega) KSc.h | exact Q_ld_pair2 rfl (by omega) KSc.h | exact Q_ld_pairN rfl (by omega) KAg.h | exact Q_ld_pair rfl (by omega) KAg.h | exact Q_eqlP rfl rfl inferInstance | exact Q_ld_ord rfl (by omega) KAg.h | exact Q_ld_ownb rfl rfl (by omega) KSc.h | exact Q_len_nats rfl KSl.h | exact Q_len_ints rfl KSl.h | exact Q_len_ownN rfl rfl KSl.h | exact Q_len_own' rfl rfl KSl.h | exact Q_len_rows rfl KSl.h | exact Q_len_pairsN rfl KSl.h | exact Q_len_pairs rfl KSl.h | exact Q_len_ords rfl KSl.h | exact Q_len_nil' rfl KSl.h | exact Q_len_ownp rfl rfl KSl.h | exact Q_pick_t rfl (by assumption) (by conv => lhs; whnf) | exact Q_pick_f rfl (by assumption) (by conv => lhs; whnf) | exact Q_pick_t rfl rfl (by conv => lhs; whnf) | exact Q_pick_f rfl rfl (by conv => lhs; whnf))); (focus exact rfl)) | (refine a_cond rfl ?_ ?_ <;> (intro h; (try (have hp := of_decide_eq_true h)); (try (have hp := of_decide_eq_false h)); (try contradiction); (try (exfalso; omega)))) | refine w_guard_u rfl rfl rfl ?_ | refine w_qguard_u rfl rfl rfl ?_ | refine w_guard_y rfl rfl rfl (by first | assumption | rfl) ?_ | refine w_guard_n rfl rfl rfl (by first | assumption | rfl) ?_ | refine w_qguard_y rfl rfl rfl (by first | assumption | rfl) ?_ | refine w_qguard_n rfl rfl rfl (by first | assumption | rfl) ?_ | ((first | refine w_guard rfl rfl rfl ?_ ?_ | refine w_qguard rfl rfl rfl ?_ ?_) <;> (intro h; (try (have hp := of_decide_eq_true h)); (try (have hp := of_decide_eq_false h)); (try contradiction); (try (exfalso; omega)))) | refine a_draw (by kernel_rfl) (by kernel_rfl) ?_ | (((first | apply w_q | apply w_qq); (focus (refine Q_call (by exact callee_of (hcl) rfl) (kH) ?_; ((repeat' (first | exact trivial | exact vwR rfl | exact vwRL rfl | exact Vw.val _ | exact Vw.ro _ | exact Vw.any _ | exact Vw.valro _ | exact Vw.own _ _ rfl | exact Vw.ptr _ _ _ rfl | exact Vw.rpt _ _ | exact Vw.nilro _ | exact Vw.rowro _ _ _ _ rfl (by decide) | exact Vw.rowro2 rfl (by decide) (by with_unfolding_all exact rfl) | refine Vw.agg' ?_ | refine Vw.tup' ?_ | refine Vw.clo' ?_ | refine Vw.boxrpt' rfl (by decide) ?_ | exact Nat.le_of_ble_eq_true rfl | refine ⟨?_, ?_⟩ )); done))); (focus exact rfl))) | (((first | apply w_q | apply w_qq); (focus exact Q_ix_ints (l := [(a : Int), (b : Int), (c : Int), (d : Int)]) (o := 0) rfl rfl rfl KSl.h (by simp)); (focus exact rfl))) | (((first | apply w_q | apply w_qq); (focus exact (show QOp _ _ _ (.val (.int .i64 (a : Nat))) from Q_ld_ints (l := [(a : Int), (b : Int), (c : Int), (d : Int)]) (o := 0) rfl (by simp) KSc.h)); (focus exact rfl))) | (((first | apply w_q | apply w_qq); (focus exact Q_ix_ints (l := [(a : Int), (b : Int), (c : Int), (d : Int)]) (o := 1) rfl rfl rfl KSl.h (by simp)); (focus exact rfl))) | (((first | apply w_q | apply w_qq); (focus exact (show QOp _ _ _ (.val (.int .i64 (b : Nat))) from Q_ld_ints (l := [(a : Int), (b : Int), (c : Int), (d : Int)]) (o := 1) rfl (by simp) KSc.h)); (focus exact rfl))) | (((first | apply w_q | apply w_qq); (focus exact Q_ix_ints (l := [(a : Int), (b : Int), (c : Int), (d : Int)]) (o := 2) rfl rfl rfl KSl.h (by simp)); (focus exact rfl))) | (((first | apply w_q | apply w_qq); (focus exact (show QOp _ _ _ (.val (.int .i64 (c : Nat))) from Q_ld_ints (l := [(a : Int), (b : Int), (c : Int), (d : Int)]) (o := 2) rfl (by simp) KSc.h)); (focus exact rfl))) | (((first | apply w_q | apply w_qq); (focus exact Q_ix_ints (l := [(a : Int), (b : Int), (c : Int), (d : Int)]) (o := 3) rfl rfl rfl KSl.h (by simp)); (focus exact rfl))) | (((first | apply w_q | apply w_qq); (focus exact (show QOp _ _ _ (.val (.int .i64 (d : Nat))) from Q_ld_ints (l := [(a : Int), (b : Int), (c : Int), (d : Int)]) (o := 3) rfl (by simp) KSc.h)); (focus exact rfl))))); (try all_goals (try show retA _ _ _ _ _ _ _))
        all_goals first
          | (exfalso; omega)
          | (refine ⟨k + 1, [], ?_, ?_, ?_, rfl⟩ <;> (try dsimp only)
             · refine ⟨by omega, fun j hj => ?_⟩
               by_cases hq : j = k
               · subst hq; exact hB
               · exact hall j (by omega)
             · omega
             · (refine St.le_mk rfl (VwOs.mk (by decide) ?_) ?_ <;> (repeat' (first | exact trivial | exact vwR rfl | exact Vw.val _ | exact Vw.ro _ | exact Vw.any _ | exact Vw.own _ _ rfl | exact Vw.ptr _ _ _ rfl | exact Vw.rpt _ _ | exact Vw.valro _ | exact Vw.nilro _ | exact Vw.rowro _ _ _ _ rfl (by decide) | (refine Vw.int' ?_; first | rfl | omega | (simp; done)) | (refine Vw.bool' ?_; first | rfl | (simp; done)) | refine Vw.agg' ?_ | refine Vw.tup' ?_ | refine Vw.clo' ?_ | exact VwO.row _ _ _ | refine VwO.box' ?_ | exact VwO.gone _ | exact VwO.mp _ | exact VwO.mat _ _ _ | refine ⟨⟨_, rfl, ?_⟩, ?_⟩ | refine ⟨?_, ?_⟩ ))))
          | (all_goals trace_state); fail
      | true =>
        rw [hq] at kH hB
        rw [(hit hB).1, (hit hB).2]
        (repeat' (first | refine a_seq ?_ | refine a_block ?_ | refine a_skip ?_ | refine a_ret ?_ | refine a_exit ?_ | refine a_region ?_ | refine l_nil ?_ | refine q_nil ?_ | ((first | apply w_q | apply w_qq); (focus (first | exact Q_move (by conv => lhs; whnf) | exact Q_assign (by conv => lhs; whnf) | exact Q_load_ptr rfl rfl rfl KSc.h | exact Q_load_all rfl rfl KAg.h | exact Q_eql rfl rfl | exact Q_eqlB rfl rfl KBo.h | exact Q_ix_nats rfl rfl rfl KSl.h (by omega) | exact Q_ix_ints rfl rfl rfl KSl.h (by omega) | exact Q_ix_ownN rfl rfl rfl rfl KSl.h (by omega) | exact Q_ix_own rfl rfl rfl rfl KSl.h (by omega) | exact Q_ix_rows rfl rfl rfl KSl.h (by omega) | exact Q_ix_pairsN rfl rfl rfl KSl.h (by omega) | exact Q_ix_pairs rfl rfl rfl KSl.h (by omega) | exact Q_ix_ords rfl rfl rfl KSl.h (by omega) | exact Q_ix_ownb rfl rfl rfl rfl KSl.h (by omega) | exact Q_ix_arr rfl rfl rfl KAr.h (by first | decide | omega) | exact Q_ix_arp rfl rfl rfl KAr.h (by first | decide | omega) | exact Q_ld_rpa rfl KAg.h rfl rfl (by first | (dsimp only [List.drop_zero, List.drop_succ_cons, List.take_succ_cons, List.take_zero, List.map, ofD]; done) | exact rfl) | exact Q_ld_rv rfl rfl KSc.h | exact Q_ld_rs rfl rfl KSc.h | exact Q_ld_nats rfl (by omega) KSc.h | exact Q_ld_ints rfl (by omega) KSc.h | exact Q_ld_ownN rfl rfl (by omega) KSc.h | exact Q_ld_own rfl rfl (by omega) KSc.h | exact Q_ld_rows rfl (by omega) KSc.h | exact Q_ld_pair1N rfl (by omega) KSc.h | exact Q_ld_pair2N rfl (by omega) KSc.h | exact Q_ld_pair1 rfl (by omega) KSc.h | exact Q_ld_pair2 rfl (by omega) KSc.h | exact Q_ld_pairN rfl (by omega) KAg.h | exact Q_ld_pair rfl (by omega) KAg.h | exact Q_eqlP rfl rfl inferInstance | exact Q_ld_ord rfl (by omega) KAg.h | exact Q_ld_ownb rfl rfl (by omega) KSc.h | exact Q_len_nats rfl KSl.h | exact Q_len_ints rfl KSl.h | exact Q_len_ownN rfl rfl KSl.h | exact Q_len_own' rfl rfl KSl.h | exact Q_len_rows rfl KSl.h | exact Q_len_pairsN rfl KSl.h | exact Q_len_pairs rfl KSl.h | exact Q_len_ords rfl KSl.h | exact Q_len_nil' rfl KSl.h | exact Q_len_ownp rfl rfl KSl.h | exact Q_pick_t rfl (by assumption) (by conv => lhs; whnf) | exact Q_pick_f rfl (by assumption) (by conv => lhs; whnf) | exact Q_pick_t rfl rfl (by conv => lhs; whnf) | exact Q_pick_f rfl rfl (by conv => lhs; whnf))); (focus exact rfl)) | (refine a_cond rfl ?_ ?_ <;> (intro h; (try (have hp := of_decide_eq_true h)); (try (have hp := of_decide_eq_false h)); (try contradiction); (try (exfalso; omega)))) | refine w_guard_u rfl rfl rfl ?_ | refine w_qguard_u rfl rfl rfl ?_ | refine w_guard_y rfl rfl rfl (by first | assumption | rfl) ?_ | refine w_guard_n rfl rfl rfl (by first | assumption | rfl) ?_ | refine w_qguard_y rfl rfl rfl (by first | assumption | rfl) ?_ | refine w_qguard_n rfl rfl rfl (by first | assumption | rfl) ?_ | ((first | refine w_guard rfl rfl rfl ?_ ?_ | refine w_qguard rfl rfl rfl ?_ ?_) <;> (intro h; (try (have hp := of_decide_eq_true h)); (try (have hp := of_decide_eq_false h)); (try contradiction); (try (exfalso; omega)))) | refine a_draw (by kernel_rfl) (by kernel_rfl) ?_ | (((first | apply w_q | apply w_qq); (focus (refine Q_call (by exact callee_of (hcl) rfl) (kH) ?_; ((repeat' (first | exact trivial | exact vwR rfl | exact vwRL rfl | exact Vw.val _ | exact Vw.ro _ | exact Vw.any _ | exact Vw.valro _ | exact Vw.own _ _ rfl | exact Vw.ptr _ _ _ rfl | exact Vw.rpt _ _ | exact Vw.nilro _ | exact Vw.rowro _ _ _ _ rfl (by decide) | exact Vw.rowro2 rfl (by decide) (by with_unfolding_all exact rfl) | refine Vw.agg' ?_ | refine Vw.tup' ?_ | refine Vw.clo' ?_ | refine Vw.boxrpt' rfl (by decide) ?_ | exact Nat.le_of_ble_eq_true rfl | refine ⟨?_, ?_⟩ )); done))); (focus exact rfl))) | (((first | apply w_q | apply w_qq); (focus exact Q_ix_ints (l := [(a : Int), (b : Int), (c : Int), (d : Int)]) (o := 0) rfl rfl rfl KSl.h (by simp)); (focus exact rfl))) | (((first | apply w_q | apply w_qq); (focus exact (show QOp _ _ _ (.val (.int .i64 (a : Nat))) from Q_ld_ints (l := [(a : Int), (b : Int), (c : Int), (d : Int)]) (o := 0) rfl (by simp) KSc.h)); (focus exact rfl))) | (((first | apply w_q | apply w_qq); (focus exact Q_ix_ints (l := [(a : Int), (b : Int), (c : Int), (d : Int)]) (o := 1) rfl rfl rfl KSl.h (by simp)); (focus exact rfl))) | (((first | apply w_q | apply w_qq); (focus exact (show QOp _ _ _ (.val (.int .i64 (b : Nat))) from Q_ld_ints (l := [(a : Int), (b : Int), (c : Int), (d : Int)]) (o := 1) rfl (by simp) KSc.h)); (focus exact rfl))) | (((first | apply w_q | apply w_qq); (focus exact Q_ix_ints (l := [(a : Int), (b : Int), (c : Int), (d : Int)]) (o := 2) rfl rfl rfl KSl.h (by simp)); (focus exact rfl))) | (((first | apply w_q | apply w_qq); (focus exact (show QOp _ _ _ (.val (.int .i64 (c : Nat))) from Q_ld_ints (l := [(a : Int), (b : Int), (c : Int), (d : Int)]) (o := 2) rfl (by simp) KSc.h)); (focus exact rfl))) | (((first | apply w_q | apply w_qq); (focus exact Q_ix_ints (l := [(a : Int), (b : Int), (c : Int), (d : Int)]) (o := 3) rfl rfl rfl KSl.h (by simp)); (focus exact rfl))) | (((first | apply w_q | apply w_qq); (focus exact (show QOp _ _ _ (.val (.int .i64 (d : Nat))) from Q_ld_ints (l := [(a : Int), (b : Int), (c : Int), (d : Int)]) (o := 3) rfl (by simp) KSc.h)); (focus exact rfl))))); (try all_goals (try show retA _ _ _ _ _ _ _))
        all_goals first
          | (exfalso; omega)
          | (refine ⟨[_, _], [], ⟨resV_tmp (by conv => lhs; whnf), resV_tmp (by conv => lhs; whnf), trivial⟩, VwOs.mk (by decide) trivial, ?_, rfl⟩; (repeat' (first | exact trivial | exact vwR rfl | exact vwRL rfl | exact Vw.val _ | exact Vw.ro _ | exact Vw.any _ | exact Vw.valro _ | exact Vw.own _ _ rfl | exact Vw.ptr _ _ _ rfl | exact Vw.rpt _ _ | exact Vw.nilro _ | exact Vw.rowro _ _ _ _ rfl (by decide) | exact Vw.rowro2 rfl (by decide) (by with_unfolding_all exact rfl) | refine Vw.agg' ?_ | refine Vw.tup' ?_ | refine Vw.clo' ?_ | refine Vw.boxrpt' rfl (by decide) ?_ | exact Nat.le_of_ble_eq_true rfl | refine ⟨?_, ?_⟩ )); done)
          | (all_goals trace_state); fail
  · obtain rfl : k = N4 := by omega
    rw [(hmiss hall).1, (hmiss hall).2]
    (repeat' (first | refine a_seq ?_ | refine a_block ?_ | refine a_skip ?_ | refine a_ret ?_ | refine a_exit ?_ | refine a_region ?_ | refine l_nil ?_ | (apply w_q; (focus (first | exact Q_assign (by conv => lhs; whnf) | exact Q_lss rfl rfl)); (focus exact rfl)) | (refine a_cond rfl ?_ ?_ <;> (intro h; (try (have hp := of_decide_eq_true h)); (try (have hp := of_decide_eq_false h)); (try contradiction); (try (exfalso; omega)))))); (try all_goals (try show retA _ _ _ _ _ _ _))
    all_goals first
      | (exfalso; omega)
      | (refine ⟨[_, _], [], ⟨resV_tmp (by conv => lhs; whnf), resV_tmp (by conv => lhs; whnf), trivial⟩, VwOs.mk (by decide) trivial, ?_, rfl⟩; (repeat' (first | exact trivial | exact vwR rfl | exact vwRL rfl | exact Vw.val _ | exact Vw.ro _ | exact Vw.any _ | exact Vw.valro _ | exact Vw.own _ _ rfl | exact Vw.ptr _ _ _ rfl | exact Vw.rpt _ _ | exact Vw.nilro _ | exact Vw.rowro _ _ _ _ rfl (by decide) | exact Vw.rowro2 rfl (by decide) (by with_unfolding_all exact rfl) | refine Vw.agg' ?_ | refine Vw.tup' ?_ | refine Vw.clo' ?_ | refine Vw.boxrpt' rfl (by decide) ?_ | exact Nat.le_of_ble_eq_true rfl | refine ⟨?_, ?_⟩ )); done)
      | (all_goals trace_state); fail
end Go.Proofs.YtkapohfnoflhlaaDoor
