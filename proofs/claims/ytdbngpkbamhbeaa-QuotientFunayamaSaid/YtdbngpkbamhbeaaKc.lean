import Derived.Test.YtdbngpkbamhbeaaCo
import Derived.Test.YtdbngpkbamhbeaaIr
import Derived.Test.YtdbngpkbamhbeaaIp
import Derived.Test.YtdbngpkbamhbeaaEngT
set_option linter.unusedSimpArgs false
set_option linter.unusedVariables false
set_option linter.unusedSectionVars false
set_option maxRecDepth 20000
namespace Go.Proofs.Ytdbngpkbamhbeaa
attribute [local irreducible] QOp aL aC qL
theorem Fun1_ac (C : List (List Nat)) (n : Nat) (hn : n ≤ 40) (hl : C.length ≤ 40) (hC : ∀ i, i < C.length → (C.getD i []).length = n) (a b : Nat) (ha : a < C.length) (hb : b < C.length) :
    AC Try.prog 50 [.val (.int .i64 a), .val (.int .i64 b), .rpt [.sl 1 (rowc (tn C))] 0] [] (.val (.bool (finB (C.getD a []) (C.getD b [])))) [] := by
  have kf := finer_ac (C.getD a []) (C.getD b []) (by rw [hC a ha]; omega) (by rw [hC a ha, hC b hb])
  generalize finB (C.getD a []) (C.getD b []) = r at *
  rw [← tn_get, ← tn_get] at kf
  have e := tn_len C
  generalize tn C = T at *
  refine AC.mk (n := 15) (fn := Try.f50) Try.func50 (by kernel_rfl) rfl rfl rfl rfl (fun cx => ?_); dsimp only [argv, Nat.reduceAdd]
  (repeat' (first | refine a_seq ?_ | refine a_block ?_ | refine a_skip ?_ | refine a_ret ?_ | refine a_exit ?_ | refine a_region ?_ | refine l_nil ?_ | refine q_nil ?_ | ((first | apply w_q | apply w_qq); (focus (first | exact Q_move (by conv => lhs; whnf) | exact Q_assign (by conv => lhs; whnf) | exact Q_load_ptr rfl rfl rfl KSc.h | exact Q_load_all rfl rfl KAg.h | exact Q_ix_nats rfl rfl rfl KSl.h (by omega) | exact Q_ix_ints rfl rfl rfl KSl.h (by omega) | exact Q_ix_ownN rfl rfl rfl rfl KSl.h (by omega) | exact Q_ix_own rfl rfl rfl rfl KSl.h (by omega) | exact Q_ix_rows rfl rfl rfl KSl.h (by omega) | exact Q_ix_pairsN rfl rfl rfl KSl.h (by omega) | exact Q_ix_pairs rfl rfl rfl KSl.h (by omega) | exact Q_ix_ords rfl rfl rfl KSl.h (by omega) | exact Q_ix_ownb rfl rfl rfl rfl KSl.h (by omega) | exact Q_ix_arr rfl rfl rfl KAr.h (by first | decide | omega) | exact Q_ix_arp rfl rfl rfl KAr.h (by first | decide | omega) | exact Q_ld_rpa rfl KAg.h rfl rfl (by first | (dsimp only [List.drop_zero, List.drop_succ_cons, List.take_succ_cons, List.take_zero, List.map, ofD]; done) | exact rfl) | exact Q_ld_rv rfl rfl KSc.h | exact Q_ld_rs rfl rfl KSc.h | exact Q_ld_nats rfl (by omega) KSc.h | exact Q_ld_ints rfl (by omega) KSc.h | exact Q_ld_ownN rfl rfl (by omega) KSc.h | exact Q_ld_own rfl rfl (by omega) KSc.h | exact Q_ld_rows rfl (by omega) KSc.h | exact Q_ld_pair1N rfl (by omega) KSc.h | exact Q_ld_pair2N rfl (by omega) KSc.h | exact Q_ld_pair1 rfl (by omega) KSc.h | exact Q_ld_pair2 rfl (by omega) KSc.h | exact Q_ld_pairN rfl (by omega) KAg.h | exact Q_ld_pair rfl (by omega) KAg.h | exact Q_ld_ord rfl (by omega) KAg.h | exact Q_ld_ownb rfl rfl (by omega) KSc.h)); (focus exact rfl)) | refine a_draw (by kernel_rfl) (by kernel_rfl) ?_ | (((first | apply w_q | apply w_qq); (focus (refine Q_call (.inl ⟨rfl, rfl⟩) (kf) ?_; ((repeat' (first | exact trivial | exact vwR rfl | exact vwRL rfl | exact Vw.val _ | exact Vw.ro _ | exact Vw.any _ | exact Vw.valro _ | exact Vw.own _ _ rfl | exact Vw.ptr _ _ _ rfl | exact Vw.rpt _ _ | exact Vw.nilro _ | exact Vw.rowro _ _ _ _ rfl (by decide) | exact Vw.rowro2 rfl (by decide) (by with_unfolding_all exact rfl) | refine Vw.agg' ?_ | refine Vw.tup' ?_ | refine Vw.clo' ?_ | refine Vw.boxrpt' rfl (by decide) ?_ | exact Nat.le_of_ble_eq_true rfl | refine ⟨?_, ?_⟩ )); done))); (focus exact rfl))))); (try all_goals (try show retA _ _ _ _ _ _ _))
  all_goals first
    | (exfalso; omega)
    | (refine ⟨[_], [], ⟨resV_tmp (by conv => lhs; whnf), trivial⟩, VwOs.mk (by decide) trivial, ?_, rfl⟩; (repeat' (first | exact trivial | exact vwR rfl | exact vwRL rfl | exact Vw.val _ | exact Vw.ro _ | exact Vw.any _ | exact Vw.valro _ | exact Vw.own _ _ rfl | exact Vw.ptr _ _ _ rfl | exact Vw.rpt _ _ | exact Vw.nilro _ | exact Vw.rowro _ _ _ _ rfl (by decide) | exact Vw.rowro2 rfl (by decide) (by with_unfolding_all exact rfl) | refine Vw.agg' ?_ | refine Vw.tup' ?_ | refine Vw.clo' ?_ | refine Vw.boxrpt' rfl (by decide) ?_ | exact Nat.le_of_ble_eq_true rfl | refine ⟨?_, ?_⟩ )); done)
    | (all_goals trace_state); fail
end Go.Proofs.Ytdbngpkbamhbeaa
set_option linter.unusedSimpArgs false
set_option linter.unusedVariables false
set_option linter.unusedSectionVars false
set_option maxRecDepth 20000
namespace Go.Proofs.Ytdbngpkbamhbeaa
attribute [local irreducible] QOp aL aC qL
/-- The first of the first k of which f tells something. -/
def fstK {α : Type} (f : Nat → Option α) : Nat → Option α
  | 0 => none
  | k + 1 => match fstK f k with
    | some a => some a
    | none => f k
theorem fstK_none {α : Type} {f : Nat → Option α} : ∀ {k : Nat}, (∀ i, i < k → f i = none) → fstK f k = none
  | 0, _ => rfl
  | k + 1, h => by rw [fstK, fstK_none fun i hi => h i (by omega)]; exact h k (by omega)
theorem fstK_some {α : Type} {f : Nat → Option α} {i : Nat} {a : α} (h1 : ∀ j, j < i → f j = none) (h2 : f i = some a) : ∀ {k : Nat}, i < k → fstK f k = some a
  | k + 1, h => by
    by_cases hik : i = k
    · subst hik
      rw [fstK, fstK_none h1]; exact h2
    · rw [fstK, fstK_some h1 h2 (by omega)]
theorem fstK_iff {α : Type} {f : Nat → Option α} : ∀ {k : Nat}, fstK f k = none ↔ ∀ i, i < k → f i = none
  | 0 => ⟨fun _ i hi => by omega, fun _ => rfl⟩
  | k + 1 => by
    refine ⟨fun h i hi => ?_, fstK_none⟩
    rw [fstK] at h
    cases hf : fstK f k with
    | some a => rw [hf] at h; cases h
    | none =>
      rw [hf] at h
      by_cases hik : i = k
      · subst hik; exact h
      · exact fstK_iff.1 hf i (by omega)
def tri3 (h : Nat → Nat → Nat → Bool) (x y z : Nat) : Option (List Nat) := if h x y z = true then some [x, y, z] else none
def tri2 (n : Nat) (h : Nat → Nat → Nat → Bool) (x y : Nat) : Option (List Nat) := fstK (tri3 h x y) n
def tri1 (n : Nat) (h : Nat → Nat → Nat → Bool) (x : Nat) : Option (List Nat) := fstK (tri2 n h x) n
def triF (n : Nat) (h : Nat → Nat → Nat → Bool) : Option (List Nat) := fstK (tri1 n h) n
def triL (n : Nat) (h : Nat → Nat → Nat → Bool) : List Nat := (triF n h).getD []
def triB (n : Nat) (h : Nat → Nat → Nat → Bool) : Bool := (triF n h).isSome
theorem tri_hit {n x y z : Nat} {h : Nat → Nat → Nat → Bool} (hx : x < n) (hy : y < n) (hz : z < n) (h1 : ∀ j, j < x → tri1 n h j = none) (h2 : ∀ j, j < y → tri2 n h x j = none) (h3 : ∀ j, j < z → tri3 h x y j = none) (h4 : h x y z = true) :
    triL n h = [x, y, z] ∧ triB n h = true := by
  have e : triF n h = some [x, y, z] := fstK_some h1 (fstK_some h2 (fstK_some h3 (by unfold tri3; rw [if_pos h4]) hz) hy) hx
  unfold triL triB
  rw [e]; exact ⟨rfl, rfl⟩
theorem tri_miss {n : Nat} {h : Nat → Nat → Nat → Bool} (h1 : ∀ j, j < n → tri1 n h j = none) : triL n h = [] ∧ triB n h = false := by
  have e : triF n h = none := fstK_none h1
  unfold triL triB
  rw [e]; exact ⟨rfl, rfl⟩
theorem triB_iff {n : Nat} {h : Nat → Nat → Nat → Bool} : triB n h = false ↔ ∀ x y z, x < n → y < n → z < n → h x y z = false := by
  have e : triB n h = false ↔ triF n h = none := by unfold triB; cases triF n h <;> simp
  rw [e]
  unfold triF tri1 tri2
  rw [fstK_iff]
  constructor
  · intro h1 x y z hx hy hz
    have := fstK_iff.1 (fstK_iff.1 (h1 x hx) y hy) z hz
    unfold tri3 at this
    cases hq : h x y z
    · rfl
    · rw [hq, if_pos rfl] at this; cases this
  · intro h1 x hx
    refine fstK_none fun y hy => fstK_none fun z hz => ?_
    unfold tri3
    rw [h1 x y z hx hy hz, if_neg (by decide)]
end Go.Proofs.Ytdbngpkbamhbeaa
