import Derived.Test.YtbgecpjlopdkfaaDoorGf
import Derived.Test.YtbgecpjlopdkfaaDoorGa
import Derived.Test.YtbgecpjlopdkfaaDoorFkb
import Derived.Test.YtbgecpjlopdkfaaDoorEngA
import Derived.Test.YtbgecpjlopdkfaaDoorGd
import Derived.Test.YtbgecpjlopdkfaaDoorEngZzt
import Derived.Test.YtbgecpjlopdkfaaDoorTypes
import Derived.Tactics
import Derived.Tactics2
import Derived.Defers
import Derived.Laws.Pointers
import Derived.Laws.LoneSync
import Derived.RegionTactic
import Derived.RegionCalls
import Derived.ChangeAlike
set_option linter.unusedSimpArgs false
set_option linter.unusedVariables false
set_option linter.unusedSectionVars false
set_option maxRecDepth 20000
namespace Go.Proofs.YtbgecpjlopdkfaaDoor
attribute [local irreducible] QOp aL aC qL
theorem Dual_err (N : Int) (l : List Int) (h : chk N l ≠ 0) : AC Tryd.prog 47 [ordv N l] [] (.tup [ordv 0 [], .val (.int .i64 (chk N l))]) [] := by
  refine AC.mk (n := 13) (fn := Tryd.f47) Tryd.func47 (by kernel_rfl) rfl rfl rfl rfl (fun cx => ?_); dsimp only [argv, Nat.reduceAdd]
  (repeat' (first | refine a_seq ?_ | refine a_ret ?_ | refine a_region ?_ | refine l_nil ?_ | (apply w_q; (focus (first | exact Q_move (by conv => lhs; whnf) | exact Q_assign (by conv => lhs; whnf) | exact Q_load_all rfl rfl KAg.h | exact Q_neq rfl rfl | exact Q_build0 KBd.h (by simp only [List.map_cons, List.map_nil, List.take_succ_cons, List.take_zero, List.drop_succ_cons, List.drop_zero, List.drop_nil, List.nil_append, List.cons_append, List.append_nil, List.length_cons, List.length_nil, Nat.reduceAdd, Nat.reduceMul]; exact rfl))); (focus exact rfl)) | (refine a_cond rfl ?_ ?_ <;> (intro h; (try (have hp := of_decide_eq_true h)); (try (have hp := of_decide_eq_false h)); (try contradiction); (try (exfalso; omega)))) | refine w_box rfl rfl (by first|(dsimp only[obA,obB,obD,obE,obF,obG,obI,List.map,AO.sh,AV.sh,AV.shl,Nat.reduceAdd];done)|exact rfl) (by first|(dsimp only[obA,obB,obD,obE,obF,obG,obI,List.map,AO.sh,AV.sh,AV.shl,Nat.reduceAdd];done)|exact rfl) rfl ?_ | refine w_alloc KMk.h (by first|(dsimp only[obA,obB,obD,obE,obF,obG,obI,List.map,AO.sh,AV.sh,AV.shl,Nat.reduceAdd];done)|exact rfl) rfl (by first|(dsimp only[obA,obB,obD,obE,obF,obG,obI,List.map,AO.sh,AV.sh,AV.shl,Nat.reduceAdd];done)|exact rfl) (by first|(dsimp only[obA,obB,obD,obE,obF,obG,obI,List.map,AO.sh,AV.sh,AV.shl,Nat.reduceAdd];done)|exact rfl) rfl ?_ | refine w_store_all rfl rfl rfl rfl rfl KSz.h (by first|(dsimp only[obA,obB,obD,obE,obF,obG,obI,List.map,AO.sh,AV.sh,AV.shl,Nat.reduceAdd];done)|exact rfl) ?_ | (((first | apply w_q); (focus (refine Q_call (.inl ⟨rfl, rfl⟩) (Check_ac N l) ?_; ((repeat' (first | exact trivial | exact vwR rfl | exact Vw.ro _ | refine Vw.agg' ?_ | refine ⟨?_, ?_⟩ )); done))); (focus exact rfl))))); (try all_goals (try show retA _ _ _ _ _ _ _))
  refine ⟨[_, _], [], ⟨resV_cell rfl rfl KAg.h, resV_tmp (by conv => lhs; whnf), trivial⟩, VwOs.mk (by decide) trivial, ?_, rfl⟩
  (repeat' (first | exact trivial | exact vwR rfl | exact vwRL rfl | exact Vw.nilro _ | refine Vw.agg' ?_ | refine Vw.tup' ?_ | refine ⟨?_, ?_⟩ ))
theorem Dual_ok (n : Nat) (ns : List Nat) (hv : Vld n ns) (hn : n ≤ 10) (h : chk n (nl ns) = 0) :
    AC Tryd.prog 47 [ordv n (nl ns)] [] (.tup [.agg [.val (.int .i64 n), .own 0], .val (.int .i64 0)]) [.row 3 1 (intc (nl (ofn n (dualP ns))))] := by
  have call := Turn_ac n ns hn hv
  refine AC.mk (n := 13) (fn := Tryd.f47) Tryd.func47 (by kernel_rfl) rfl rfl rfl rfl (fun cx => ?_); dsimp only [argv, Nat.reduceAdd]
  (repeat' (first | refine a_seq ?_ | refine a_skip ?_ | refine a_ret ?_ | refine a_region ?_ | refine l_nil ?_ | (apply w_q; (focus (first | exact Q_move (by conv => lhs; whnf) | exact Q_assign (by conv => lhs; whnf) | exact Q_load_all rfl rfl KAg.h | exact Q_neq rfl rfl)); (focus exact rfl)) | (refine a_cond rfl ?_ ?_ <;> (intro h; (try (have hp := of_decide_eq_true h)); (try (have hp := of_decide_eq_false h)); (try contradiction); (try (exfalso; omega)))) | refine w_box rfl rfl (by first|(dsimp only[obA,obB,obD,obE,obF,obG,obI,List.map,AO.sh,AV.sh,AV.shl,Nat.reduceAdd];done)|exact rfl) (by first|(dsimp only[obA,obB,obD,obE,obF,obG,obI,List.map,AO.sh,AV.sh,AV.shl,Nat.reduceAdd];done)|exact rfl) rfl ?_ | refine w_alloc KMk.h (by first|(dsimp only[obA,obB,obD,obE,obF,obG,obI,List.map,AO.sh,AV.sh,AV.shl,Nat.reduceAdd];done)|exact rfl) rfl (by first|(dsimp only[obA,obB,obD,obE,obF,obG,obI,List.map,AO.sh,AV.sh,AV.shl,Nat.reduceAdd];done)|exact rfl) (by first|(dsimp only[obA,obB,obD,obE,obF,obG,obI,List.map,AO.sh,AV.sh,AV.shl,Nat.reduceAdd];done)|exact rfl) rfl ?_ | refine w_store_all rfl rfl rfl rfl rfl KSz.h (by first|(dsimp only[obA,obB,obD,obE,obF,obG,obI,List.map,AO.sh,AV.sh,AV.shl,Nat.reduceAdd];done)|exact rfl) ?_ | (((first | apply w_q); (focus (refine Q_call (.inl ⟨rfl, rfl⟩) (Check_ac n (nl ns)) ?_; ((repeat' (first | exact trivial | exact vwR rfl | exact Vw.ro _ | refine Vw.agg' ?_ | refine ⟨?_, ?_⟩ )); done))); (focus exact rfl))) | ((refine w_callR (res := .agg [.val (.int .i64 n), .own 0]) (news := [.row 3 1 (intc (nl (ofn n (dualP ns))))]) (.inl ⟨rfl, rfl⟩) (call) ?_ ?_ ?_ rfl (by repeat' (first | exact trivial | exact flat_ints _ _ | refine ⟨?_, ?_⟩)) (by first|(dsimp only[obA,obB,obD,obE,obF,obG,obI,List.map,AO.sh,AV.sh,AV.shl,Nat.reduceAdd];done)|exact rfl) (by first|(dsimp only[obA,obB,obD,obE,obF,obG,obI,List.map,AO.sh,AV.sh,AV.shl,Nat.reduceAdd];done)|exact rfl) rfl ?_; rotate_left 0; (focus exact rfl); (focus exact rfl); (focus ((repeat' (first | exact trivial | exact vwR rfl | exact Vw.ro _ | refine Vw.agg' ?_ | refine ⟨?_, ?_⟩ )); done)); rotate_left 1; all_goals (try (skip)))))); (try all_goals (try show retA _ _ _ _ _ _ _))
  refine ⟨[_, _], [2], ⟨resV_cell rfl rfl KAg.h, resV_tmp (by conv => lhs; whnf), trivial⟩, VwOs.mk (by decide) ⟨⟨_, rfl, .row _ _ _⟩, trivial⟩, ?_, rfl⟩
  (repeat' (first | exact trivial | exact vwR rfl | exact vwRL rfl | exact Vw.own _ _ rfl | refine Vw.agg' ?_ | refine Vw.tup' ?_ | refine ⟨?_, ?_⟩ ))
end Go.Proofs.YtbgecpjlopdkfaaDoor
set_option linter.unusedSimpArgs false
set_option linter.unusedVariables false
set_option linter.unusedSectionVars false
set_option maxRecDepth 20000
namespace Go.Proofs.YtbgecpjlopdkfaaDoor
attribute [local irreducible] QOp aL aC qL
/-- b is reached from a. -/
inductive Reach (l : List (Nat × Nat)) : Nat → Nat → Prop where
  | one {a b : Nat} (h : (a, b) ∈ l) : Reach l a b
  | more {a c b : Nat} (h : Reach l a c) (h2 : (c, b) ∈ l) : Reach l a b
theorem Reach.trans {l : List (Nat × Nat)} {a b c : Nat} (h : Reach l a b) (h2 : Reach l b c) : Reach l a c := by
  induction h2 with
  | one h3 => exact .more h h3
  | more _ h3 ih => exact .more ih h3
theorem Reach.mono {l l' : List (Nat × Nat)} (hl : ∀ p ∈ l, p ∈ l') {a b : Nat} (h : Reach l a b) : Reach l' a b := by
  induction h with
  | one h3 => exact .one (hl _ h3)
  | more _ h3 ih => exact .more ih (hl _ h3)
/-! The pairs, one by one. -/
/-! One round. -/
structure War (n : Nat) (l : List (Nat × Nat)) (k : Nat) (ns : List Nat) : Prop where
  vld : Vld n ns
  sound : ∀ x y, y < n → lt ns x y = true → Reach l x y
  keep : ∀ x y, (x, y) ∈ l → lt ns x y = true
  tr : ∀ c, c < k → ∀ x y, y < n → lt ns x c = true → lt ns c y = true → lt ns x y = true
theorem Reach.lt {n : Nat} {l : List (Nat × Nat)} (hl : ∀ p ∈ l, p.1 < n ∧ p.2 < n) {x y : Nat} (h : Reach l x y) : x < n ∧ y < n := by
  induction h with
  | one h => exact hl _ h
  | more _ h ih => exact ⟨ih.1, (hl _ h).2⟩
end Go.Proofs.YtbgecpjlopdkfaaDoor
set_option linter.unusedSimpArgs false
set_option linter.unusedVariables false
set_option linter.unusedSectionVars false
set_option maxRecDepth 20000
namespace Go.Proofs.YtbgecpjlopdkfaaDoor
def sumTo (g : Nat → Nat) : Nat → Nat
  | 0 => 0
  | k + 1 => sumTo g k + g k
/-- A list of numbers, each of them taken so many times. -/
def dot (w : List Nat) (m : Nat → Nat) (k : Nat) : Nat := sumTo (fun t => w.getD t 0 * m t) k
end Go.Proofs.YtbgecpjlopdkfaaDoor
set_option linter.unusedSimpArgs false
set_option linter.unusedVariables false
set_option linter.unusedSectionVars false
set_option maxRecDepth 20000
namespace Go.Proofs.YtbgecpjlopdkfaaDoor
attribute [local irreducible] QOp aL aC qL
/-- In how many ways f points may follow a set, one by one. -/
def cnt (n : Nat) (may : Nat → Nat → Bool) : Nat → Nat → Nat
  | 0, _ => 1
  | f + 1, s => sumTo (fun p => if may s p = true then cnt n may f (s ||| 2 ^ p) else 0) n
/-- How many of n points are not in a set. -/
def mis (n s : Nat) : Nat := (List.range n).countP fun i => !s.testBit i
/-- All that may follow a set. -/
def rest (n : Nat) (may : Nat → Nat → Bool) (s : Nat) : Nat := cnt n may (mis n s) s
def term (n : Nat) (may : Nat → Nat → Bool) (s p : Nat) : Nat := if may s p = true then rest n may (s ||| 2 ^ p) else 0
/-- What is told of the sets from k on. -/
def tbl (n : Nat) (may : Nat → Nat → Bool) (k : Nat) : List Nat := (List.range (2 ^ n)).map fun s => if k ≤ s then rest n may s else 0
/-! Pairs, and the order that they come to. -/
def mayB (l : List (Nat × Nat)) (s p : Nat) : Bool := !s.testBit p && l.all fun e => !decide (e.2 = p) || s.testBit e.1
def mayO (ns : List Nat) (s p : Nat) : Bool := !s.testBit p && sub (ns.getD p 0) s
theorem mayB_iff {l : List (Nat × Nat)} {s p : Nat} : mayB l s p = true ↔ s.testBit p = false ∧ ∀ a, (a, p) ∈ l → s.testBit a = true := by
  simp only [mayB, Bool.and_eq_true, Bool.not_eq_true', List.all_eq_true, Bool.or_eq_true, decide_eq_false_iff_not]
  constructor
  · rintro ⟨h1, h2⟩
    exact ⟨h1, fun a ha => (h2 _ ha).elim (fun h => absurd rfl h) id⟩
  · rintro ⟨h1, h2⟩
    refine ⟨h1, fun e he => ?_⟩
    by_cases hp : e.2 = p
    · exact .inr (h2 e.1 (by rw [← hp]; exact he))
    · exact .inl hp
def Dn (l : List (Nat × Nat)) (s : Nat) : Prop := ∀ a b, (a, b) ∈ l → s.testBit b = true → s.testBit a = true
theorem Dn.step {l : List (Nat × Nat)} {s p : Nat} (hd : Dn l s) (h : mayB l s p = true) : Dn l (s ||| 2 ^ p) := by
  intro a b hab hb
  rw [Nat.testBit_or, Nat.testBit_two_pow, Bool.or_eq_true, decide_eq_true_eq] at hb
  rw [Nat.testBit_or, Bool.or_eq_true]
  rcases hb with hb | hb
  · exact .inl (hd a b hab hb)
  · subst hb
    exact .inl ((mayB_iff.1 h).2 a hab)
end Go.Proofs.YtbgecpjlopdkfaaDoor
set_option linter.unusedSimpArgs false
set_option linter.unusedVariables false
set_option linter.unusedSectionVars false
set_option maxRecDepth 20000
namespace Go.Proofs.YtbgecpjlopdkfaaDoor
attribute [local irreducible] QOp aL aC qL
theorem bit_zero (s p : Nat) : decide (((s / 2 ^ p % 2 : Nat) : Int) = 0) = !s.testBit p := by
  rw [← bit_dec s p]
  have := Nat.mod_lt (s / 2 ^ p) (show 0 < 2 by decide)
  rw [← decide_not]
  exact decide_eq_decide.2 (by omega)
/-- What has been summed up for a set, of the first p points. -/
def acc (n : Nat) (may : Nat → Nat → Bool) (s p : Nat) : Nat := (if s = 2 ^ n - 1 then 1 else 0) + sumTo (term n may s) p
/-- The table while a set is summed up. -/
def tby (n : Nat) (may : Nat → Nat → Bool) (s p : Nat) : List Nat := (tbl n may (s + 1)).set s (acc n may s p)
structure Tby (n : Nat) (may : Nat → Nat → Bool) (s p : Nat) (Y : List Nat) : Prop where
  len : Y.length = 2 ^ n
  at' : Y.getD s 0 ≤ 200000000000
  up : p < n → s.testBit p = false → Y.getD (s ||| 2 ^ p) 0 ≤ 10000000000
  keep : may s p = false → tby n may s (p + 1) = Y
  grow : p < n → may s p = true → tby n may s (p + 1) = Y.set s (Y.getD s 0 + Y.getD (s ||| 2 ^ p) 0)
  fin : p = n → Y = tbl n may s
end Go.Proofs.YtbgecpjlopdkfaaDoor
set_option linter.unusedSimpArgs false
set_option linter.unusedVariables false
set_option linter.unusedSectionVars false
set_option maxRecDepth 20000
namespace Go.Proofs.YtbgecpjlopdkfaaDoor
theorem on_disable (w : World) : (callFunc 182 #[]).run Tryd.prog w = .ok (.value (.tuple #[])) w := run_call_mark0 Tryd.func182 (by kernel_rfl) (by kernel_rfl) (by kernel_rfl) .disable (by kernel_rfl) w
theorem on_enable (w : World) : (callFunc 184 #[]).run Tryd.prog w = .ok (.value (.tuple #[])) w := run_call_mark0 Tryd.func184 (by kernel_rfl) (by kernel_rfl) (by kernel_rfl) .enable (by kernel_rfl) w
theorem on_acquire (a : Addr) (w : World) : (callFunc 185 #[.pointer (some a)]).run Tryd.prog w = .ok (.value (.tuple #[])) w := run_call_marked Tryd.func185 (by kernel_rfl) (by kernel_rfl) (by kernel_rfl) .acquire (by kernel_rfl) a w
theorem on_release (a : Addr) (w : World) : (callFunc 187 #[.pointer (some a)]).run Tryd.prog w = .ok (.value (.tuple #[])) w := run_call_marked Tryd.func187 (by kernel_rfl) (by kernel_rfl) (by kernel_rfl) .releaseMerge (by kernel_rfl) a w
theorem on_store (a : Addr) (x : Value) (u : FrameMode) (w : World) (hc : w.cell? a = some x) (hz : w.frozen? a = false) :
    CallsD Tryd.prog 171 #[.pointer (some a), .bool true] u w fun e u' w' => u' = u ∧ (e = .returned (.tuple #[]) ∧ w' = w.drew.setCell a (.int .u32 1)) := by
  have hc' : w.drew.cell? a = some x := by go_simp
  have hz' : w.drew.frozen? a = false := by go_simp
  have hst := run_call_store (P := Tryd.prog) Tryd.func179 (by kernel_rfl) (by kernel_rfl) (by kernel_rfl) (by kernel_rfl) (k := .u32) (y := 1) hc' hz'
  go_enter_d Tryd.func171, Tryd.ntmps171
  go_wp2
  go_region_calls
  all_goals (go_end0; exact ⟨rfl, rfl⟩)
theorem on_unlock (a : Addr) (u : FrameMode) (w : World) (hc : w.cell? a = some (.int .i32 1)) (hz : w.frozen? a = false) :
    CallsD Tryd.prog 170 #[.pointer (some a)] u w fun e u' w' => u' = u ∧ (e = .returned (.tuple #[]) ∧ w' = w.setCell a (.int .i32 0)) := by
  have hd := on_disable
  have he := on_enable
  have hr := on_release
  have hadd := run_call_add (P := Tryd.prog) Tryd.func188 (by kernel_rfl) (by kernel_rfl) (by kernel_rfl) .i32 (by kernel_rfl) (y := -1) (s := 0) hc hz (by simp [go_sem]; rfl)
  have hcv := run_convert_to_unsafe (P := Tryd.prog) (src := 200) (dst := 204) Tryd.underlying200 Tryd.underlying204 (by kernel_rfl) hc
  go_enter_d Tryd.func170, Tryd.ntmps170
  go_wp2
  go_end0
  go_wp2
  go_end0
  exact ⟨rfl, rfl⟩
theorem on_lock (a : Addr) (w : World) (hc : w.cell? a = some (.int .i32 0)) (hz : w.frozen? a = false) :
    Calls Tryd.prog 169 #[.pointer (some a)] w fun e w' => e = .returned (.tuple #[]) ∧ w' = w.setCell a (.int .i32 1) := by
  have hd := on_disable
  have he := on_enable
  have ha := on_acquire
  have hcas := run_call_cas_hit (P := Tryd.prog) Tryd.func183 (by kernel_rfl) (by kernel_rfl) (by kernel_rfl) .i32 (by kernel_rfl) (y := 1) hc hz
  have hc' : (w.setCell a (.int .i32 1)).cell? a = some (.int .i32 1) := World.cell?_setCell_same w a _ hc
  have hcv := run_convert_to_unsafe (P := Tryd.prog) (src := 200) (dst := 204) Tryd.underlying200 Tryd.underlying204 (by kernel_rfl) hc'
  go_enter Tryd.func169, Tryd.ntmps169
  go_wp2
  first | go_end0 | (simp only [Exit.inBlock, Exit.then]; refine bodyPost_ret (results_none rfl _ _ _) rfl ?_) | refine bodyPost_ret (results_none rfl _ _ _) rfl ?_
  go_wp2
  go_end0
  exact ⟨rfl, rfl⟩
end Go.Proofs.YtbgecpjlopdkfaaDoor
set_option linter.unusedSimpArgs false
set_option linter.unusedVariables false
set_option linter.unusedSectionVars false
set_option maxRecDepth 20000
namespace Go.Proofs.YtbgecpjlopdkfaaDoor
set_option maxRecDepth 100000 in
set_option maxHeartbeats 1600000 in
theorem on_slow (b : Nat) (w : World) (h3 : w.cell? ⟨b, 3, none⟩ = some (.int .u32 0)) (h4 : w.cell? ⟨b, 4, none⟩ = some (.int .i32 0)) (f3 : w.frozen? ⟨b, 3, none⟩ = false) (f4 : w.frozen? ⟨b, 4, none⟩ = false) (R : World → Prop)
    (hR : ∀ w2, R w2 → w2.cell? ⟨b, 3, none⟩ = some (.int .u32 0) ∧ w2.cell? ⟨b, 4, none⟩ = some (.int .i32 1) ∧ w2.frozen? ⟨b, 3, none⟩ = false ∧ w2.frozen? ⟨b, 4, none⟩ = false)
    (hl : Calls Tryd.prog 128 #[.pointer (some ⟨b, 0, none⟩)] (w.setCell ⟨b, 4, none⟩ (.int .i32 1)) fun e w2 => e = .returned (.tuple #[]) ∧ R w2) :
    Calls Tryd.prog 154 #[.pointer (some ⟨b, 3, none⟩), .func (.func 128) #[.pointer (some ⟨b, 0, none⟩)] #[]] w fun e w' => e = .returned (.tuple #[]) ∧ ∃ w2, R w2 ∧ w' = (w2.drew.setCell ⟨b, 3, none⟩ (.int .u32 1)).setCell ⟨b, 4, none⟩ (.int .i32 0) := by
  have hld := run_call_load (P := Tryd.prog) Tryd.func168 (by kernel_rfl) (by kernel_rfl) (by kernel_rfl) .u32 (by kernel_rfl) (w := w.setCell ⟨b, 4, none⟩ (.int .i32 1)) (a := ⟨b, 3, none⟩) (x := 0) ((World.cell?_setCell_other _ ⟨b, 4, none⟩ ⟨b, 3, none⟩ _ (by simp)).trans h3)
  have hnot : ∀ (x : Bool) (w : World), (Op.unary .not (.bool x)).run Tryd.prog w = .ok (.bool (!x)) w := fun _ _ => rfl
  go_enter_defers Tryd.func154, Tryd.ntmps154
  go_wp2_with (first | (go_at_call 169; refine (on_lock ⟨b, 4, none⟩ _ h4 f4).mono ?_; rintro e w' ⟨rfl, rfl⟩) | (go_at_call 128; refine hl.mono ?_; rintro e w2 ⟨rfl, hr⟩) | (go_at_call 153; go_in))
  obtain ⟨r3, r4, g3, g4⟩ := hR w2 hr
  refine leaves_cons (f := 171) (args := #[.pointer (some ⟨b, 3, none⟩), .bool true]) (by simp) (by simp [go_sem]) ?_
  refine (on_store ⟨b, 3, none⟩ (.int .u32 0) .returning _ r3 g3).mono ?_
  rintro e u' w'' ⟨rfl, rfl, rfl⟩
  refine leaves_cons (f := 170) (args := #[.pointer (some ⟨b, 4, none⟩)]) (by simp [settle]) (by simp [go_sem]) ?_
  refine (on_unlock ⟨b, 4, none⟩ _ _ ?_ (by simp [g4])).mono ?_
  · refine (World.cell?_setCell_other _ ⟨b, 3, none⟩ ⟨b, 4, none⟩ _ (by simp)).trans ?_
    rw [World.cell?_drew]
    exact r4
  rintro e u' w'' ⟨rfl, rfl, rfl⟩
  simp [Leaves, settle, results, Tryd.results154]
  exact ⟨w2, hr, rfl⟩
set_option maxRecDepth 100000 in
set_option maxHeartbeats 1600000 in
theorem on_first (b : Nat) (w : World) (h3 : w.cell? ⟨b, 3, none⟩ = some (.int .u32 0)) (h4 : w.cell? ⟨b, 4, none⟩ = some (.int .i32 0)) (f3 : w.frozen? ⟨b, 3, none⟩ = false) (f4 : w.frozen? ⟨b, 4, none⟩ = false) (R : World → Prop)
    (hR : ∀ w2, R w2 → w2.cell? ⟨b, 3, none⟩ = some (.int .u32 0) ∧ w2.cell? ⟨b, 4, none⟩ = some (.int .i32 1) ∧ w2.frozen? ⟨b, 3, none⟩ = false ∧ w2.frozen? ⟨b, 4, none⟩ = false)
    (hl : Calls Tryd.prog 128 #[.pointer (some ⟨b, 0, none⟩)] (w.setCell ⟨b, 4, none⟩ (.int .i32 1)) fun e w2 => e = .returned (.tuple #[]) ∧ R w2) :
    Calls Tryd.prog 127 #[.pointer (some ⟨b, 3, none⟩), .func (.func 128) #[.pointer (some ⟨b, 0, none⟩)] #[]] w fun e w' => e = .returned (.tuple #[]) ∧ ∃ w2, R w2 ∧ w' = (w2.drew.setCell ⟨b, 3, none⟩ (.int .u32 1)).setCell ⟨b, 4, none⟩ (.int .i32 0) := by
  have hld := run_call_load (P := Tryd.prog) Tryd.func168 (by kernel_rfl) (by kernel_rfl) (by kernel_rfl) .u32 (by kernel_rfl) h3
  have hnot : ∀ (x : Bool) (w : World), (Op.unary .not (.bool x)).run Tryd.prog w = .ok (.bool (!x)) w := fun _ _ => rfl
  go_enter Tryd.func127, Tryd.ntmps127
  go_wp2_with (first | (go_at_call 154; refine (on_slow b _ h3 h4 f3 f4 R hR hl).mono ?_; rintro e w' ⟨rfl, hw⟩) | (go_at_call 153; go_in))
  go_end0
  exact ⟨rfl, hw⟩
theorem on_done (a : Addr) (d : Int) (hd : ¬ d = 0) (fv : Value) (w : World) (h0 : w.cell? a = some (.int .u32 d)) :
    Calls Tryd.prog 127 #[.pointer (some a), fv] w fun e w' => e = .returned (.tuple #[]) ∧ w' = w := by
  have hl := run_call_load (P := Tryd.prog) Tryd.func168 (by kernel_rfl) (by kernel_rfl) (by kernel_rfl) .u32 (by kernel_rfl) h0
  have hnot : ∀ (x : Bool) (w : World), (Op.unary .not (.bool x)).run Tryd.prog w = .ok (.bool (!x)) w := fun _ _ => rfl
  have hd' : (d != 0) = true := by simp [hd]
  go_enter Tryd.func127, Tryd.ntmps127
  go_wp2
  go_end0
  exact ⟨rfl, rfl⟩
end Go.Proofs.YtbgecpjlopdkfaaDoor
