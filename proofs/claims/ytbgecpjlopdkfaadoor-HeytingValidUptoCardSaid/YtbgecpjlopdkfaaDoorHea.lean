import Derived.Test.YtbgecpjlopdkfaaDoorFm
import Derived.Test.YtbgecpjlopdkfaaDoorFb
import Derived.Test.YtbgecpjlopdkfaaDoorTypes
import Derived.Tactics
import Derived.Tactics2
import Derived.Defers
import Derived.Laws.Pointers
import Derived.Laws.LoneSync
import Derived.RegionTactic
import Derived.RegionCalls
import Derived.ChangeAlike
set_option linter.unusedSimpArgs false
set_option linter.unusedVariables false
set_option linter.unusedSectionVars false
set_option maxRecDepth 20000
namespace Go.Proofs.YtbgecpjlopdkfaaDoor
attribute [local irreducible] QOp aL aC qL
def badLen (n : Nat) (f : List Int) : Bool := decide ((f.length : Int) ≠ ((2 ^ n : Nat) : Int))
def badW (w : Int) : Bool := decide (w < 0) || decide (w > 1000)
def wchk (N : Int) (ls : List (List Int)) : Int := if N < 0 ∨ 6 < N then 2 else if ls.any (badLen N.toNat) = true then 1 else if ls.any (fun f => f.any badW) = true then 3 else 0

/-! The reference. -/
/-- Is one of the first k bad. -/
def anyTo {α : Type} (p : α → Bool) (l : List α) (k : Nat) : Bool := (l.take k).any p
end Go.Proofs.YtbgecpjlopdkfaaDoor
set_option linter.unusedSimpArgs false
set_option linter.unusedVariables false
set_option linter.unusedSectionVars false
set_option maxRecDepth 20000
namespace Go.Proofs.YtbgecpjlopdkfaaDoor
attribute [local irreducible] QOp aL aC qL
def sub (a b : Nat) : Bool := ndiff a b == 0
def risesP (n : Nat) (f : List Int) : Bool := (List.range (2 ^ n)).all fun s => (List.range n).all fun p => !decide (f.getD (s ||| 2 ^ p) 0 < f.getD s 0)
def rising (n : Nat) (f : List Int) : Bool := (List.range (2 ^ n)).all fun a => (List.range (2 ^ n)).all fun b => !(sub a b && decide (f.getD a 0 > f.getD b 0))

/-! Walked. -/
end Go.Proofs.YtbgecpjlopdkfaaDoor
set_option linter.unusedSimpArgs false
set_option linter.unusedVariables false
set_option linter.unusedSectionVars false
set_option maxRecDepth 20000
namespace Go.Proofs.YtbgecpjlopdkfaaDoor
attribute [local irreducible] QOp aL aC qL
theorem truthIs_ac (is want : Bool) (e w : Int) : AC Tryd.prog 21 [.val (.bool is), .val (.int .i64 e), .val (.int .i64 w), .val (.bool want)] [] (.val (.bool (decide (e = w) && (is == (want && decide (w = 0)))))) [] := by
  cases is <;> cases want
  all_goals
    refine AC.mk (n := 21) (fn := Tryd.f21) Tryd.func21 (by kernel_rfl) rfl rfl rfl rfl (fun cx => ?_); dsimp only [argv, Nat.reduceAdd]
    (repeat' (first | refine a_seq ?_ | refine a_ret ?_ | refine a_region ?_ | refine l_nil ?_ | (apply w_q; (focus (first | exact Q_move (by conv => lhs; whnf) | exact Q_assign (by conv => lhs; whnf) | exact Q_eql rfl rfl | exact Q_eqlB rfl rfl KBo.h | exact Q_pick_t rfl (by assumption) (by conv => lhs; whnf) | exact Q_pick_f rfl (by assumption) (by conv => lhs; whnf) | exact Q_pick_t rfl rfl (by conv => lhs; whnf) | exact Q_pick_f rfl rfl (by conv => lhs; whnf))); (focus exact rfl)) | refine w_guard_u rfl rfl rfl ?_ | refine w_guard_y rfl rfl rfl (by first | assumption | rfl) ?_ | refine w_guard_n rfl rfl rfl (by first | assumption | rfl) ?_ | (refine w_guard rfl rfl rfl ?_ ?_ <;> (intro h; (try (have hp := of_decide_eq_true h)); (try (have hp := of_decide_eq_false h)); (try contradiction); (try (exfalso; omega)))))); (try all_goals (try show retA _ _ _ _ _ _ _))
    all_goals
      refine ⟨[_], [], ⟨resV_tmp (by conv => lhs; whnf), trivial⟩, VwOs.mk (by decide) trivial, ?_, rfl⟩
      exact Vw.bool' (by simp_all)
end Go.Proofs.YtbgecpjlopdkfaaDoor
set_option linter.unusedSimpArgs false
set_option linter.unusedVariables false
set_option linter.unusedSectionVars false
set_option maxRecDepth 20000
namespace Go.Proofs.YtbgecpjlopdkfaaDoor
theorem on_disable (w : World) : (callFunc 182 #[]).run Tryd.prog w = .ok (.value (.tuple #[])) w := run_call_mark0 Tryd.func182 (by kernel_rfl) (by kernel_rfl) (by kernel_rfl) .disable (by kernel_rfl) w
theorem on_enable (w : World) : (callFunc 184 #[]).run Tryd.prog w = .ok (.value (.tuple #[])) w := run_call_mark0 Tryd.func184 (by kernel_rfl) (by kernel_rfl) (by kernel_rfl) .enable (by kernel_rfl) w
theorem on_acquire (a : Addr) (w : World) : (callFunc 185 #[.pointer (some a)]).run Tryd.prog w = .ok (.value (.tuple #[])) w := run_call_marked Tryd.func185 (by kernel_rfl) (by kernel_rfl) (by kernel_rfl) .acquire (by kernel_rfl) a w
theorem on_release (a : Addr) (w : World) : (callFunc 187 #[.pointer (some a)]).run Tryd.prog w = .ok (.value (.tuple #[])) w := run_call_marked Tryd.func187 (by kernel_rfl) (by kernel_rfl) (by kernel_rfl) .releaseMerge (by kernel_rfl) a w
theorem on_store (a : Addr) (x : Value) (u : FrameMode) (w : World) (hc : w.cell? a = some x) (hz : w.frozen? a = false) :
    CallsD Tryd.prog 171 #[.pointer (some a), .bool true] u w fun e u' w' => u' = u ∧ (e = .returned (.tuple #[]) ∧ w' = w.drew.setCell a (.int .u32 1)) := by
  have hc' : w.drew.cell? a = some x := by go_simp
  have hz' : w.drew.frozen? a = false := by go_simp
  have hst := run_call_store (P := Tryd.prog) Tryd.func179 (by kernel_rfl) (by kernel_rfl) (by kernel_rfl) (by kernel_rfl) (k := .u32) (y := 1) hc' hz'
  go_enter_d Tryd.func171, Tryd.ntmps171
  go_wp2
  go_region_calls
  all_goals (go_end0; exact ⟨rfl, rfl⟩)
theorem on_unlock (a : Addr) (u : FrameMode) (w : World) (hc : w.cell? a = some (.int .i32 1)) (hz : w.frozen? a = false) :
    CallsD Tryd.prog 170 #[.pointer (some a)] u w fun e u' w' => u' = u ∧ (e = .returned (.tuple #[]) ∧ w' = w.setCell a (.int .i32 0)) := by
  have hd := on_disable
  have he := on_enable
  have hr := on_release
  have hadd := run_call_add (P := Tryd.prog) Tryd.func188 (by kernel_rfl) (by kernel_rfl) (by kernel_rfl) .i32 (by kernel_rfl) (y := -1) (s := 0) hc hz (by simp [go_sem]; rfl)
  have hcv := run_convert_to_unsafe (P := Tryd.prog) (src := 200) (dst := 204) Tryd.underlying200 Tryd.underlying204 (by kernel_rfl) hc
  go_enter_d Tryd.func170, Tryd.ntmps170
  go_wp2
  go_end0
  go_wp2
  go_end0
  exact ⟨rfl, rfl⟩
theorem on_lock (a : Addr) (w : World) (hc : w.cell? a = some (.int .i32 0)) (hz : w.frozen? a = false) :
    Calls Tryd.prog 169 #[.pointer (some a)] w fun e w' => e = .returned (.tuple #[]) ∧ w' = w.setCell a (.int .i32 1) := by
  have hd := on_disable
  have he := on_enable
  have ha := on_acquire
  have hcas := run_call_cas_hit (P := Tryd.prog) Tryd.func183 (by kernel_rfl) (by kernel_rfl) (by kernel_rfl) .i32 (by kernel_rfl) (y := 1) hc hz
  have hc' : (w.setCell a (.int .i32 1)).cell? a = some (.int .i32 1) := World.cell?_setCell_same w a _ hc
  have hcv := run_convert_to_unsafe (P := Tryd.prog) (src := 200) (dst := 204) Tryd.underlying200 Tryd.underlying204 (by kernel_rfl) hc'
  go_enter Tryd.func169, Tryd.ntmps169
  go_wp2
  first | go_end0 | (simp only [Exit.inBlock, Exit.then]; refine bodyPost_ret (results_none rfl _ _ _) rfl ?_) | refine bodyPost_ret (results_none rfl _ _ _) rfl ?_
  go_wp2
  go_end0
  exact ⟨rfl, rfl⟩
end Go.Proofs.YtbgecpjlopdkfaaDoor
