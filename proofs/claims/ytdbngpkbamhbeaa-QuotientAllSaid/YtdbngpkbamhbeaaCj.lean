import Derived.Test.YtdbngpkbamhbeaaCg
import Derived.Test.YtdbngpkbamhbeaaEngZzc
import Derived.Test.YtdbngpkbamhbeaaTypes
import Derived.Shelf.SlSortCmp.NoneTotal
import Derived.Shelf.SlicesG.Cmp
import Derived.Shelf.Lay
import Derived.Ground.SlsfProg
import Derived.Ground.SlgcProg
import Derived.LoopTactic
import Derived.StillTactics
import Derived.Laws.Pointers
import Derived.Sort.Grow
set_option linter.unusedSimpArgs false
set_option linter.unusedVariables false
set_option linter.unusedSectionVars false
set_option maxRecDepth 20000
namespace Go.Proofs
open Go.Shelf Go.Lib Go.Sort Go.RowKit
shelf_lay_g SlLaysF.n6 Slsf 6 at Try 107 as Ytdbngpkbamhbeaa.layRq
shelf_lay_g SlLaysC2.n5 Slgc 5 at Try 95 as Ytdbngpkbamhbeaa.layCq
end Go.Proofs
namespace Go.Proofs.Ytdbngpkbamhbeaa
open Go.RowKit Go.Shelf Go.Lib Go.Sort
set_option maxHeartbeats 2000000 in
theorem cmpS_calls (n : Nat) (la lb : List Nat) (hn : n ≤ 1000) (R : Int) (hR1 : ∀ k, k < n → (∀ j, j < k → la.getD j 0 = lb.getD j 0) → la.getD k 0 ≠ lb.getD k 0 → R = Lib.compareInt (la.getD k 0 : Nat) (lb.getD k 0 : Nat)) (hR0 : (∀ j, j < n → la.getD j 0 = lb.getD j 0) → R = 0)
    (ba oa ca bb ob cb : Nat) (w : World) (ha : ∀ j, j < n → w.cell? ⟨ba, oa + j, none⟩ = some (.int .i64 (la.getD j 0 : Nat))) (hb : ∀ j, j < n → w.cell? ⟨bb, ob + j, none⟩ = some (.int .i64 (lb.getD j 0 : Nat))) :
    Calls Try.prog 108 #[.slice (some ⟨ba, oa, none⟩) n ca, .slice (some ⟨bb, ob, none⟩) n cb] w fun e w' => e = .returned (.int .i64 R) ∧ w' = w := by
  have hcon := fun x y W' => AnyG.cmp_Compare_int layCq x y W'
  change ∀ x y W', Calls Try.prog 95 _ _ _ at hcon
  go_enter Try.func108, Try.ntmps108
  go_wp2
  go_loop [11] (fun i => ∃ k : Nat, k ≤ n ∧ i = .int .i64 k ∧ ∀ j, j < k → la.getD j 0 = lb.getD j 0) (fun i => match i with | .int _ m => n - m.toNat | _ => 0)
  case atStart => exact ⟨0, Nat.zero_le _, rfl, fun j hj => by omega⟩
  case round =>
    obtain ⟨k, hk, rfl, hall⟩ := hrel
    have ha1 : k < n → w.cell? ⟨ba, oa + k, none⟩ = some (.int .i64 (la.getD k 0 : Nat)) := ha k
    have hb1 : k < n → w.cell? ⟨bb, ob + k, none⟩ = some (.int .i64 (lb.getD k 0 : Nat)) := hb k
    go_wp2_with (go_at_call 95; refine (hcon _ _ _).mono ?_; rintro e w' ⟨rfl, rfl⟩)
    all_goals (try simp only [← List.getD_eq_getElem?_getD] at *)
    · rename_i hne
      have hne2 : la.getD k 0 ≠ lb.getD k 0 := fun e => by
        rw [e] at hne
        simp [Lib.compareInt] at hne
      have e := hR1 k (by assumption) hall hne2
      go_ret
      exact ⟨congrArg (fun r => Ending.returned (Value.int .i64 r)) e.symm, rfl⟩
    · rename_i heq
      refine ⟨⟨k + 1, by omega, rfl, fun j hj => ?_⟩, by omega⟩
      by_cases hjk : j = k
      · subst hjk
        unfold Lib.compareInt at heq
        split at heq
        · simp at heq
        · split at heq
          · simp at heq
          · omega
      · exact hall j (by omega)
    · have hkn : k = n := by omega
      subst hkn
      have e := hR0 hall
      go_ret
      exact ⟨congrArg (fun r => Ending.returned (Value.int .i64 r)) e.symm, rfl⟩
end Go.Proofs.Ytdbngpkbamhbeaa
