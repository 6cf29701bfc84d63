import Derived.Test.YtbgecpjlopdkfaaDoorHfl
import Derived.Test.YtbgecpjlopdkfaaDoorEngZp
import Derived.Test.YtbgecpjlopdkfaaDoorEngT
import Derived.Test.YtbgecpjlopdkfaaDoorTabs
set_option linter.unusedSimpArgs false
set_option linter.unusedVariables false
set_option linter.unusedSectionVars false
set_option maxRecDepth 20000
namespace Go.Proofs.YtbgecpjlopdkfaaDoor
open Go.ChangeShapes Go.WideShapes Go.ChangeAt Go.RowKit
attribute [local irreducible] QOp aL aC qL
theorem HeytingGlivenko_knob : ownKnob Tryd.prog.godebug = none := by kernel_rfl
theorem HeytingGlivenko_laid : laidOutB Tryd.prog = true := by kernel_rfl
theorem door_met (os : Os) (args : Array Value) : laidMetH Tryd.prog tabL ((World.doorLaid Tryd.prog 19 os).forCall (fun _ _ => 0) ⟨#[], args, []⟩).memory :=
  laidMetH_of_parts3 (fuel := 8) (laidMet_of_run' 8 (by kernel_rfl) (by kernel_rfl)) (by kernel_rfl) (by kernel_rfl)
set_option maxRecDepth 100000 in
theorem HeytingGlivenko_lifted (os : Os) (started : os.Started) (H : Type) (enc : TypeId × Value → H) :
    ReturnsInHanded {} Tryd.checked os 13 .any (fun w args => (Rows.heytingGlivenkoSpec.pre enc Tryd.prog Tryd.f13 Rows.heytingGlivenkoRow.domain false w args ∧ laidMetH Tryd.prog tabL w) ∧ sizedMet enc Tryd.prog Tryd.f13 (OpenSpec.ofChange Rows.heytingGlivenkoSpec) false w args) (Rows.heytingGlivenkoSpec.post enc Tryd.prog Tryd.f13 false true false false) := by
  refine law_frameT (C := Tryd.checked) (laid := tabL) HeytingGlivenko_knob started (by kernel_rfl) Tryd.func13
    (ChangeSpec.witness_shaped (enc := enc) (C := Tryd.checked) (os := os) (X := fun w _ => laidMetH Tryd.prog tabL w) false (World.doorLaid Tryd.prog 19 os) #[.agg #[.int .i64 0, .slice none 0 0, .slice none 0 0], .agg #[.int .i64 0, .int .i64 0, .slice none 0 0]] 8 rfl (World.shaped_of_RefB (by kernel_rfl) (by kernel_rfl)) (by kernel_rfl) (by kernel_rfl) (by kernel_rfl) (door_met os _))
    HeytingGlivenko_laid rfl Tryd.underlying4 (by kernel_rfl) rfl ?_ tab_laid ?_
  · intro ds h
    match ds, h with
    | [d0, d1], _ => rfl
  · intro W base args ds p hval hA
    obtain ⟨v0, v1, d0, d1, p0, p1, rfl, rfl, rfl, h0, h1⟩ := trodAll_two hA
    obtain ⟨N0, m0, j0, u0, s0, rfl, r0, q0, a0, b0, c0⟩ := arg_lat Tryd.underlying64 (by kernel_rfl) rfl rfl rfl Tryd.underlying3 (by kernel_rfl) Tryd.underlying62 (by kernel_rfl) Tryd.underlying62 (by kernel_rfl) Tryd.underlying22 Tryd.underlying3 (by kernel_rfl) (by kernel_rfl) (hval 0 _ _ rfl rfl) h0
    obtain ⟨k1, q1, l1, u1, rfl, r1, z1⟩ := arg_treeS Tryd.underlying55 (by kernel_rfl) rfl rfl rfl Tryd.underlying3 Tryd.underlying3 (by kernel_rfl) (by kernel_rfl) Tryd.underlying53 (by kernel_rfl) (hval 1 _ _ rfl rfl) h1
    exact ⟨[_, _], ⟨gm_lat r0 q0, gm_tree r1, trivial⟩, HeytingGlivenko_ac N0 m0 j0 k1 q1 l1 z1 b0 c0⟩
theorem HeytingGlivenko_row : Rows.HeytingGlivenkoSaid :=
  OpenClaim.holds_of_wide 13 Tryd.f13 rfl rfl rfl rfl rfl rfl rfl ⟨rfl, rfl, rfl, rfl, rfl⟩ rfl rfl rfl rfl rfl (by kernel_rfl) Tryd.func13 (by kernel_rfl)
    (of_decide_eq_true (by kernel_rfl)) (by unfold Func.isWrapper; first | (rw [if_pos (by decide +kernel)]; kernel_rfl) | (rw [if_neg (by decide +kernel)]; exact ⟨rfl, rfl⟩))
    (fun os started H enc _ => HeytingGlivenko_lifted os started H enc)
theorem HeytingGlivenko_holds : Rows.HeytingGlivenkoCardSaid :=
  Claim7.holds_tied_plain_at .later [] [.data, .data] true (true, "f51895cc30d3b5502e42c5965200da0814f62ff448adcac35df1d396ea5e06af") false
    HeytingGlivenko_row (fun _ h => by cases h) (by kernel_rfl) (fun _ h => by cases h) heytingGlivenko_row_tie rfl ⟨rfl, rfl⟩ (by kernel_rfl) rfl
    (fun f fn hf hfn => by
      obtain rfl : f = 13 := Option.some.inj ((show Tryd.prog.funcNamed "hasse/hasselaw.HeytingGlivenko" = some 13 by kernel_rfl).symm.trans hf) |>.symm
      obtain rfl : fn = Tryd.f13 := (Option.some.inj (Tryd.func13.symm.trans hfn)).symm
      exact ⟨by kernel_rfl, fun j t ht => by
        rw [Tryd.params13] at ht
        have hm : t ∈ [64, 55] := by simpa using Array.mem_of_getElem? ht
        have hall : ([64, 55].all fun u => !Tryd.prog.wantsStandIn u) = true := by kernel_rfl
        exact (show Tryd.prog.wantsStandIn t = false by simpa using List.all_eq_true.1 hall t hm)⟩)
    (by kernel_rfl)
end Go.Proofs.YtbgecpjlopdkfaaDoor
