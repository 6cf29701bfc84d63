import Derived.Test.YtbgecpjlopdkfaaDoorHjc
import Derived.Test.YtbgecpjlopdkfaaDoorEngZzy
import Derived.Test.YtbgecpjlopdkfaaDoorEngT
import Derived.Test.YtbgecpjlopdkfaaDoorTabs
set_option linter.unusedSimpArgs false
set_option linter.unusedVariables false
set_option linter.unusedSectionVars false
set_option maxRecDepth 20000
namespace Go.Proofs.YtbgecpjlopdkfaaDoor
open Go.ChangeShapes Go.WideShapes Go.ChangeAt Go.RowKit
attribute [local irreducible] QOp aL aC qL
theorem HeytingKripke_ac (N : Int) (L : List Int) (vars : List Int) (k q : Int) (l : List Tr) (hs : (Tr.mk k q l).sml) (hV : vars.length ≤ big) :
    AC Tryd.prog 14 [ordv N L, ints vars, .agg [.val (.int .i64 k), .val (.int .i64 q), tks l]] [] (.val (.bool true)) [] := HKripke_ac N L vars hV k q l hs
theorem HeytingKripke_knob : ownKnob Tryd.prog.godebug = none := by kernel_rfl
theorem HeytingKripke_laid : laidOutB Tryd.prog = true := by kernel_rfl
theorem door_met (os : Os) (args : Array Value) : laidMetH Tryd.prog tabL ((World.doorLaid Tryd.prog 19 os).forCall (fun _ _ => 0) ⟨#[], args, []⟩).memory :=
  laidMetH_of_parts3 (fuel := 8) (laidMet_of_run' 8 (by kernel_rfl) (by kernel_rfl)) (by kernel_rfl) (by kernel_rfl)
set_option maxRecDepth 100000 in
theorem HeytingKripke_lifted (os : Os) (started : os.Started) (H : Type) (enc : TypeId × Value → H) :
    ReturnsInHanded {} Tryd.checked os 14 .any (fun w args => (Rows.heytingKripkeSpec.pre enc Tryd.prog Tryd.f14 Rows.heytingKripkeRow.domain false w args ∧ laidMetH Tryd.prog tabL w) ∧ sizedMet enc Tryd.prog Tryd.f14 (OpenSpec.ofChange Rows.heytingKripkeSpec) false w args) (Rows.heytingKripkeSpec.post enc Tryd.prog Tryd.f14 false true false false) := by
  refine law_frameT (C := Tryd.checked) (laid := tabL) HeytingKripke_knob started (by kernel_rfl) Tryd.func14
    (ChangeSpec.witness_shaped (enc := enc) (C := Tryd.checked) (os := os) (X := fun w _ => laidMetH Tryd.prog tabL w) false (World.doorLaid Tryd.prog 19 os) #[.agg #[.int .i64 0, .slice none 0 0], .slice none 0 0, .agg #[.int .i64 0, .int .i64 0, .slice none 0 0]] 8 rfl (World.shaped_of_RefB (by kernel_rfl) (by kernel_rfl)) (by kernel_rfl) (by kernel_rfl) (by kernel_rfl) (door_met os _))
    HeytingKripke_laid rfl Tryd.underlying4 (by kernel_rfl) rfl ?_ tab_laid ?_
  · intro ds h
    match ds, h with
    | [d0, d1, d2], _ => rfl
  · intro W base args ds p hval hA
    obtain ⟨v0, v1, v2, d0, d1, d2, p0, p1, p2, rfl, rfl, rfl, h0, h1, h2⟩ := trodAll_three hA
    obtain ⟨N0, l0, u0, rfl, r0, a0, b0, c0⟩ := arg_order Tryd.underlying24 (by kernel_rfl) rfl rfl Tryd.underlying3 (by kernel_rfl) Tryd.underlying22 (by kernel_rfl) Tryd.underlying3 (by kernel_rfl) (hval 0 _ _ rfl rfl) h0
    obtain ⟨l1, r1, b1, c1⟩ := arg_ints Tryd.underlying22 Tryd.underlying3 (by kernel_rfl) (hval 1 _ _ rfl rfl) h1
    obtain ⟨k2, q2, l2, u2, rfl, r2, z2⟩ := arg_treeS Tryd.underlying55 (by kernel_rfl) rfl rfl rfl Tryd.underlying3 Tryd.underlying3 (by kernel_rfl) (by kernel_rfl) Tryd.underlying53 (by kernel_rfl) (hval 2 _ _ rfl rfl) h2
    exact ⟨[_, _, _], ⟨gm_order r0, gm_ints r1, gm_tree r2, trivial⟩, HeytingKripke_ac N0 l0 l1 k2 q2 l2 z2 c1⟩
theorem HeytingKripke_row : Rows.HeytingKripkeSaid :=
  OpenClaim.holds_of_wide 14 Tryd.f14 rfl rfl rfl rfl rfl rfl rfl ⟨rfl, rfl, rfl, rfl, rfl⟩ rfl rfl rfl rfl rfl (by kernel_rfl) Tryd.func14 (by kernel_rfl)
    (of_decide_eq_true (by kernel_rfl)) (by unfold Func.isWrapper; first | (rw [if_pos (by decide +kernel)]; kernel_rfl) | (rw [if_neg (by decide +kernel)]; exact ⟨rfl, rfl⟩))
    (fun os started H enc _ => HeytingKripke_lifted os started H enc)
theorem HeytingKripke_holds : Rows.HeytingKripkeCardSaid :=
  Claim7.holds_tied_plain_at .later [] [.data, .data] true (true, "f51895cc30d3b5502e42c5965200da0814f62ff448adcac35df1d396ea5e06af") false
    HeytingKripke_row (fun _ h => by cases h) (by kernel_rfl) (fun _ h => by cases h) heytingKripke_row_tie rfl ⟨rfl, rfl⟩ (by kernel_rfl) rfl
    (fun f fn hf hfn => by
      obtain rfl : f = 14 := Option.some.inj ((show Tryd.prog.funcNamed "hasse/hasselaw.HeytingKripke" = some 14 by kernel_rfl).symm.trans hf) |>.symm
      obtain rfl : fn = Tryd.f14 := (Option.some.inj (Tryd.func14.symm.trans hfn)).symm
      exact ⟨by kernel_rfl, fun j t ht => by
        rw [Tryd.params14] at ht
        have hm : t ∈ [24, 22, 55] := by simpa using Array.mem_of_getElem? ht
        have hall : ([24, 22, 55].all fun u => !Tryd.prog.wantsStandIn u) = true := by kernel_rfl
        exact (show Tryd.prog.wantsStandIn t = false by simpa using List.all_eq_true.1 hall t hm)⟩)
    (by kernel_rfl)
end Go.Proofs.YtbgecpjlopdkfaaDoor
