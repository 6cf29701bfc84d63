import Derived.Test.YtbgecpjlopdkfaaDoorKa
import Derived.Test.YtbgecpjlopdkfaaDoorEngR
import Derived.Test.YtbgecpjlopdkfaaDoorCards
import Derived.Test.YtbgecpjlopdkfaaDoorTie
import Derived.Lib.LaidTab
import Derived.MakeChecks
import Derived.Stop.LaidErr
import Derived.LaidMore
set_option linter.unusedSimpArgs false
set_option linter.unusedVariables false
set_option linter.unusedSectionVars false
set_option maxRecDepth 20000
namespace Go.Proofs.YtbgecpjlopdkfaaDoor
abbrev tabL : List (String × DataW Unit) := [("math/bits.deBruijn32tab", Rows.laid_math_bits_deBruijn32tab), ("math/bits.deBruijn64tab", Rows.laid_math_bits_deBruijn64tab)]
theorem tab_laid (W : World) (h : laidMetH Tryd.prog tabL W) : TabG [] W [] := by
  rw [MakeChecks.laidMetH_plain _ _ _ (by kernel_rfl)] at h
  have hT : Lib.TabIs Tryd.prog W "math/bits.deBruijn64tab" .u8 (tz64.map fun (z : Nat) => (z : Int)) :=
    Lib.tabIs_of_head (g := 1) (by kernel_rfl) rfl Tryd.underlying176 Tryd.underlying5 (by kernel_rfl) (by kernel_rfl) h.tail
  have hg : Tryd.prog.globalNamed "math/bits.deBruijn64tab" = some 1 := by kernel_rfl
  have hc : ∀ k, k < 64 → W.cell? ⟨1, k, none⟩ = some (.int .u8 ((tz64.getD k 0 : Nat) : Int)) := fun k hk => by
    have := hT.cell hg k (by rw [List.length_map]; exact hk)
    rw [this, List.getD_eq_getElem?_getD, List.getElem?_map, List.getElem?_eq_getElem (show k < tz64.length from hk), List.getD_eq_getElem?_getD, List.getElem?_eq_getElem (show k < tz64.length from hk)]; rfl
  have one : ∀ p, p ∈ Tab → p = (1, tabN tz64) := fun p hp => List.mem_singleton.1 hp
  refine ⟨fun p _ ho => noM_own ho, fun p hp => ?_, fun p hp k v hv => ?_⟩
  · rw [one p hp]
    exact World.block_lt_of_cell? W _ (hc 0 (by decide))
  · rw [one p hp] at hv ⊢
    have hk : k < 64 := by
      have := (List.getElem?_eq_some_iff.1 hv).1
      unfold tabN at this
      rw [List.length_map] at this
      exact this
    rw [tab_get hk] at hv
    obtain rfl := Option.some.inj hv
    exact hc k hk
end Go.Proofs.YtbgecpjlopdkfaaDoor
