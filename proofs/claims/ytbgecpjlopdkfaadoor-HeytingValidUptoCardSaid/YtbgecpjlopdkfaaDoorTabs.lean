import Derived.Test.YtbgecpjlopdkfaaDoorEngT
import Derived.Test.YtbgecpjlopdkfaaDoorFb
import Derived.Test.YtbgecpjlopdkfaaDoorEngR
import Derived.Test.YtbgecpjlopdkfaaDoorCards
import Derived.Test.YtbgecpjlopdkfaaDoorTie
import Derived.Lib.LaidTab
import Derived.MakeChecks
import Derived.Stop.LaidErr
import Derived.LaidMore
set_option linter.unusedSimpArgs false
set_option linter.unusedVariables false
set_option linter.unusedSectionVars false
set_option maxRecDepth 20000
namespace Go.Proofs.YtbgecpjlopdkfaaDoor
attribute [local irreducible] QOp aL aC qL
def tz64 : List Nat := [0, 1, 56, 2, 57, 49, 28, 3, 61, 58, 42, 50, 38, 29, 17, 4, 62, 47, 59, 36, 45, 43, 51, 22, 53, 39, 33, 30, 24, 18, 12, 5, 63, 55, 48, 27, 60, 41, 37, 16, 46, 35, 44, 21, 52, 32, 23, 11, 54, 26, 40, 15, 34, 20, 31, 10, 25, 14, 19, 9, 13, 8, 7, 6]
def tzi (x : Nat) : Nat := (x &&& (18446744073709551616 - x % 18446744073709551616) % 18446744073709551616) * 285870213051353865 % 18446744073709551616 / 2 ^ (58 : Int).toNat
def tzN (x : Nat) : Nat := tz64.getD (tzi x) 0
/-- The points of a set of ten at most, rising. -/
def mbs (s : Nat) : List Nat := (List.range 10).filter s.testBit
theorem tab_get {i : Nat} (h : i < 64) : (tabN tz64)[i]? = some (.int .u8 ((tz64.getD i 0 : Nat) : Int)) := by
  unfold tabN
  rw [List.getElem?_map, List.getElem?_eq_getElem (show i < tz64.length from h), List.getD_eq_getElem?_getD, List.getElem?_eq_getElem (show i < tz64.length from h)]; rfl
end Go.Proofs.YtbgecpjlopdkfaaDoor
set_option linter.unusedSimpArgs false
set_option linter.unusedVariables false
set_option linter.unusedSectionVars false
set_option maxRecDepth 20000
namespace Go.Proofs.YtbgecpjlopdkfaaDoor
abbrev tabL : List (String × DataW Unit) := [("math/bits.deBruijn32tab", Rows.laid_math_bits_deBruijn32tab), ("math/bits.deBruijn64tab", Rows.laid_math_bits_deBruijn64tab)]
theorem tab_laid (W : World) (h : laidMetH Tryd.prog tabL W) : TabG [] W [] := by
  rw [MakeChecks.laidMetH_plain _ _ _ (by kernel_rfl)] at h
  have hT : Lib.TabIs Tryd.prog W "math/bits.deBruijn64tab" .u8 (tz64.map fun (z : Nat) => (z : Int)) :=
    Lib.tabIs_of_head (g := 1) (by kernel_rfl) rfl Tryd.underlying176 Tryd.underlying5 (by kernel_rfl) (by kernel_rfl) h.tail
  have hg : Tryd.prog.globalNamed "math/bits.deBruijn64tab" = some 1 := by kernel_rfl
  have hc : ∀ k, k < 64 → W.cell? ⟨1, k, none⟩ = some (.int .u8 ((tz64.getD k 0 : Nat) : Int)) := fun k hk => by
    have := hT.cell hg k (by rw [List.length_map]; exact hk)
    rw [this, List.getD_eq_getElem?_getD, List.getElem?_map, List.getElem?_eq_getElem (show k < tz64.length from hk), List.getD_eq_getElem?_getD, List.getElem?_eq_getElem (show k < tz64.length from hk)]; rfl
  have one : ∀ p, p ∈ Tab → p = (1, tabN tz64) := fun p hp => List.mem_singleton.1 hp
  refine ⟨fun p _ ho => noM_own ho, fun p hp => ?_, fun p hp k v hv => ?_⟩
  · rw [one p hp]
    exact World.block_lt_of_cell? W _ (hc 0 (by decide))
  · rw [one p hp] at hv ⊢
    have hk : k < 64 := by
      have := (List.getElem?_eq_some_iff.1 hv).1
      unfold tabN at this
      rw [List.length_map] at this
      exact this
    rw [tab_get hk] at hv
    obtain rfl := Option.some.inj hv
    exact hc k hk
end Go.Proofs.YtbgecpjlopdkfaaDoor
