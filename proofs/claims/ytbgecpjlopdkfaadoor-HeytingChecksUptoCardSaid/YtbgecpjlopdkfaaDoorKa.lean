import Derived.Test.YtbgecpjlopdkfaaDoorEngT
import Derived.Test.YtbgecpjlopdkfaaDoorFb
set_option linter.unusedSimpArgs false
set_option linter.unusedVariables false
set_option linter.unusedSectionVars false
set_option maxRecDepth 20000
namespace Go.Proofs.YtbgecpjlopdkfaaDoor
attribute [local irreducible] QOp aL aC qL
def tz64 : List Nat := [0, 1, 56, 2, 57, 49, 28, 3, 61, 58, 42, 50, 38, 29, 17, 4, 62, 47, 59, 36, 45, 43, 51, 22, 53, 39, 33, 30, 24, 18, 12, 5, 63, 55, 48, 27, 60, 41, 37, 16, 46, 35, 44, 21, 52, 32, 23, 11, 54, 26, 40, 15, 34, 20, 31, 10, 25, 14, 19, 9, 13, 8, 7, 6]
def tzi (x : Nat) : Nat := (x &&& (18446744073709551616 - x % 18446744073709551616) % 18446744073709551616) * 285870213051353865 % 18446744073709551616 / 2 ^ (58 : Int).toNat
def tzN (x : Nat) : Nat := tz64.getD (tzi x) 0
/-- The points of a set of ten at most, rising. -/
def mbs (s : Nat) : List Nat := (List.range 10).filter s.testBit
theorem tab_get {i : Nat} (h : i < 64) : (tabN tz64)[i]? = some (.int .u8 ((tz64.getD i 0 : Nat) : Int)) := by
  unfold tabN
  rw [List.getElem?_map, List.getElem?_eq_getElem (show i < tz64.length from h), List.getD_eq_getElem?_getD, List.getElem?_eq_getElem (show i < tz64.length from h)]; rfl
end Go.Proofs.YtbgecpjlopdkfaaDoor
