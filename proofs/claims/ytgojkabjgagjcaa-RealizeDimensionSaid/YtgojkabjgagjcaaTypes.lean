/- Facts on the types of this program, each closed. -/
import Derived.Test.YtgojkabjgagjcaaEngT
import Derived.Test.YtgojkabjgagjcaaRows
import Derived.KernelRfl
namespace Go.Proofs.Ytgojkabjgagjcaa

theorem tsz3 : SzOf Try.prog 3 1 := by unfold SzOf; kernel_rfl
instance : KSz Try.prog 3 1 := ⟨tsz3⟩
theorem tmk3 : MkT Try.prog 3 (.int .i64 0) 1 8 := by unfold MkT; kernel_rfl
instance : KMk Try.prog 3 (.int .i64 0) 1 8 := ⟨tmk3⟩
theorem tsc3 : ScT Try.prog 3 := ⟨_, Try.underlying3, rfl⟩
instance : KSc Try.prog 3 := ⟨tsc3⟩
theorem tsz4 : SzOf Try.prog 4 1 := by unfold SzOf; kernel_rfl
instance : KSz Try.prog 4 1 := ⟨tsz4⟩
theorem tmk4 : MkT Try.prog 4 (.bool false) 1 1 := by unfold MkT; kernel_rfl
instance : KMk Try.prog 4 (.bool false) 1 1 := ⟨tmk4⟩
instance : KBo Try.prog 4 := ⟨Try.underlying4⟩
theorem tsc4 : ScT Try.prog 4 := ⟨_, Try.underlying4, rfl⟩
instance : KSc Try.prog 4 := ⟨tsc4⟩
theorem tsz22 : SzOf Try.prog 22 1 := by unfold SzOf; kernel_rfl
instance : KSz Try.prog 22 1 := ⟨tsz22⟩
theorem tmk22 : MkT Try.prog 22 (.slice none 0 0) 1 24 := by unfold MkT; kernel_rfl
instance : KMk Try.prog 22 (.slice none 0 0) 1 24 := ⟨tmk22⟩
theorem tsc22 : ScT Try.prog 22 := ⟨_, Try.underlying22, rfl⟩
instance : KSc Try.prog 22 := ⟨tsc22⟩
theorem tsz24 : SzOf Try.prog 24 2 := by unfold SzOf; kernel_rfl
instance : KSz Try.prog 24 2 := ⟨tsz24⟩
theorem tmk24 : MkT Try.prog 24 (.agg #[.int .i64 0, .slice none 0 0]) 2 32 := by unfold MkT; kernel_rfl
instance : KMk Try.prog 24 (.agg #[.int .i64 0, .slice none 0 0]) 2 32 := ⟨tmk24⟩
theorem tag24 : AgT Try.prog 24 2 := ⟨⟨_, Try.underlying24, rfl⟩, tsz24⟩
instance : KAg Try.prog 24 2 := ⟨tag24⟩
theorem tsz25 : SzOf Try.prog 25 1 := by unfold SzOf; kernel_rfl
instance : KSz Try.prog 25 1 := ⟨tsz25⟩
theorem tmk25 : MkT Try.prog 25 (.slice none 0 0) 1 24 := by unfold MkT; kernel_rfl
instance : KMk Try.prog 25 (.slice none 0 0) 1 24 := ⟨tmk25⟩
theorem tsc25 : ScT Try.prog 25 := ⟨_, Try.underlying25, rfl⟩
instance : KSc Try.prog 25 := ⟨tsc25⟩
theorem tsz26 : SzOf Try.prog 26 1 := by unfold SzOf; kernel_rfl
instance : KSz Try.prog 26 1 := ⟨tsz26⟩
theorem tmk26 : MkT Try.prog 26 (.int .i64 0) 1 8 := by unfold MkT; kernel_rfl
instance : KMk Try.prog 26 (.int .i64 0) 1 8 := ⟨tmk26⟩
theorem tsc26 : ScT Try.prog 26 := ⟨_, Try.underlying26, rfl⟩
instance : KSc Try.prog 26 := ⟨tsc26⟩
theorem tsz33 : SzOf Try.prog 33 1 := by unfold SzOf; kernel_rfl
instance : KSz Try.prog 33 1 := ⟨tsz33⟩
theorem tmk33 : MkT Try.prog 33 (.slice none 0 0) 1 24 := by unfold MkT; kernel_rfl
instance : KMk Try.prog 33 (.slice none 0 0) 1 24 := ⟨tmk33⟩
theorem tsc33 : ScT Try.prog 33 := ⟨_, Try.underlying33, rfl⟩
instance : KSc Try.prog 33 := ⟨tsc33⟩
theorem tsz39 : SzOf Try.prog 39 1 := by unfold SzOf; kernel_rfl
instance : KSz Try.prog 39 1 := ⟨tsz39⟩
theorem tmk39 : MkT Try.prog 39 (.slice none 0 0) 1 24 := by unfold MkT; kernel_rfl
instance : KMk Try.prog 39 (.slice none 0 0) 1 24 := ⟨tmk39⟩
theorem tsc39 : ScT Try.prog 39 := ⟨_, Try.underlying39, rfl⟩
instance : KSc Try.prog 39 := ⟨tsc39⟩
theorem tsz40 : SzOf Try.prog 40 1 := by unfold SzOf; kernel_rfl
instance : KSz Try.prog 40 1 := ⟨tsz40⟩
theorem tmk40 : MkT Try.prog 40 (.slice none 0 0) 1 24 := by unfold MkT; kernel_rfl
instance : KMk Try.prog 40 (.slice none 0 0) 1 24 := ⟨tmk40⟩
theorem tsc40 : ScT Try.prog 40 := ⟨_, Try.underlying40, rfl⟩
instance : KSc Try.prog 40 := ⟨tsc40⟩
theorem tsz43 : SzOf Try.prog 43 2 := by unfold SzOf; kernel_rfl
instance : KSz Try.prog 43 2 := ⟨tsz43⟩
theorem tmk43 : MkT Try.prog 43 (.agg #[.int .i64 0, .int .i64 0]) 2 16 := by unfold MkT; kernel_rfl
instance : KMk Try.prog 43 (.agg #[.int .i64 0, .int .i64 0]) 2 16 := ⟨tmk43⟩
theorem tag43 : AgT Try.prog 43 2 := ⟨⟨_, Try.underlying43, rfl⟩, tsz43⟩
instance : KAg Try.prog 43 2 := ⟨tag43⟩
theorem tsz57 : SzOf Try.prog 57 1 := by unfold SzOf; kernel_rfl
instance : KSz Try.prog 57 1 := ⟨tsz57⟩
theorem tmk57 : MkT Try.prog 57 (.nilFunc) 1 8 := by unfold MkT; kernel_rfl
instance : KMk Try.prog 57 (.nilFunc) 1 8 := ⟨tmk57⟩
theorem tsc57 : ScT Try.prog 57 := ⟨_, Try.underlying57, rfl⟩
instance : KSc Try.prog 57 := ⟨tsc57⟩
theorem tsz67 : SzOf Try.prog 67 1 := by unfold SzOf; kernel_rfl
instance : KSz Try.prog 67 1 := ⟨tsz67⟩
theorem tmk67 : MkT Try.prog 67 (.nilFunc) 1 8 := by unfold MkT; kernel_rfl
instance : KMk Try.prog 67 (.nilFunc) 1 8 := ⟨tmk67⟩
theorem tsc67 : ScT Try.prog 67 := ⟨_, Try.underlying67, rfl⟩
instance : KSc Try.prog 67 := ⟨tsc67⟩
theorem tsz68 : SzOf Try.prog 68 1 := by unfold SzOf; kernel_rfl
instance : KSz Try.prog 68 1 := ⟨tsz68⟩
theorem tmk68 : MkT Try.prog 68 (.slice none 0 0) 1 24 := by unfold MkT; kernel_rfl
instance : KMk Try.prog 68 (.slice none 0 0) 1 24 := ⟨tmk68⟩
theorem tsc68 : ScT Try.prog 68 := ⟨_, Try.underlying68, rfl⟩
instance : KSc Try.prog 68 := ⟨tsc68⟩
theorem tsl22 : SlT Try.prog 22 3 1 := ⟨Try.underlying22, tsz3⟩
instance : KSl Try.prog 22 3 1 := ⟨tsl22⟩
theorem tfl24_0 : FlT Try.prog 24 0 0 := ⟨_, _, 0, Try.underlying24, rfl, tsz3, rfl⟩
instance : KFl Try.prog 24 0 0 := ⟨tfl24_0⟩
theorem tfl24_1 : FlT Try.prog 24 1 1 := ⟨_, _, 0, Try.underlying24, rfl, tsz22, rfl⟩
instance : KFl Try.prog 24 1 1 := ⟨tfl24_1⟩
theorem tbd24 : BdT Try.prog 24 [.int .i64 0, .slice none 0 0] (fun i => ([(0, 1), (1, 1)] : List (Nat × Nat))[i]?) := .struct Try.underlying24 tmk24 rfl (szs := [1, 1]) (by kernel_rfl)
instance : KBd Try.prog 24 [.int .i64 0, .slice none 0 0] (fun i => ([(0, 1), (1, 1)] : List (Nat × Nat))[i]?) := ⟨tbd24⟩
theorem tsl25 : SlT Try.prog 25 22 1 := ⟨Try.underlying25, tsz22⟩
instance : KSl Try.prog 25 22 1 := ⟨tsl25⟩
theorem tsl33 : SlT Try.prog 33 43 2 := ⟨Try.underlying33, tsz43⟩
instance : KSl Try.prog 33 43 2 := ⟨tsl33⟩
theorem tsl39 : SlT Try.prog 39 40 1 := ⟨Try.underlying39, tsz40⟩
instance : KSl Try.prog 39 40 1 := ⟨tsl39⟩
theorem tsl40 : SlT Try.prog 40 4 1 := ⟨Try.underlying40, tsz4⟩
instance : KSl Try.prog 40 4 1 := ⟨tsl40⟩
instance : KEqP Try.prog 43 := ⟨3, ⟨Try.underlying43, tsz3⟩, Try.underlying3, by kernel_rfl⟩
theorem tar43 : ArT Try.prog 43 2 3 1 := ⟨Try.underlying43, tsz3⟩
instance : KAr Try.prog 43 2 3 1 := ⟨tar43⟩
theorem tbd43 : BdT Try.prog 43 [.int .i64 0, .int .i64 0] (fun i => some (i * 1, 1)) := .array tar43 tmk43 rfl
instance : KBd Try.prog 43 [.int .i64 0, .int .i64 0] (fun i => some (i * 1, 1)) := ⟨tbd43⟩
theorem tsl68 : SlT Try.prog 68 24 2 := ⟨Try.underlying68, tsz24⟩
instance : KSl Try.prog 68 24 2 := ⟨tsl68⟩

end Go.Proofs.Ytgojkabjgagjcaa
