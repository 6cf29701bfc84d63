/- Facts on the types of this program, each closed. -/
import Derived.Test.YteingglnhmfieaaEngT
import Derived.Test.YteingglnhmfieaaRows
import Derived.KernelRfl
namespace Go.Proofs.Yteingglnhmfieaa

theorem tsz3 : SzOf Try.prog 3 1 := by unfold SzOf; kernel_rfl
instance : KSz Try.prog 3 1 := ⟨tsz3⟩
theorem tmk3 : MkT Try.prog 3 (.int .i64 0) 1 8 := by unfold MkT; kernel_rfl
instance : KMk Try.prog 3 (.int .i64 0) 1 8 := ⟨tmk3⟩
theorem tsc3 : ScT Try.prog 3 := ⟨_, Try.underlying3, rfl⟩
instance : KSc Try.prog 3 := ⟨tsc3⟩
theorem tsz4 : SzOf Try.prog 4 1 := by unfold SzOf; kernel_rfl
instance : KSz Try.prog 4 1 := ⟨tsz4⟩
theorem tmk4 : MkT Try.prog 4 (.bool false) 1 1 := by unfold MkT; kernel_rfl
instance : KMk Try.prog 4 (.bool false) 1 1 := ⟨tmk4⟩
instance : KBo Try.prog 4 := ⟨Try.underlying4⟩
theorem tsc4 : ScT Try.prog 4 := ⟨_, Try.underlying4, rfl⟩
instance : KSc Try.prog 4 := ⟨tsc4⟩
theorem tsz22 : SzOf Try.prog 22 1 := by unfold SzOf; kernel_rfl
instance : KSz Try.prog 22 1 := ⟨tsz22⟩
theorem tmk22 : MkT Try.prog 22 (.slice none 0 0) 1 24 := by unfold MkT; kernel_rfl
instance : KMk Try.prog 22 (.slice none 0 0) 1 24 := ⟨tmk22⟩
theorem tsc22 : ScT Try.prog 22 := ⟨_, Try.underlying22, rfl⟩
instance : KSc Try.prog 22 := ⟨tsc22⟩
theorem tsz23 : SzOf Try.prog 23 1 := by unfold SzOf; kernel_rfl
instance : KSz Try.prog 23 1 := ⟨tsz23⟩
theorem tmk23 : MkT Try.prog 23 (.int .i64 0) 1 8 := by unfold MkT; kernel_rfl
instance : KMk Try.prog 23 (.int .i64 0) 1 8 := ⟨tmk23⟩
theorem tsc23 : ScT Try.prog 23 := ⟨_, Try.underlying23, rfl⟩
instance : KSc Try.prog 23 := ⟨tsc23⟩
theorem tsz27 : SzOf Try.prog 27 1 := by unfold SzOf; kernel_rfl
instance : KSz Try.prog 27 1 := ⟨tsz27⟩
theorem tmk27 : MkT Try.prog 27 (.slice none 0 0) 1 24 := by unfold MkT; kernel_rfl
instance : KMk Try.prog 27 (.slice none 0 0) 1 24 := ⟨tmk27⟩
theorem tsc27 : ScT Try.prog 27 := ⟨_, Try.underlying27, rfl⟩
instance : KSc Try.prog 27 := ⟨tsc27⟩
theorem tsz32 : SzOf Try.prog 32 2 := by unfold SzOf; kernel_rfl
instance : KSz Try.prog 32 2 := ⟨tsz32⟩
theorem tmk32 : MkT Try.prog 32 (.agg #[.int .i64 0, .slice none 0 0]) 2 32 := by unfold MkT; kernel_rfl
instance : KMk Try.prog 32 (.agg #[.int .i64 0, .slice none 0 0]) 2 32 := ⟨tmk32⟩
theorem tag32 : AgT Try.prog 32 2 := ⟨⟨_, Try.underlying32, rfl⟩, tsz32⟩
instance : KAg Try.prog 32 2 := ⟨tag32⟩
theorem tsz39 : SzOf Try.prog 39 1 := by unfold SzOf; kernel_rfl
instance : KSz Try.prog 39 1 := ⟨tsz39⟩
theorem tmk39 : MkT Try.prog 39 (.nilFunc) 1 8 := by unfold MkT; kernel_rfl
instance : KMk Try.prog 39 (.nilFunc) 1 8 := ⟨tmk39⟩
theorem tsc39 : ScT Try.prog 39 := ⟨_, Try.underlying39, rfl⟩
instance : KSc Try.prog 39 := ⟨tsc39⟩
theorem tsz56 : SzOf Try.prog 56 1 := by unfold SzOf; kernel_rfl
instance : KSz Try.prog 56 1 := ⟨tsz56⟩
theorem tmk56 : MkT Try.prog 56 (.slice none 0 0) 1 24 := by unfold MkT; kernel_rfl
instance : KMk Try.prog 56 (.slice none 0 0) 1 24 := ⟨tmk56⟩
theorem tsc56 : ScT Try.prog 56 := ⟨_, Try.underlying56, rfl⟩
instance : KSc Try.prog 56 := ⟨tsc56⟩
theorem tsz68 : SzOf Try.prog 68 1 := by unfold SzOf; kernel_rfl
instance : KSz Try.prog 68 1 := ⟨tsz68⟩
theorem tmk68 : MkT Try.prog 68 (.nilFunc) 1 8 := by unfold MkT; kernel_rfl
instance : KMk Try.prog 68 (.nilFunc) 1 8 := ⟨tmk68⟩
theorem tsc68 : ScT Try.prog 68 := ⟨_, Try.underlying68, rfl⟩
instance : KSc Try.prog 68 := ⟨tsc68⟩
theorem tsz71 : SzOf Try.prog 71 2 := by unfold SzOf; kernel_rfl
instance : KSz Try.prog 71 2 := ⟨tsz71⟩
theorem tmk71 : MkT Try.prog 71 (.agg #[.int .i64 0, .int .i64 0]) 2 16 := by unfold MkT; kernel_rfl
instance : KMk Try.prog 71 (.agg #[.int .i64 0, .int .i64 0]) 2 16 := ⟨tmk71⟩
theorem tag71 : AgT Try.prog 71 2 := ⟨⟨_, Try.underlying71, rfl⟩, tsz71⟩
instance : KAg Try.prog 71 2 := ⟨tag71⟩
theorem tsz76 : SzOf Try.prog 76 1 := by unfold SzOf; kernel_rfl
instance : KSz Try.prog 76 1 := ⟨tsz76⟩
theorem tmk76 : MkT Try.prog 76 (.nilFunc) 1 8 := by unfold MkT; kernel_rfl
instance : KMk Try.prog 76 (.nilFunc) 1 8 := ⟨tmk76⟩
theorem tsc76 : ScT Try.prog 76 := ⟨_, Try.underlying76, rfl⟩
instance : KSc Try.prog 76 := ⟨tsc76⟩
theorem tsz78 : SzOf Try.prog 78 1 := by unfold SzOf; kernel_rfl
instance : KSz Try.prog 78 1 := ⟨tsz78⟩
theorem tmk78 : MkT Try.prog 78 (.nilFunc) 1 8 := by unfold MkT; kernel_rfl
instance : KMk Try.prog 78 (.nilFunc) 1 8 := ⟨tmk78⟩
theorem tsc78 : ScT Try.prog 78 := ⟨_, Try.underlying78, rfl⟩
instance : KSc Try.prog 78 := ⟨tsc78⟩
theorem tsz80 : SzOf Try.prog 80 1 := by unfold SzOf; kernel_rfl
instance : KSz Try.prog 80 1 := ⟨tsz80⟩
theorem tmk80 : MkT Try.prog 80 (.map none) 1 8 := by unfold MkT; kernel_rfl
instance : KMk Try.prog 80 (.map none) 1 8 := ⟨tmk80⟩
theorem tsc80 : ScT Try.prog 80 := ⟨_, Try.underlying80, rfl⟩
instance : KSc Try.prog 80 := ⟨tsc80⟩
theorem tsz87 : SzOf Try.prog 87 1 := by unfold SzOf; kernel_rfl
instance : KSz Try.prog 87 1 := ⟨tsz87⟩
theorem tmk87 : MkT Try.prog 87 (.slice none 0 0) 1 24 := by unfold MkT; kernel_rfl
instance : KMk Try.prog 87 (.slice none 0 0) 1 24 := ⟨tmk87⟩
theorem tsc87 : ScT Try.prog 87 := ⟨_, Try.underlying87, rfl⟩
instance : KSc Try.prog 87 := ⟨tsc87⟩
theorem tsl22 : SlT Try.prog 22 3 1 := ⟨Try.underlying22, tsz3⟩
instance : KSl Try.prog 22 3 1 := ⟨tsl22⟩
theorem tsl27 : SlT Try.prog 27 22 1 := ⟨Try.underlying27, tsz22⟩
instance : KSl Try.prog 27 22 1 := ⟨tsl27⟩
theorem tfl32_0 : FlT Try.prog 32 0 0 := ⟨_, _, 0, Try.underlying32, rfl, tsz3, rfl⟩
instance : KFl Try.prog 32 0 0 := ⟨tfl32_0⟩
theorem tfl32_1 : FlT Try.prog 32 1 1 := ⟨_, _, 0, Try.underlying32, rfl, tsz22, rfl⟩
instance : KFl Try.prog 32 1 1 := ⟨tfl32_1⟩
theorem tbd32 : BdT Try.prog 32 [.int .i64 0, .slice none 0 0] (fun i => ([(0, 1), (1, 1)] : List (Nat × Nat))[i]?) := .struct Try.underlying32 tmk32 rfl (szs := [1, 1]) (by kernel_rfl)
instance : KBd Try.prog 32 [.int .i64 0, .slice none 0 0] (fun i => ([(0, 1), (1, 1)] : List (Nat × Nat))[i]?) := ⟨tbd32⟩
theorem tsl56 : SlT Try.prog 56 71 2 := ⟨Try.underlying56, tsz71⟩
instance : KSl Try.prog 56 71 2 := ⟨tsl56⟩
instance : KEqP Try.prog 71 := ⟨3, ⟨Try.underlying71, tsz3⟩, Try.underlying3, by kernel_rfl⟩
theorem tar71 : ArT Try.prog 71 2 3 1 := ⟨Try.underlying71, tsz3⟩
instance : KAr Try.prog 71 2 3 1 := ⟨tar71⟩
theorem tbd71 : BdT Try.prog 71 [.int .i64 0, .int .i64 0] (fun i => some (i * 1, 1)) := .array tar71 tmk71 rfl
instance : KBd Try.prog 71 [.int .i64 0, .int .i64 0] (fun i => some (i * 1, 1)) := ⟨tbd71⟩
theorem tsl87 : SlT Try.prog 87 32 2 := ⟨Try.underlying87, tsz32⟩
instance : KSl Try.prog 87 32 2 := ⟨tsl87⟩

end Go.Proofs.Yteingglnhmfieaa
