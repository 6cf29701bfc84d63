/- Facts on the types of this program, each closed. -/
import Derived.Test.YtdofbddeffgneaaEngZa
import Derived.Test.YtdofbddeffgneaaRows
import Derived.KernelRfl
namespace Go.Proofs.Ytdofbddeffgneaa

theorem tsz3 : SzOf Try.prog 3 1 := by unfold SzOf; kernel_rfl
instance : KSz Try.prog 3 1 := ⟨tsz3⟩
theorem tmk3 : MkT Try.prog 3 (.int .i64 0) 1 8 := by unfold MkT; kernel_rfl
instance : KMk Try.prog 3 (.int .i64 0) 1 8 := ⟨tmk3⟩
theorem tsc3 : ScT Try.prog 3 := ⟨_, Try.underlying3, rfl⟩
instance : KSc Try.prog 3 := ⟨tsc3⟩
theorem tsz4 : SzOf Try.prog 4 1 := by unfold SzOf; kernel_rfl
instance : KSz Try.prog 4 1 := ⟨tsz4⟩
theorem tmk4 : MkT Try.prog 4 (.bool false) 1 1 := by unfold MkT; kernel_rfl
instance : KMk Try.prog 4 (.bool false) 1 1 := ⟨tmk4⟩
instance : KBo Try.prog 4 := ⟨Try.underlying4⟩
theorem tsc4 : ScT Try.prog 4 := ⟨_, Try.underlying4, rfl⟩
instance : KSc Try.prog 4 := ⟨tsc4⟩
theorem tsz22 : SzOf Try.prog 22 1 := by unfold SzOf; kernel_rfl
instance : KSz Try.prog 22 1 := ⟨tsz22⟩
theorem tmk22 : MkT Try.prog 22 (.slice none 0 0) 1 24 := by unfold MkT; kernel_rfl
instance : KMk Try.prog 22 (.slice none 0 0) 1 24 := ⟨tmk22⟩
theorem tsc22 : ScT Try.prog 22 := ⟨_, Try.underlying22, rfl⟩
instance : KSc Try.prog 22 := ⟨tsc22⟩
theorem tsz24 : SzOf Try.prog 24 1 := by unfold SzOf; kernel_rfl
instance : KSz Try.prog 24 1 := ⟨tsz24⟩
theorem tmk24 : MkT Try.prog 24 (.int .i64 0) 1 8 := by unfold MkT; kernel_rfl
instance : KMk Try.prog 24 (.int .i64 0) 1 8 := ⟨tmk24⟩
theorem tsc24 : ScT Try.prog 24 := ⟨_, Try.underlying24, rfl⟩
instance : KSc Try.prog 24 := ⟨tsc24⟩
theorem tsz31 : SzOf Try.prog 31 2 := by unfold SzOf; kernel_rfl
instance : KSz Try.prog 31 2 := ⟨tsz31⟩
theorem tmk31 : MkT Try.prog 31 (.agg #[.int .i64 0, .slice none 0 0]) 2 32 := by unfold MkT; kernel_rfl
instance : KMk Try.prog 31 (.agg #[.int .i64 0, .slice none 0 0]) 2 32 := ⟨tmk31⟩
theorem tag31 : AgT Try.prog 31 2 := ⟨⟨_, Try.underlying31, rfl⟩, tsz31⟩
instance : KAg Try.prog 31 2 := ⟨tag31⟩
theorem tsz48 : SzOf Try.prog 48 1 := by unfold SzOf; kernel_rfl
instance : KSz Try.prog 48 1 := ⟨tsz48⟩
theorem tmk48 : MkT Try.prog 48 (.slice none 0 0) 1 24 := by unfold MkT; kernel_rfl
instance : KMk Try.prog 48 (.slice none 0 0) 1 24 := ⟨tmk48⟩
theorem tsc48 : ScT Try.prog 48 := ⟨_, Try.underlying48, rfl⟩
instance : KSc Try.prog 48 := ⟨tsc48⟩
theorem tsz65 : SzOf Try.prog 65 1 := by unfold SzOf; kernel_rfl
instance : KSz Try.prog 65 1 := ⟨tsz65⟩
theorem tmk65 : MkT Try.prog 65 (.slice none 0 0) 1 24 := by unfold MkT; kernel_rfl
instance : KMk Try.prog 65 (.slice none 0 0) 1 24 := ⟨tmk65⟩
theorem tsc65 : ScT Try.prog 65 := ⟨_, Try.underlying65, rfl⟩
instance : KSc Try.prog 65 := ⟨tsc65⟩
theorem tsz67 : SzOf Try.prog 67 2 := by unfold SzOf; kernel_rfl
instance : KSz Try.prog 67 2 := ⟨tsz67⟩
theorem tmk67 : MkT Try.prog 67 (.agg #[.int .i64 0, .int .i64 0]) 2 16 := by unfold MkT; kernel_rfl
instance : KMk Try.prog 67 (.agg #[.int .i64 0, .int .i64 0]) 2 16 := ⟨tmk67⟩
theorem tag67 : AgT Try.prog 67 2 := ⟨⟨_, Try.underlying67, rfl⟩, tsz67⟩
instance : KAg Try.prog 67 2 := ⟨tag67⟩
theorem tsz69 : SzOf Try.prog 69 1 := by unfold SzOf; kernel_rfl
instance : KSz Try.prog 69 1 := ⟨tsz69⟩
theorem tmk69 : MkT Try.prog 69 (.slice none 0 0) 1 24 := by unfold MkT; kernel_rfl
instance : KMk Try.prog 69 (.slice none 0 0) 1 24 := ⟨tmk69⟩
theorem tsc69 : ScT Try.prog 69 := ⟨_, Try.underlying69, rfl⟩
instance : KSc Try.prog 69 := ⟨tsc69⟩
theorem tsz71 : SzOf Try.prog 71 1 := by unfold SzOf; kernel_rfl
instance : KSz Try.prog 71 1 := ⟨tsz71⟩
theorem tmk71 : MkT Try.prog 71 (.nilFunc) 1 8 := by unfold MkT; kernel_rfl
instance : KMk Try.prog 71 (.nilFunc) 1 8 := ⟨tmk71⟩
theorem tsc71 : ScT Try.prog 71 := ⟨_, Try.underlying71, rfl⟩
instance : KSc Try.prog 71 := ⟨tsc71⟩
theorem tsz79 : SzOf Try.prog 79 1 := by unfold SzOf; kernel_rfl
instance : KSz Try.prog 79 1 := ⟨tsz79⟩
theorem tmk79 : MkT Try.prog 79 (.nilFunc) 1 8 := by unfold MkT; kernel_rfl
instance : KMk Try.prog 79 (.nilFunc) 1 8 := ⟨tmk79⟩
theorem tsc79 : ScT Try.prog 79 := ⟨_, Try.underlying79, rfl⟩
instance : KSc Try.prog 79 := ⟨tsc79⟩
theorem tsz81 : SzOf Try.prog 81 1 := by unfold SzOf; kernel_rfl
instance : KSz Try.prog 81 1 := ⟨tsz81⟩
theorem tmk81 : MkT Try.prog 81 (.nilFunc) 1 8 := by unfold MkT; kernel_rfl
instance : KMk Try.prog 81 (.nilFunc) 1 8 := ⟨tmk81⟩
theorem tsc81 : ScT Try.prog 81 := ⟨_, Try.underlying81, rfl⟩
instance : KSc Try.prog 81 := ⟨tsc81⟩
theorem tsl22 : SlT Try.prog 22 3 1 := ⟨Try.underlying22, tsz3⟩
instance : KSl Try.prog 22 3 1 := ⟨tsl22⟩
theorem tfl31_0 : FlT Try.prog 31 0 0 := ⟨_, _, 0, Try.underlying31, rfl, tsz3, rfl⟩
instance : KFl Try.prog 31 0 0 := ⟨tfl31_0⟩
theorem tfl31_1 : FlT Try.prog 31 1 1 := ⟨_, _, 0, Try.underlying31, rfl, tsz22, rfl⟩
instance : KFl Try.prog 31 1 1 := ⟨tfl31_1⟩
theorem tbd31 : BdT Try.prog 31 [.int .i64 0, .slice none 0 0] (fun i => ([(0, 1), (1, 1)] : List (Nat × Nat))[i]?) := .struct Try.underlying31 tmk31 rfl (szs := [1, 1]) (by kernel_rfl)
instance : KBd Try.prog 31 [.int .i64 0, .slice none 0 0] (fun i => ([(0, 1), (1, 1)] : List (Nat × Nat))[i]?) := ⟨tbd31⟩
theorem tsl48 : SlT Try.prog 48 67 2 := ⟨Try.underlying48, tsz67⟩
instance : KSl Try.prog 48 67 2 := ⟨tsl48⟩
theorem tsl65 : SlT Try.prog 65 22 1 := ⟨Try.underlying65, tsz22⟩
instance : KSl Try.prog 65 22 1 := ⟨tsl65⟩
instance : KEqP Try.prog 67 := ⟨3, ⟨Try.underlying67, tsz3⟩, Try.underlying3, by kernel_rfl⟩
theorem tar67 : ArT Try.prog 67 2 3 1 := ⟨Try.underlying67, tsz3⟩
instance : KAr Try.prog 67 2 3 1 := ⟨tar67⟩
theorem tbd67 : BdT Try.prog 67 [.int .i64 0, .int .i64 0] (fun i => some (i * 1, 1)) := .array tar67 tmk67 rfl
instance : KBd Try.prog 67 [.int .i64 0, .int .i64 0] (fun i => some (i * 1, 1)) := ⟨tbd67⟩
theorem tsl69 : SlT Try.prog 69 31 2 := ⟨Try.underlying69, tsz31⟩
instance : KSl Try.prog 69 31 2 := ⟨tsl69⟩

end Go.Proofs.Ytdofbddeffgneaa
